/- The walks of RelabelApplies and of what it calls, printed by gen.py. -/
import Derived.Test.YtihlealbhlgikaaDoorRaLgReWRelabelAppliesx2
set_option linter.unusedVariables false
namespace Go.Lg
open Go Go.Proofs
set_option maxRecDepth 100000
set_option maxHeartbeats 4000000
theorem c_ref12_Check {A : Nat → Prop} {v0_1 : Value} {v0_13 : Value} {v0_15 : Value} {a0 : api_Point} {w : World} (hs0_1 : Sl rep_api_Pair w A v0_1 a0.Attrs) (hs0_13 : Sl Rep.u w A v0_13 a0.Hist.Pos.Counts) (hs0_15 : Sl Rep.u w A v0_15 a0.Hist.Neg.Counts) {r0 : Int} (h : ref12_Check a0 = some r0) : Rets Tryd.prog 18 [ag (cp a0 v0_1 v0_13 v0_15)] w (fun v w' => v = vi r0 ∧ Ext w w') := by
 unfold ref12_Check at h
 refine Rets.enter Tryd.func18 z z ?_
 have aT : Sl rep_api_Pair w (imm (Lg.O0 A)) v0_1 a0.Attrs := (Sl.start hs0_1)
 have aj : Sl Rep.u w (imm (Lg.O0 A)) v0_13 a0.Hist.Pos.Counts := (Sl.start hs0_13)
 have ak : Sl Rep.u w (imm (Lg.O0 A)) v0_15 a0.Hist.Neg.Counts := (Sl.start hs0_15)
 refine (show WC _ _ _ _ [(0, ag (cp a0 v0_1 v0_13 v0_15))] _ from ?_)
 refine sq (rg ?_)
 have bt := h
 obtain ⟨bp, bq, br, rfl⟩ := aT.shape
 have h := bt
 have bu := h
 obtain ⟨ab, ac, ad, rfl⟩ := aj.shape
 have h := bu
 have bw := h
 obtain ⟨ae, af, ah, rfl⟩ := ak.shape
 have h := bw
 refine WL.box (O := (Lg.O0 A)) 11 (cp a0 (vl bp bq br) (vl ab ac ad) (vl ae af ah)) z z z ?_
 intro a b5 cl e al
 refine wY (ya z) z (nl (th (sq (sq (rg (wY (yf fo41_0 z) z (wY (yl ty9 z z (al.cell 0 _ z)) z (wY (yf fo41_1 z) z (wY (yl ty33 z z (al.cell 1 _ z)) z ?_)))))))))
 have bx := aT.i e z z
 obtain ⟨cs, bz, h⟩ := bnd h
 refine WL.call (vals := [vs a0.Name, (vl bp bq br)]) kok35 z z (c_ref11_Check (A := fun _ => True) (Sl.all bx) bz) ?_
 rintro cm d ⟨rfl, bA⟩
 obtain ⟨r, b6, b7, j⟩ := adoptE b5 (fun k => 1) bA
 refine wY (ya z) z (nl (th (sq (rg (wY (ym z) z (wY (Y.neq_i z z) z (nl (th ?_))))))))
 rcases cnd h with ⟨am, h⟩ | ⟨am, h⟩
 ·refine WC.condT' z am (sq (rg (wY (ym z) z (wY (ya z) z (nl (th (rt (At.thenR ?_))))))))
  obtain rfl := some1 h
  have bB : Stp [] (Lg.O0 A) w r d := (tr_ (su_ e z) (su_ j z))
  exact At.res (.inl z) z (.tmp z .nil) ⟨z, (se_ bB z z)⟩
 ·refine WC.condF' z am (sk (th (sq (sq (rg (wY (yf fo41_2 z) z ?_))))))
  have c := al.st j z
  refine wY (yl ty3 z z (c.cell 2 _ z)) z (wY (Y.lss_i z z) z (wY (ym z) z ?_))
  refine WL.cut 4 (σ := Unit) (fun _ w' => d = w') (fun _ => [(1, pt a 0), (19, vB ((decide (a0.Kind < 1)) || (decide (5 < a0.Kind))))]) ?_ ?_
  ·refine WL.part 15 z (fun an => ?_) (fun an => ?_)
   ·refine WL.gS z z z z (WL.gS z z z z (WL.gS z z z z (wY (Y.pick (b := true) z z) z (WL.ren (v' := vB ((decide (a0.Kind < 1)) || (decide (5 < a0.Kind)))) 19 z (congrArg vB (orT an)) ?_))))
    exact nl (At.join () z (.cons z (.cons z .nil)))
   ·refine ug z z (wY (yf fo41_2 z) z (ug z z (wY (yl ty3 z z (c.cell 2 _ z)) z (ug z z (wY (Y.gtr_i z z) z (wY (Y.pick (b := false) z z) z (WL.ren (v' := vB ((decide (a0.Kind < 1)) || (decide (5 < a0.Kind)))) 19 z (congrArg vB (orF an)) ?_)))))))
    exact nl (At.join () z (.cons z (.cons z .nil)))
  ·rintro _ _ rfl
   refine (show WL _ _ _ _ _ [(1, pt a 0), (19, vB ((decide (a0.Kind < 1)) || (decide (5 < a0.Kind))))] _ from ?_)
   refine nl (th ?_)
   rcases cnd h with ⟨ao, h⟩ | ⟨ao, h⟩
   ·refine WC.condT' z ao (sq (rg (wY (ya z) z (nl (th (rt (At.thenR ?_)))))))
    obtain rfl := some1 h
    have bC : Stp [] (Lg.O0 A) w r d := (tr_ (su_ e z) (su_ j z))
    exact At.res (.inl z) z (.tmp z .nil) ⟨z, (se_ bC z z)⟩
   ·refine WC.condF' z ao (sk (th (sq (sq (rg (wY (yf fo41_2 z) z (wY (yl ty3 z z (c.cell 2 _ z)) z (wY (Y.eql_i z z) z (wY (ym z) z ?_)))))))))
    refine WL.cut 4 (σ := Unit) (fun _ w' => d = w') (fun _ => [(1, pt a 0), (27, vB ((decide (a0.Kind = 3)) && (!decide (a0.Temp = 0))))]) ?_ ?_
    ·refine WL.part 23 z (fun ap => ?_) (fun ap => ?_)
     ·refine ug z z (wY (yf fo41_3 z) z (ug z z (wY (yl ty3 z z (c.cell 3 _ z)) z (ug z z (wY (Y.neq_i z z) z (wY (Y.pick (b := true) z z) z (WL.ren (v' := vB ((decide (a0.Kind = 3)) && (!decide (a0.Temp = 0)))) 27 z (congrArg vB (andT ap)) ?_)))))))
      exact nl (At.join () z (.cons z (.cons z .nil)))
     ·refine WL.gS z z z z (WL.gS z z z z (WL.gS z z z z (wY (Y.pick (b := false) z z) z (WL.ren (v' := vB ((decide (a0.Kind = 3)) && (!decide (a0.Temp = 0)))) 27 z (congrArg vB (andF ap)) ?_))))
      exact nl (At.join () z (.cons z (.cons z .nil)))
    ·rintro _ _ rfl
     refine (show WL _ _ _ _ _ [(1, pt a 0), (27, vB ((decide (a0.Kind = 3)) && (!decide (a0.Temp = 0))))] _ from ?_)
     refine wY (ym z) z ?_
     refine WL.cut 14 (σ := Unit) (fun _ w' => d = w') (fun _ => [(1, pt a 0), (42, vB (((decide (a0.Kind = 3)) && (!decide (a0.Temp = 0))) || (((!decide (a0.Kind = 3)) && (!decide (a0.Temp = 1))) && (!decide (a0.Temp = 2)))))]) ?_ ?_
     ·refine WL.part 28 z (fun aq => ?_) (fun aq => ?_)
      ·refine WL.gS z z z z (WL.gS z z z z (WL.gS z z z z (WL.gS z z z z (WL.gS z z z z (WL.gS z z z z (WL.gS z z z z (WL.gS z z z z (WL.gS z z z z (WL.gS z z z z ?_)))))))))
       refine WL.gS z z z z (WL.gS z z z z (WL.gS z z z z (wY (Y.pick (b := true) z z) z (WL.ren (v' := vB (((decide (a0.Kind = 3)) && (!decide (a0.Temp = 0))) || (((!decide (a0.Kind = 3)) && (!decide (a0.Temp = 1))) && (!decide (a0.Temp = 2))))) 42 z (congrArg vB (orT aq)) ?_))))
       exact nl (At.join () z (.cons z (.cons z .nil)))
      ·refine ug z z (wY (yf fo41_2 z) z (ug z z (wY (yl ty3 z z (c.cell 2 _ z)) z (ug z z (wY (Y.neq_i z z) z (ug z z (wY (ym z) z ?_)))))))
       refine WL.cut 4 (σ := Unit) (fun _ w' => d = w') (fun _ => [(1, pt a 0), (28, vB false), (36, vB ((!decide (a0.Kind = 3)) && (!decide (a0.Temp = 1))))]) ?_ ?_
       ·refine WL.part 32 z (fun ar => ?_) (fun ar => ?_)
        ·refine ug z z (wY (yf fo41_3 z) z (ug z z (wY (yl ty3 z z (c.cell 3 _ z)) z (ug z z (wY (Y.neq_i z z) z (ug z z (wY (Y.pick (b := true) z z) z (WL.ren (v' := vB ((!decide (a0.Kind = 3)) && (!decide (a0.Temp = 1)))) 36 z (congrArg vB (andT ar)) ?_))))))))
         exact nl (At.join () z (.cons z (.cons z (.cons z .nil))))
        ·refine WL.gS z z z z (WL.gS z z z z (WL.gS z z z z (ug z z (wY (Y.pick (b := false) z z) z (WL.ren (v' := vB ((!decide (a0.Kind = 3)) && (!decide (a0.Temp = 1)))) 36 z (congrArg vB (andF ar)) ?_)))))
         exact nl (At.join () z (.cons z (.cons z (.cons z .nil))))
       ·rintro _ _ rfl
        refine (show WL _ _ _ _ _ [(1, pt a 0), (28, vB false), (36, vB ((!decide (a0.Kind = 3)) && (!decide (a0.Temp = 1))))] _ from ?_)
        refine ug z z (wY (ym z) z ?_)
        refine WL.cut 4 (σ := Unit) (fun _ w' => d = w') (fun _ => [(1, pt a 0), (28, vB false), (41, vB (((!decide (a0.Kind = 3)) && (!decide (a0.Temp = 1))) && (!decide (a0.Temp = 2))))]) ?_ ?_
        ·refine WL.part 37 z (fun au => ?_) (fun au => ?_)
         ·refine ug z z (wY (yf fo41_3 z) z (ug z z (wY (yl ty3 z z (c.cell 3 _ z)) z (ug z z (wY (Y.neq_i z z) z (ug z z (wY (Y.pick (b := true) z z) z (WL.ren (v' := vB (((!decide (a0.Kind = 3)) && (!decide (a0.Temp = 1))) && (!decide (a0.Temp = 2)))) 41 z (congrArg vB (andT au)) ?_))))))))
          exact nl (At.join () z (.cons z (.cons z (.cons z .nil))))
         ·refine WL.gS z z z z (WL.gS z z z z (WL.gS z z z z (ug z z (wY (Y.pick (b := false) z z) z (WL.ren (v' := vB (((!decide (a0.Kind = 3)) && (!decide (a0.Temp = 1))) && (!decide (a0.Temp = 2)))) 41 z (congrArg vB (andF au)) ?_)))))
          exact nl (At.join () z (.cons z (.cons z (.cons z .nil))))
        ·rintro _ _ rfl
         refine (show WL _ _ _ _ _ [(1, pt a 0), (28, vB false), (41, vB (((!decide (a0.Kind = 3)) && (!decide (a0.Temp = 1))) && (!decide (a0.Temp = 2))))] _ from ?_)
         refine wY (Y.pick (b := false) z z) z (WL.ren (v' := vB (((decide (a0.Kind = 3)) && (!decide (a0.Temp = 0))) || (((!decide (a0.Kind = 3)) && (!decide (a0.Temp = 1))) && (!decide (a0.Temp = 2))))) 42 z (congrArg vB (orF aq)) ?_)
         exact nl (At.join () z (.cons z (.cons z .nil)))
     ·rintro _ _ rfl
      refine (show WL _ _ _ _ _ [(1, pt a 0), (42, vB (((decide (a0.Kind = 3)) && (!decide (a0.Temp = 0))) || (((!decide (a0.Kind = 3)) && (!decide (a0.Temp = 1))) && (!decide (a0.Temp = 2)))))] _ from ?_)
      refine nl (th ?_)
      rcases cnd h with ⟨av, h⟩ | ⟨av, h⟩
      ·refine WC.condT' z av (sq (rg (wY (ya z) z (nl (th (rt (At.thenR ?_)))))))
       obtain rfl := some1 h
       have bD : Stp [] (Lg.O0 A) w r d := (tr_ (su_ e z) (su_ j z))
       exact At.res (.inl z) z (.tmp z .nil) ⟨z, (se_ bD z z)⟩
      ·refine WC.condF' z av (sk (th (sq (sq (rg (wY (yf fo41_4 z) z (wY (yl ty4 z z (c.cell 4 _ z)) z (wY (ym z) z ?_))))))))
       refine WL.cut 4 (σ := Unit) (fun _ w' => d = w') (fun _ => [(1, pt a 0), (49, vB (a0.Mono && (!decide (a0.Kind = 1))))]) ?_ ?_
       ·refine WL.part 45 z (fun ax => ?_) (fun ax => ?_)
        ·refine ug z z (wY (yf fo41_2 z) z (ug z z (wY (yl ty3 z z (c.cell 2 _ z)) z (ug z z (wY (Y.neq_i z z) z (wY (Y.pick (b := true) z z) z (WL.ren (v' := vB (a0.Mono && (!decide (a0.Kind = 1)))) 49 z (congrArg vB (andT ax)) ?_)))))))
         exact nl (At.join () z (.cons z (.cons z .nil)))
        ·refine WL.gS z z z z (WL.gS z z z z (WL.gS z z z z (wY (Y.pick (b := false) z z) z (WL.ren (v' := vB (a0.Mono && (!decide (a0.Kind = 1)))) 49 z (congrArg vB (andF ax)) ?_))))
         exact nl (At.join () z (.cons z (.cons z .nil)))
       ·rintro _ _ rfl
        refine (show WL _ _ _ _ _ [(1, pt a 0), (49, vB (a0.Mono && (!decide (a0.Kind = 1))))] _ from ?_)
        refine wY (ym z) z ?_
        refine WL.cut 4 (σ := Unit) (fun _ w' => d = w') (fun _ => [(1, pt a 0), (54, vB ((a0.Mono && (!decide (a0.Kind = 1))) && (!decide (a0.Kind = 2))))]) ?_ ?_
        ·refine WL.part 50 z (fun ay => ?_) (fun ay => ?_)
         ·refine ug z z (wY (yf fo41_2 z) z (ug z z (wY (yl ty3 z z (c.cell 2 _ z)) z (ug z z (wY (Y.neq_i z z) z (wY (Y.pick (b := true) z z) z (WL.ren (v' := vB ((a0.Mono && (!decide (a0.Kind = 1))) && (!decide (a0.Kind = 2)))) 54 z (congrArg vB (andT ay)) ?_)))))))
          exact nl (At.join () z (.cons z (.cons z .nil)))
         ·refine WL.gS z z z z (WL.gS z z z z (WL.gS z z z z (wY (Y.pick (b := false) z z) z (WL.ren (v' := vB ((a0.Mono && (!decide (a0.Kind = 1))) && (!decide (a0.Kind = 2)))) 54 z (congrArg vB (andF ay)) ?_))))
          exact nl (At.join () z (.cons z (.cons z .nil)))
        ·rintro _ _ rfl
         refine (show WL _ _ _ _ _ [(1, pt a 0), (54, vB ((a0.Mono && (!decide (a0.Kind = 1))) && (!decide (a0.Kind = 2))))] _ from ?_)
         refine nl (th ?_)
         rcases cnd h with ⟨az, h⟩ | ⟨az, h⟩
         ·refine WC.condT' z az (sq (rg (wY (ya z) z (nl (th (rt (At.thenR ?_)))))))
          obtain rfl := some1 h
          have bE : Stp [] (Lg.O0 A) w r d := (tr_ (su_ e z) (su_ j z))
          exact At.res (.inl z) z (.tmp z .nil) ⟨z, (se_ bE z z)⟩
         ·refine WC.condF' z az (sk (th (sq (sq (rg (wY (yf fo41_5 z) z (wY (yl ty3 z z (c.cell 5 _ z)) z (wY (Y.lss_i z z) z (wY (ym z) z ?_)))))))))
          refine WL.cut 4 (σ := Unit) (fun _ w' => d = w') (fun _ => [(1, pt a 0), (62, vB ((decide (a0.Start < 0)) || (decide (4503599627370496 < a0.Time))))]) ?_ ?_
          ·refine WL.part 58 z (fun aA => ?_) (fun aA => ?_)
           ·refine WL.gS z z z z (WL.gS z z z z (WL.gS z z z z (wY (Y.pick (b := true) z z) z (WL.ren (v' := vB ((decide (a0.Start < 0)) || (decide (4503599627370496 < a0.Time)))) 62 z (congrArg vB (orT aA)) ?_))))
            exact nl (At.join () z (.cons z (.cons z .nil)))
           ·refine ug z z (wY (yf fo41_6 z) z (ug z z (wY (yl ty3 z z (c.cell 6 _ z)) z (ug z z (wY (Y.gtr_i z z) z (wY (Y.pick (b := false) z z) z (WL.ren (v' := vB ((decide (a0.Start < 0)) || (decide (4503599627370496 < a0.Time)))) 62 z (congrArg vB (orF aA)) ?_)))))))
            exact nl (At.join () z (.cons z (.cons z .nil)))
          ·rintro _ _ rfl
           refine (show WL _ _ _ _ _ [(1, pt a 0), (62, vB ((decide (a0.Start < 0)) || (decide (4503599627370496 < a0.Time))))] _ from ?_)
           refine wY (ym z) z ?_
           refine WL.cut 11 (σ := Unit) (fun _ w' => d = w') (fun _ => [(1, pt a 0), (74, vB (((decide (a0.Start < 0)) || (decide (4503599627370496 < a0.Time))) || ((decide (a0.Kind = 3)) && (!decide (a0.Start = a0.Time)))))]) ?_ ?_
           ·refine WL.part 63 z (fun aC => ?_) (fun aC => ?_)
            ·refine WL.gS z z z z (WL.gS z z z z (WL.gS z z z z (WL.gS z z z z (WL.gS z z z z (WL.gS z z z z (WL.gS z z z z (WL.gS z z z z (WL.gS z z z z (WL.gS z z z z ?_)))))))))
             refine wY (Y.pick (b := true) z z) z (WL.ren (v' := vB (((decide (a0.Start < 0)) || (decide (4503599627370496 < a0.Time))) || ((decide (a0.Kind = 3)) && (!decide (a0.Start = a0.Time))))) 74 z (congrArg vB (orT aC)) ?_)
             exact nl (At.join () z (.cons z (.cons z .nil)))
            ·refine ug z z (wY (yf fo41_2 z) z (ug z z (wY (yl ty3 z z (c.cell 2 _ z)) z (ug z z (wY (Y.eql_i z z) z (ug z z (wY (ym z) z ?_)))))))
             refine WL.cut 6 (σ := Unit) (fun _ w' => d = w') (fun _ => [(1, pt a 0), (63, vB false), (73, vB ((decide (a0.Kind = 3)) && (!decide (a0.Start = a0.Time))))]) ?_ ?_
             ·refine WL.part 67 z (fun aD => ?_) (fun aD => ?_)
              ·refine ug z z (wY (yf fo41_5 z) z (ug z z (wY (yl ty3 z z (c.cell 5 _ z)) z (ug z z (wY (yf fo41_6 z) z (ug z z (wY (yl ty3 z z (c.cell 6 _ z)) z (ug z z (wY (Y.neq_i z z) z ?_)))))))))
               refine ug z z (wY (Y.pick (b := true) z z) z (WL.ren (v' := vB ((decide (a0.Kind = 3)) && (!decide (a0.Start = a0.Time)))) 73 z (congrArg vB (andT aD)) ?_))
               exact nl (At.join () z (.cons z (.cons z (.cons z .nil))))
              ·refine WL.gS z z z z (WL.gS z z z z (WL.gS z z z z (WL.gS z z z z (WL.gS z z z z (ug z z (wY (Y.pick (b := false) z z) z (WL.ren (v' := vB ((decide (a0.Kind = 3)) && (!decide (a0.Start = a0.Time)))) 73 z (congrArg vB (andF aD)) ?_)))))))
               exact nl (At.join () z (.cons z (.cons z (.cons z .nil))))
             ·rintro _ _ rfl
              refine (show WL _ _ _ _ _ [(1, pt a 0), (63, vB false), (73, vB ((decide (a0.Kind = 3)) && (!decide (a0.Start = a0.Time))))] _ from ?_)
              refine wY (Y.pick (b := false) z z) z (WL.ren (v' := vB (((decide (a0.Start < 0)) || (decide (4503599627370496 < a0.Time))) || ((decide (a0.Kind = 3)) && (!decide (a0.Start = a0.Time))))) 74 z (congrArg vB (orF aC)) ?_)
              exact nl (At.join () z (.cons z (.cons z .nil)))
           ·rintro _ _ rfl
            refine (show WL _ _ _ _ _ [(1, pt a 0), (74, vB (((decide (a0.Start < 0)) || (decide (4503599627370496 < a0.Time))) || ((decide (a0.Kind = 3)) && (!decide (a0.Start = a0.Time)))))] _ from ?_)
            refine wY (ym z) z ?_
            refine WL.cut 11 (σ := Unit) (fun _ w' => d = w') (fun _ => [(1, pt a 0), (86, vB ((((decide (a0.Start < 0)) || (decide (4503599627370496 < a0.Time))) || ((decide (a0.Kind = 3)) && (!decide (a0.Start = a0.Time)))) || ((!decide (a0.Kind = 3)) && (decide (a0.Time ≤ a0.Start)))))]) ?_ ?_
            ·refine WL.part 75 z (fun aE => ?_) (fun aE => ?_)
             ·refine WL.gS z z z z (WL.gS z z z z (WL.gS z z z z (WL.gS z z z z (WL.gS z z z z (WL.gS z z z z (WL.gS z z z z (WL.gS z z z z (WL.gS z z z z (WL.gS z z z z ?_)))))))))
              refine wY (Y.pick (b := true) z z) z (WL.ren (v' := vB ((((decide (a0.Start < 0)) || (decide (4503599627370496 < a0.Time))) || ((decide (a0.Kind = 3)) && (!decide (a0.Start = a0.Time)))) || ((!decide (a0.Kind = 3)) && (decide (a0.Time ≤ a0.Start))))) 86 z (congrArg vB (orT aE)) ?_)
              exact nl (At.join () z (.cons z (.cons z .nil)))
             ·refine ug z z (wY (yf fo41_2 z) z (ug z z (wY (yl ty3 z z (c.cell 2 _ z)) z (ug z z (wY (Y.neq_i z z) z (ug z z (wY (ym z) z ?_)))))))
              refine WL.cut 6 (σ := Unit) (fun _ w' => d = w') (fun _ => [(1, pt a 0), (75, vB false), (85, vB ((!decide (a0.Kind = 3)) && (decide (a0.Time ≤ a0.Start))))]) ?_ ?_
              ·refine WL.part 79 z (fun aF => ?_) (fun aF => ?_)
               ·refine ug z z (wY (yf fo41_5 z) z (ug z z (wY (yl ty3 z z (c.cell 5 _ z)) z (ug z z (wY (yf fo41_6 z) z (ug z z (wY (yl ty3 z z (c.cell 6 _ z)) z (ug z z (wY (Y.geq_i z z) z ?_)))))))))
                refine ug z z (wY (Y.pick (b := true) z z) z (WL.ren (v' := vB ((!decide (a0.Kind = 3)) && (decide (a0.Time ≤ a0.Start)))) 85 z (congrArg vB (andT aF)) ?_))
                exact nl (At.join () z (.cons z (.cons z (.cons z .nil))))
               ·refine WL.gS z z z z (WL.gS z z z z (WL.gS z z z z (WL.gS z z z z (WL.gS z z z z (ug z z (wY (Y.pick (b := false) z z) z (WL.ren (v' := vB ((!decide (a0.Kind = 3)) && (decide (a0.Time ≤ a0.Start)))) 85 z (congrArg vB (andF aF)) ?_)))))))
                exact nl (At.join () z (.cons z (.cons z (.cons z .nil))))
              ·rintro _ _ rfl
               refine (show WL _ _ _ _ _ [(1, pt a 0), (75, vB false), (85, vB ((!decide (a0.Kind = 3)) && (decide (a0.Time ≤ a0.Start))))] _ from ?_)
               refine wY (Y.pick (b := false) z z) z (WL.ren (v' := vB ((((decide (a0.Start < 0)) || (decide (4503599627370496 < a0.Time))) || ((decide (a0.Kind = 3)) && (!decide (a0.Start = a0.Time)))) || ((!decide (a0.Kind = 3)) && (decide (a0.Time ≤ a0.Start))))) 86 z (congrArg vB (orF aE)) ?_)
               exact nl (At.join () z (.cons z (.cons z .nil)))
            ·rintro _ _ rfl
             refine (show WL _ _ _ _ _ [(1, pt a 0), (86, vB ((((decide (a0.Start < 0)) || (decide (4503599627370496 < a0.Time))) || ((decide (a0.Kind = 3)) && (!decide (a0.Start = a0.Time)))) || ((!decide (a0.Kind = 3)) && (decide (a0.Time ≤ a0.Start)))))] _ from ?_)
             refine nl (th ?_)
             rcases cnd h with ⟨aG, h⟩ | ⟨aG, h⟩
             ·refine WC.condT' z aG (sq (rg (wY (ya z) z (nl (th (rt (At.thenR ?_)))))))
              obtain rfl := some1 h
              have bF : Stp [] (Lg.O0 A) w r d := (tr_ (su_ e z) (su_ j z))
              exact At.res (.inl z) z (.tmp z .nil) ⟨z, (se_ bF z z)⟩
             ·refine WC.condF' z aG (sk (th (sq (sq (rg (wY (yf fo41_2 z) z (wY (yl ty3 z z (c.cell 2 _ z)) z (wY (Y.neq_i z z) z (wY (ym z) z ?_)))))))))
              refine WL.cut 4 (σ := Unit) (fun _ w' => d = w') (fun _ => [(1, pt a 0), (94, vB ((!decide (a0.Kind = 1)) && (!decide (a0.Int_ = 0))))]) ?_ ?_
              ·refine WL.part 90 z (fun aH => ?_) (fun aH => ?_)
               ·refine ug z z (wY (yf fo41_7 z) z (ug z z (wY (yl ty3 z z (c.cell 7 _ z)) z (ug z z (wY (Y.neq_i z z) z (wY (Y.pick (b := true) z z) z (WL.ren (v' := vB ((!decide (a0.Kind = 1)) && (!decide (a0.Int_ = 0)))) 94 z (congrArg vB (andT aH)) ?_)))))))
                exact nl (At.join () z (.cons z (.cons z .nil)))
               ·refine WL.gS z z z z (WL.gS z z z z (WL.gS z z z z (wY (Y.pick (b := false) z z) z (WL.ren (v' := vB ((!decide (a0.Kind = 1)) && (!decide (a0.Int_ = 0)))) 94 z (congrArg vB (andF aH)) ?_))))
                exact nl (At.join () z (.cons z (.cons z .nil)))
              ·rintro _ _ rfl
               refine (show WL _ _ _ _ _ [(1, pt a 0), (94, vB ((!decide (a0.Kind = 1)) && (!decide (a0.Int_ = 0))))] _ from ?_)
               refine wY (ym z) z ?_
               refine WL.cut 9 (σ := Unit) (fun _ w' => d = w') (fun _ => [(1, pt a 0), (104, vB (((!decide (a0.Kind = 1)) && (!decide (a0.Int_ = 0))) || ((!decide (a0.Kind = 5)) && (!decide (a0.Im = 0)))))]) ?_ ?_
               ·refine WL.part 95 z (fun aI => ?_) (fun aI => ?_)
                ·refine WL.gS z z z z (WL.gS z z z z (WL.gS z z z z (WL.gS z z z z (WL.gS z z z z (WL.gS z z z z (WL.gS z z z z (WL.gS z z z z (wY (Y.pick (b := true) z z) z (WL.ren (v' := vB (((!decide (a0.Kind = 1)) && (!decide (a0.Int_ = 0))) || ((!decide (a0.Kind = 5)) && (!decide (a0.Im = 0))))) 104 z (congrArg vB (orT aI)) ?_)))))))))
                 exact nl (At.join () z (.cons z (.cons z .nil)))
                ·refine ug z z (wY (yf fo41_2 z) z (ug z z (wY (yl ty3 z z (c.cell 2 _ z)) z (ug z z (wY (Y.neq_i z z) z (ug z z (wY (ym z) z ?_)))))))
                 refine WL.cut 4 (σ := Unit) (fun _ w' => d = w') (fun _ => [(1, pt a 0), (95, vB false), (103, vB ((!decide (a0.Kind = 5)) && (!decide (a0.Im = 0))))]) ?_ ?_
                 ·refine WL.part 99 z (fun aJ => ?_) (fun aJ => ?_)
                  ·refine ug z z (wY (yf fo41_9 z) z (ug z z (wY (yl ty34 z z (c.cell 9 _ z)) z (ug z z (wY (Y.neq_u (b := 0) z z) z (ug z z (wY (Y.pick (b := true) z z) z (WL.ren (v' := vB ((!decide (a0.Kind = 5)) && (!decide (a0.Im = 0)))) 103 z (congrArg vB (andT aJ)) ?_))))))))
                   exact nl (At.join () z (.cons z (.cons z (.cons z .nil))))
                  ·refine WL.gS z z z z (WL.gS z z z z (WL.gS z z z z (ug z z (wY (Y.pick (b := false) z z) z (WL.ren (v' := vB ((!decide (a0.Kind = 5)) && (!decide (a0.Im = 0)))) 103 z (congrArg vB (andF aJ)) ?_)))))
                   exact nl (At.join () z (.cons z (.cons z (.cons z .nil))))
                 ·rintro _ _ rfl
                  refine (show WL _ _ _ _ _ [(1, pt a 0), (95, vB false), (103, vB ((!decide (a0.Kind = 5)) && (!decide (a0.Im = 0))))] _ from ?_)
                  refine wY (Y.pick (b := false) z z) z (WL.ren (v' := vB (((!decide (a0.Kind = 1)) && (!decide (a0.Int_ = 0))) || ((!decide (a0.Kind = 5)) && (!decide (a0.Im = 0))))) 104 z (congrArg vB (orF aI)) ?_)
                  exact nl (At.join () z (.cons z (.cons z .nil)))
               ·rintro _ _ rfl
                refine (show WL _ _ _ _ _ [(1, pt a 0), (104, vB (((!decide (a0.Kind = 1)) && (!decide (a0.Int_ = 0))) || ((!decide (a0.Kind = 5)) && (!decide (a0.Im = 0)))))] _ from ?_)
                refine wY (ym z) z ?_
                obtain ⟨b8, h, bG⟩ := bnd h
                refine WL.cut 10 (σ := (Bool × Own)) (fun x w' => x.1 = b8 ∧ Stp [] r d x.2 w') (fun x => [(1, pt a 0), (115, vB x.1)]) ?_ ?_
                ·rcases cnd h with ⟨aK, h⟩ | ⟨aK, h⟩
                 ·refine WL.ren 105 z (congrArg vB aK) (WL.gS z z z z (WL.gS z z z z (WL.gS z z z z (WL.gS z z z z (WL.gS z z z z (WL.gS z z z z (WL.gS z z z z (WL.gS z z z z (WL.gS z z z z ?_)))))))))
                  refine wY (Y.pick (b := true) z z) z ?_
                  exact nl (At.join (σ := (Bool × Own)) (true, r) ⟨some1 h, (sr_ _ _ _)⟩ (.cons z (.cons z .nil)))
                 ·refine WL.ren 105 z (congrArg vB aK) (ug z z (wY (yf fo41_2 z) z (ug z z (wY (yl ty3 z z (c.cell 2 _ z)) z (ug z z (wY (Y.neq_i z z) z (ug z z (wY (ym z) z ?_))))))))
                  obtain ⟨b9, h, bH⟩ := bnd h
                  refine WL.cut 5 (σ := (Bool × Own)) (fun x w' => x.1 = b9 ∧ Stp [] r d x.2 w') (fun x => [(1, pt a 0), (105, vB false), (114, vB x.1)]) ?_ ?_
                  ·rcases cnd h with ⟨aL, h⟩ | ⟨aL, h⟩
                   ·refine WL.ren 109 z (congrArg vB aL) (ug z z (wY (yf fo41_10 z) z (ug z z (wY (yL ty39 z z (c.cells 10 (hl a0.Hist (vl ab ac ad) (vl ae af ah)) z) z) z (ug z z ?_)))))
                    have bJ := (aj.i e z z).i j z z
                    have bL := (ak.i e z z).i j z z
                    obtain ⟨ca, bM, h⟩ := bnd h
                    refine WL.call (vals := [ag (hl a0.Hist (vl ab ac ad) (vl ae af ah))]) kok36 z z (c_ref12_none (A := fun _ => True) (a0 := a0.Hist) (Sl.all bJ) (Sl.all bL) bM) ?_
                    rintro cn co ⟨rfl, bO⟩
                    obtain ⟨cb, cc, cd, aY⟩ := adoptE r (fun k => 1) bO
                    refine ug z z (wY (Y.not z) z (ug z z (wY (Y.pick (b := true) z z) z ?_)))
                    exact nl (At.join (σ := (Bool × Own)) ((!ca), cb) ⟨some1 h, (su_ aY z)⟩ (.cons z (.cons z (.cons z .nil))))
                   ·refine WL.ren 109 z (congrArg vB aL) (WL.gS z z z z (WL.gS z z z z (WL.gS z z z z (WL.gS z z z z (ug z z (wY (Y.pick (b := false) z z) z ?_))))))
                    exact nl (At.join (σ := (Bool × Own)) (false, r) ⟨some1 h, (sr_ _ _ _)⟩ (.cons z (.cons z (.cons z .nil))))
                  ·rintro ⟨bs, ce⟩ cq ⟨rfl, aR⟩
                   replace h := bH
                   try dsimp only at h aR
                   refine (show WL _ _ _ _ _ [(1, pt a 0), (105, vB false), (114, vB bs)] _ from ?_)
                   refine wY (Y.pick (b := false) z z) z ?_
                   exact nl (At.join (σ := (Bool × Own)) (bs, ce) ⟨some1 h, (su_ aR z)⟩ (.cons z (.cons z .nil)))
                ·rintro ⟨cf, ai⟩ q ⟨rfl, l⟩
                 replace h := bG
                 try dsimp only at h l
                 refine (show WL _ _ _ _ _ [(1, pt a 0), (115, vB cf)] _ from ?_)
                 refine nl (th ?_)
                 rcases cnd h with ⟨aM, h⟩ | ⟨aM, h⟩
                 ·refine WC.condT' z aM (sq (rg (wY (ya z) z (nl (th (rt (At.thenR ?_)))))))
                  obtain rfl := some1 h
                  have bP : Stp [] (Lg.O0 A) w ai q := (tr_ (su_ e z) (tr_ (su_ j z) (su_ l z)))
                  exact At.res (.inl z) z (.tmp z .nil) ⟨z, (se_ bP z z)⟩
                 ·refine WC.condF' z aM (sk (th (sq (sq (rg (wY (yf fo41_2 z) z ?_))))))
                  have p := c.st l z
                  refine wY (yl ty3 z z (p.cell 2 _ z)) z (wY (Y.eql_i z z) z (wY (ym z) z ?_))
                  refine WL.cut 4 (σ := Unit) (fun _ w' => q = w') (fun _ => [(1, pt a 0), (123, vB ((decide (a0.Kind = 1)) || (decide (a0.Kind = 4))))]) ?_ ?_
                  ·refine WL.part 119 z (fun aN => ?_) (fun aN => ?_)
                   ·refine WL.gS z z z z (WL.gS z z z z (WL.gS z z z z (wY (Y.pick (b := true) z z) z (WL.ren (v' := vB ((decide (a0.Kind = 1)) || (decide (a0.Kind = 4)))) 123 z (congrArg vB (orT aN)) ?_))))
                    exact nl (At.join () z (.cons z (.cons z .nil)))
                   ·refine ug z z (wY (yf fo41_2 z) z (ug z z (wY (yl ty3 z z (p.cell 2 _ z)) z (ug z z (wY (Y.eql_i z z) z (wY (Y.pick (b := false) z z) z (WL.ren (v' := vB ((decide (a0.Kind = 1)) || (decide (a0.Kind = 4)))) 123 z (congrArg vB (orF aN)) ?_)))))))
                    exact nl (At.join () z (.cons z (.cons z .nil)))
                  ·rintro _ _ rfl
                   refine (show WL _ _ _ _ _ [(1, pt a 0), (123, vB ((decide (a0.Kind = 1)) || (decide (a0.Kind = 4))))] _ from ?_)
                   refine wY (ym z) z ?_
                   refine WL.cut 4 (σ := Unit) (fun _ w' => q = w') (fun _ => [(1, pt a 0), (128, vB (((decide (a0.Kind = 1)) || (decide (a0.Kind = 4))) && (!decide (a0.Re = 0))))]) ?_ ?_
                   ·refine WL.part 124 z (fun aO => ?_) (fun aO => ?_)
                    ·refine ug z z (wY (yf fo41_8 z) z (ug z z (wY (yl ty34 z z (p.cell 8 _ z)) z (ug z z (wY (Y.neq_u (b := 0) z z) z (wY (Y.pick (b := true) z z) z (WL.ren (v' := vB (((decide (a0.Kind = 1)) || (decide (a0.Kind = 4))) && (!decide (a0.Re = 0)))) 128 z (congrArg vB (andT aO)) ?_)))))))
                     exact nl (At.join () z (.cons z (.cons z .nil)))
                    ·refine WL.gS z z z z (WL.gS z z z z (WL.gS z z z z (wY (Y.pick (b := false) z z) z (WL.ren (v' := vB (((decide (a0.Kind = 1)) || (decide (a0.Kind = 4))) && (!decide (a0.Re = 0)))) 128 z (congrArg vB (andF aO)) ?_))))
                     exact nl (At.join () z (.cons z (.cons z .nil)))
                   ·rintro _ _ rfl
                    refine (show WL _ _ _ _ _ [(1, pt a 0), (128, vB (((decide (a0.Kind = 1)) || (decide (a0.Kind = 4))) && (!decide (a0.Re = 0))))] _ from ?_)
                    refine wY (ym z) z ?_
                    refine WL.cut 4 (σ := Unit) (fun _ w' => q = w') (fun _ => [(1, pt a 0), (133, vB ((((decide (a0.Kind = 1)) || (decide (a0.Kind = 4))) && (!decide (a0.Re = 0))) || (decide (a0.Flags < 0))))]) ?_ ?_
                    ·refine WL.part 129 z (fun aP => ?_) (fun aP => ?_)
                     ·refine WL.gS z z z z (WL.gS z z z z (WL.gS z z z z (wY (Y.pick (b := true) z z) z (WL.ren (v' := vB ((((decide (a0.Kind = 1)) || (decide (a0.Kind = 4))) && (!decide (a0.Re = 0))) || (decide (a0.Flags < 0)))) 133 z (congrArg vB (orT aP)) ?_))))
                      exact nl (At.join () z (.cons z (.cons z .nil)))
                     ·refine ug z z (wY (yf fo41_11 z) z (ug z z (wY (yl ty3 z z (p.cell 16 _ z)) z (ug z z (wY (Y.lss_i z z) z (wY (Y.pick (b := false) z z) z (WL.ren (v' := vB ((((decide (a0.Kind = 1)) || (decide (a0.Kind = 4))) && (!decide (a0.Re = 0))) || (decide (a0.Flags < 0)))) 133 z (congrArg vB (orF aP)) ?_)))))))
                      exact nl (At.join () z (.cons z (.cons z .nil)))
                    ·rintro _ _ rfl
                     refine (show WL _ _ _ _ _ [(1, pt a 0), (133, vB ((((decide (a0.Kind = 1)) || (decide (a0.Kind = 4))) && (!decide (a0.Re = 0))) || (decide (a0.Flags < 0))))] _ from ?_)
                     refine wY (ym z) z ?_
                     refine WL.cut 4 (σ := Unit) (fun _ w' => q = w') (fun _ => [(1, pt a 0), (138, vB (((((decide (a0.Kind = 1)) || (decide (a0.Kind = 4))) && (!decide (a0.Re = 0))) || (decide (a0.Flags < 0))) || (decide (31 < a0.Flags))))]) ?_ ?_
                     ·refine WL.part 134 z (fun G => ?_) (fun G => ?_)
                      ·refine WL.gS z z z z (WL.gS z z z z (WL.gS z z z z (wY (Y.pick (b := true) z z) z (WL.ren (v' := vB (((((decide (a0.Kind = 1)) || (decide (a0.Kind = 4))) && (!decide (a0.Re = 0))) || (decide (a0.Flags < 0))) || (decide (31 < a0.Flags)))) 138 z (congrArg vB (orT G)) ?_))))
                       exact nl (At.join () z (.cons z (.cons z .nil)))
                      ·refine ug z z (wY (yf fo41_11 z) z (ug z z (wY (yl ty3 z z (p.cell 16 _ z)) z (ug z z (wY (Y.gtr_i z z) z (wY (Y.pick (b := false) z z) z (WL.ren (v' := vB (((((decide (a0.Kind = 1)) || (decide (a0.Kind = 4))) && (!decide (a0.Re = 0))) || (decide (a0.Flags < 0))) || (decide (31 < a0.Flags)))) 138 z (congrArg vB (orF G)) ?_)))))))
                       exact nl (At.join () z (.cons z (.cons z .nil)))
                     ·rintro _ _ rfl
                      refine (show WL _ _ _ _ _ [(1, pt a 0), (138, vB (((((decide (a0.Kind = 1)) || (decide (a0.Kind = 4))) && (!decide (a0.Re = 0))) || (decide (a0.Flags < 0))) || (decide (31 < a0.Flags))))] _ from ?_)
                      refine nl (th ?_)
                      rcases cnd h with ⟨H, h⟩ | ⟨H, h⟩
                      ·refine WC.condT' z H (sq (rg (wY (ya z) z (nl (th (rt (At.thenR ?_)))))))
                       obtain rfl := some1 h
                       have aZ : Stp [] (Lg.O0 A) w ai q := (tr_ (su_ e z) (tr_ (su_ j z) (su_ l z)))
                       exact At.res (.inl z) z (.tmp z .nil) ⟨z, (se_ aZ z z)⟩
                      ·refine WC.condF' z H (sk (th (sq (sq (rg (wY (yf fo41_4 z) z (wY (yl ty4 z z (p.cell 4 _ z)) z (wY (ym z) z ?_))))))))
                       refine WL.cut 4 (σ := Unit) (fun _ w' => q = w') (fun _ => [(1, pt a 0), (145, vB (a0.Mono && (decide (a0.Kind = 2))))]) ?_ ?_
                       ·refine WL.part 141 z (fun I => ?_) (fun I => ?_)
                        ·refine ug z z (wY (yf fo41_2 z) z (ug z z (wY (yl ty3 z z (p.cell 2 _ z)) z (ug z z (wY (Y.eql_i z z) z (wY (Y.pick (b := true) z z) z (WL.ren (v' := vB (a0.Mono && (decide (a0.Kind = 2)))) 145 z (congrArg vB (andT I)) ?_)))))))
                         exact nl (At.join () z (.cons z (.cons z .nil)))
                        ·refine WL.gS z z z z (WL.gS z z z z (WL.gS z z z z (wY (Y.pick (b := false) z z) z (WL.ren (v' := vB (a0.Mono && (decide (a0.Kind = 2)))) 145 z (congrArg vB (andF I)) ?_))))
                         exact nl (At.join () z (.cons z (.cons z .nil)))
                       ·rintro _ _ rfl
                        refine (show WL _ _ _ _ _ [(1, pt a 0), (145, vB (a0.Mono && (decide (a0.Kind = 2))))] _ from ?_)
                        refine wY (ym z) z ?_
                        obtain ⟨bQ, h, a1⟩ := bnd h
                        refine WL.cut 5 (σ := (Bool × Own)) (fun x w' => x.1 = bQ ∧ Stp [] ai q x.2 w') (fun x => [(1, pt a 0), (151, vB x.1)]) ?_ ?_
                        ·rcases cnd h with ⟨J, h⟩ | ⟨J, h⟩
                         ·refine WL.ren 146 z (congrArg vB J) (ug z z (wY (yf fo41_8 z) z (ug z z (wY (yl ty34 z z (p.cell 8 _ z)) z (ug z z ?_)))))
                          obtain ⟨bR, a2, h⟩ := bnd h
                          refine WL.call (vals := [vu a0.Re]) kok37 z z (c_ref05_Finite a2) ?_
                          rintro cg ch ⟨rfl, a3⟩
                          obtain ⟨bS, bZ, b0, aU⟩ := adoptE ai (fun k => 1) a3
                          refine ug z z (wY (Y.not z) z (wY (Y.pick (b := true) z z) z ?_))
                          exact nl (At.join (σ := (Bool × Own)) ((!bR), bS) ⟨some1 h, (su_ aU z)⟩ (.cons z (.cons z .nil)))
                         ·refine WL.ren 146 z (congrArg vB J) (WL.gS z z z z (WL.gS z z z z (WL.gS z z z z (WL.gS z z z z (wY (Y.pick (b := false) z z) z ?_)))))
                          exact nl (At.join (σ := (Bool × Own)) (false, ai) ⟨some1 h, (sr_ _ _ _)⟩ (.cons z (.cons z .nil)))
                        ·rintro ⟨bT, K⟩ M ⟨rfl, m⟩
                         replace h := a1
                         try dsimp only at h m
                         refine (show WL _ _ _ _ _ [(1, pt a 0), (151, vB bT)] _ from ?_)
                         refine nl (th ?_)
                         rcases cnd h with ⟨Q, h⟩ | ⟨Q, h⟩
                         ·refine WC.condT' z Q (sq (rg (wY (ya z) z (nl (th (rt (At.thenR ?_)))))))
                          obtain rfl := some1 h
                          have a4 : Stp [] (Lg.O0 A) w K M := (tr_ (su_ e z) (tr_ (su_ j z) (tr_ (su_ l z) (su_ m z))))
                          exact At.res (.inl z) z (.tmp z .nil) ⟨z, (se_ a4 z z)⟩
                         ·refine WC.condF' z Q (sk (th (sq (sq (rg (wY (yf fo41_4 z) z ?_))))))
                          have t := p.st m z
                          refine wY (yl ty4 z z (t.cell 4 _ z)) z (wY (ym z) z ?_)
                          refine WL.cut 4 (σ := Unit) (fun _ w' => M = w') (fun _ => [(1, pt a 0), (158, vB (a0.Mono && (decide (a0.Kind = 2))))]) ?_ ?_
                          ·refine WL.part 154 z (fun S => ?_) (fun S => ?_)
                           ·refine ug z z (wY (yf fo41_2 z) z (ug z z (wY (yl ty3 z z (t.cell 2 _ z)) z (ug z z (wY (Y.eql_i z z) z (wY (Y.pick (b := true) z z) z (WL.ren (v' := vB (a0.Mono && (decide (a0.Kind = 2)))) 158 z (congrArg vB (andT S)) ?_)))))))
                            exact nl (At.join () z (.cons z (.cons z .nil)))
                           ·refine WL.gS z z z z (WL.gS z z z z (WL.gS z z z z (wY (Y.pick (b := false) z z) z (WL.ren (v' := vB (a0.Mono && (decide (a0.Kind = 2)))) 158 z (congrArg vB (andF S)) ?_))))
                            exact nl (At.join () z (.cons z (.cons z .nil)))
                          ·rintro _ _ rfl
                           refine (show WL _ _ _ _ _ [(1, pt a 0), (158, vB (a0.Mono && (decide (a0.Kind = 2))))] _ from ?_)
                           refine wY (ym z) z ?_
                           obtain ⟨bU, h, a5⟩ := bnd h
                           refine WL.cut 4 (σ := (Bool × Own)) (fun x w' => x.1 = bU ∧ Stp [] K M x.2 w') (fun x => [(1, pt a 0), (163, vB x.1)]) ?_ ?_
                           ·rcases cnd h with ⟨T, h⟩ | ⟨T, h⟩
                            ·refine WL.ren 159 z (congrArg vB T) (ug z z (wY (yf fo41_8 z) z (ug z z (wY (yl ty34 z z (t.cell 8 _ z)) z (ug z z ?_)))))
                             obtain ⟨bW, a6, h⟩ := bnd h
                             refine WL.call (vals := [vu a0.Re, vu 0]) kok38 z z (c_ref05_Less a6) ?_
                             rintro ci cj ⟨rfl, a7⟩
                             obtain ⟨bX, b1, b2, aW⟩ := adoptE K (fun k => 1) a7
                             refine wY (Y.pick (b := true) z z) z ?_
                             exact nl (At.join (σ := (Bool × Own)) (bW, bX) ⟨some1 h, (su_ aW z)⟩ (.cons z (.cons z .nil)))
                            ·refine WL.ren 159 z (congrArg vB T) (WL.gS z z z z (WL.gS z z z z (WL.gS z z z z (wY (Y.pick (b := false) z z) z ?_))))
                             exact nl (At.join (σ := (Bool × Own)) (false, K) ⟨some1 h, (sr_ _ _ _)⟩ (.cons z (.cons z .nil)))
                           ·rintro ⟨F, aQ⟩ D ⟨rfl, o⟩
                            replace h := a5
                            try dsimp only at h o
                            refine (show WL _ _ _ _ _ [(1, pt a 0), (163, vB F)] _ from ?_)
                            refine wY (ym z) z ?_
                            refine WL.cut 13 (σ := Unit) (fun _ w' => D = w') (fun _ => [(1, pt a 0), (177, vB (F || ((a0.Mono && (decide (a0.Kind = 1))) && (decide (a0.Int_ < 0)))))]) ?_ ?_
                            ·refine WL.part 164 z (fun U => ?_) (fun U => ?_)
                             ·refine WL.gS z z z z (WL.gS z z z z (WL.gS z z z z (WL.gS z z z z (WL.gS z z z z (WL.gS z z z z (WL.gS z z z z (WL.gS z z z z (WL.gS z z z z (WL.gS z z z z ?_)))))))))
                              refine WL.gS z z z z (WL.gS z z z z (wY (Y.pick (b := true) z z) z (WL.ren (v' := vB (F || ((a0.Mono && (decide (a0.Kind = 1))) && (decide (a0.Int_ < 0))))) 177 z (congrArg vB (orT U)) ?_)))
                              exact nl (At.join () z (.cons z (.cons z .nil)))
                             ·refine ug z z (wY (yf fo41_4 z) z (ug z z ?_))
                              have V := t.st o z
                              refine wY (yl ty4 z z (V.cell 4 _ z)) z (ug z z (wY (ym z) z ?_))
                              refine WL.cut 4 (σ := Unit) (fun _ w' => D = w') (fun _ => [(1, pt a 0), (164, vB false), (171, vB (a0.Mono && (decide (a0.Kind = 1))))]) ?_ ?_
                              ·refine WL.part 167 z (fun W => ?_) (fun W => ?_)
                               ·refine ug z z (wY (yf fo41_2 z) z (ug z z (wY (yl ty3 z z (V.cell 2 _ z)) z (ug z z (wY (Y.eql_i z z) z (ug z z (wY (Y.pick (b := true) z z) z (WL.ren (v' := vB (a0.Mono && (decide (a0.Kind = 1)))) 171 z (congrArg vB (andT W)) ?_))))))))
                                exact nl (At.join () z (.cons z (.cons z (.cons z .nil))))
                               ·refine WL.gS z z z z (WL.gS z z z z (WL.gS z z z z (ug z z (wY (Y.pick (b := false) z z) z (WL.ren (v' := vB (a0.Mono && (decide (a0.Kind = 1)))) 171 z (congrArg vB (andF W)) ?_)))))
                                exact nl (At.join () z (.cons z (.cons z (.cons z .nil))))
                              ·rintro _ _ rfl
                               refine (show WL _ _ _ _ _ [(1, pt a 0), (164, vB false), (171, vB (a0.Mono && (decide (a0.Kind = 1))))] _ from ?_)
                               refine ug z z (wY (ym z) z ?_)
                               refine WL.cut 4 (σ := Unit) (fun _ w' => D = w') (fun _ => [(1, pt a 0), (164, vB false), (176, vB ((a0.Mono && (decide (a0.Kind = 1))) && (decide (a0.Int_ < 0))))]) ?_ ?_
                               ·refine WL.part 172 z (fun X => ?_) (fun X => ?_)
                                ·refine ug z z (wY (yf fo41_7 z) z (ug z z (wY (yl ty3 z z (V.cell 7 _ z)) z (ug z z (wY (Y.lss_i z z) z (ug z z (wY (Y.pick (b := true) z z) z (WL.ren (v' := vB ((a0.Mono && (decide (a0.Kind = 1))) && (decide (a0.Int_ < 0)))) 176 z (congrArg vB (andT X)) ?_))))))))
                                 exact nl (At.join () z (.cons z (.cons z (.cons z .nil))))
                                ·refine WL.gS z z z z (WL.gS z z z z (WL.gS z z z z (ug z z (wY (Y.pick (b := false) z z) z (WL.ren (v' := vB ((a0.Mono && (decide (a0.Kind = 1))) && (decide (a0.Int_ < 0)))) 176 z (congrArg vB (andF X)) ?_)))))
                                 exact nl (At.join () z (.cons z (.cons z (.cons z .nil))))
                               ·rintro _ _ rfl
                                refine (show WL _ _ _ _ _ [(1, pt a 0), (164, vB false), (176, vB ((a0.Mono && (decide (a0.Kind = 1))) && (decide (a0.Int_ < 0))))] _ from ?_)
                                refine wY (Y.pick (b := false) z z) z (WL.ren (v' := vB (F || ((a0.Mono && (decide (a0.Kind = 1))) && (decide (a0.Int_ < 0))))) 177 z (congrArg vB (orF U)) ?_)
                                exact nl (At.join () z (.cons z (.cons z .nil)))
                            ·rintro _ _ rfl
                             refine (show WL _ _ _ _ _ [(1, pt a 0), (177, vB (F || ((a0.Mono && (decide (a0.Kind = 1))) && (decide (a0.Int_ < 0)))))] _ from ?_)
                             refine nl (th ?_)
                             rcases cnd h with ⟨Z, h⟩ | ⟨Z, h⟩
                             ·refine WC.condT' z Z (sq (rg (wY (ya z) z (nl (th (rt (At.thenR ?_)))))))
                              obtain rfl := some1 h
                              have a8 : Stp [] (Lg.O0 A) w aQ D := (tr_ (su_ e z) (tr_ (su_ j z) (tr_ (su_ l z) (tr_ (su_ m z) (su_ o z)))))
                              exact At.res (.inl z) z (.tmp z .nil) ⟨z, (se_ a8 z z)⟩
                             ·refine WC.condF' z Z (sk (th (sq (sq (rg (wY (yf fo41_2 z) z ?_))))))
                              have aS := t.st o z
                              refine wY (yl ty3 z z (aS.cell 2 _ z)) z (wY (Y.eql_i z z) z (nl (th ?_)))
                              rcases cnd h with ⟨aa, h⟩ | ⟨aa, h⟩
                              ·refine WC.condT' z aa (sq (rg (wY (yf fo41_10 z) z (wY (yL ty39 z z (aS.cells 10 (hl a0.Hist (vl ab ac ad) (vl ae af ah)) z) z) z ?_))))
                               have bd := ((((aj.i e z z).i j z z).i l z z).i m z z).i o z z
                               have bj := ((((ak.i e z z).i j z z).i l z z).i m z z).i o z z
                               obtain ⟨cr, bk, h⟩ := bnd h
                               refine WL.call (vals := [ag (hl a0.Hist (vl ab ac ad) (vl ae af ah))]) kok39 z z (c_ref08_Check (A := fun _ => True) (a0 := a0.Hist) (Sl.all bd) (Sl.all bj) bk) ?_
                               rintro ck bl ⟨rfl, bm⟩
                               obtain ⟨bY, b3, b4, aX⟩ := adoptE aQ (fun k => 1) bm
                               refine wY (ya z) z (nl (th (rt (At.thenR ?_))))
                               obtain rfl := some1 h
                               have bn : Stp [] (Lg.O0 A) w bY bl := (tr_ (su_ e z) (tr_ (su_ j z) (tr_ (su_ l z) (tr_ (su_ m z) (tr_ (su_ o z) (su_ aX z))))))
                               exact At.res (.inl z) z (.tmp z .nil) ⟨z, (se_ bn z z)⟩
                              ·refine WC.condF' z aa (sk (th (sq (rg (wY (ya z) z (nl (th (rt ?_))))))))
                               obtain rfl := some1 h
                               have bo : Stp [] (Lg.O0 A) w aQ D := (tr_ (su_ e z) (tr_ (su_ j z) (tr_ (su_ l z) (tr_ (su_ m z) (su_ o z)))))
                               exact At.res (.inl z) z (.tmp z .nil) ⟨z, (se_ bo z z)⟩
theorem c_ref33_get {A : Nat → Prop} {a0 : List api_Pair} {v0 : Value} {a1 : List UInt8} {w : World} (hs0 : Sl rep_api_Pair w A v0 a0) {r0 : List UInt8} {r1 : Bool} (h : ref33_get a0 a1 = some (r0, r1)) : Rets Tryd.prog 40 [v0, vs a1] w (fun v w' => v = tp [vs r0, vB r1] ∧ Ext w w') := by
 unfold ref33_get at h
 refine Rets.enter Tryd.func40 z z ?_
 have a : Sl rep_api_Pair w (imm (Lg.O0 A)) v0 a0 := (Sl.start hs0)
 refine (show WC _ _ _ _ [(0, v0), (1, vs a1)] _ from ?_)
 refine sq (rg (wY (ya (v := vs []) z) z (wY (ya z) z (nl (th (sq (sq (rg (wY (ya z) z ?_)))))))))
 refine nl (th (WC.block ?_))
 obtain ⟨F, h, m⟩ := flow1 h
 obtain ⟨G, h⟩ := loop_some h
 refine WC.joinB 0 (σ := Unit) (fun x w' => F = .go () ∧ w = w') (fun x => []) ?_ ?_
 ·refine WC.loop (σ := Int) (fun x k w' => loopN k (ref33_get_lp1 a0 a1) x = some F ∧ w = w') (fun x => [(0, v0), (1, vs a1), (6, vi x)]) 0 G (.cons z (.cons z (.cons z .nil))) ⟨h, z⟩ ?_
  rintro aa G _ ⟨h, rfl⟩
  obtain ⟨ab, ak, rfl, h, c⟩ := rnd1 h
  unfold ref33_get_lp1 at h
  try dsimp only at h
  refine (show WC _ _ _ _ [(0, v0), (1, vs a1), (6, vi aa)] _ from ?_)
  refine sq (sq (rg (wY (ym z) z (wY (ym z) z (wY (Y.len ty33 z a) z (wY (Y.lss_i z z) z (nl (th ?_))))))))
  rcases cnd h with ⟨d, h⟩ | ⟨d, h⟩
  ·refine WC.condT' z d (sk (th (sq (WC.block (sq (rg (wY (ym z) z (wY (ym z) z ?_))))))))
   obtain ⟨o, H, h⟩ := bnd h
   obtain ⟨al, ad, ae, ai, I, J, K, e, q, M⟩ := Sl.at2 a H
   obtain ⟨_, _, rfl, rfl, rfl⟩ := q
   replace e : CellsAt _ _ _ [vs o.Key, vs o.Val] := e
   have r := CAt.imm e M
   refine wY (Y.indexAddr ty33 ty59 z I z J K) z (wY (yf fo59_0 z) z (wY (yl ty9 z z (r.at_.sub 0 [vs o.Key] z)) z (wY (ym z) z (wY (Y.eql_s z z) z (nl (th ?_))))))
   rcases cnd h with ⟨j, h⟩ | ⟨j, h⟩
   ·refine WC.condT' z j (sq (rg (wY (ym z) z (wY (ym z) z ?_))))
    obtain ⟨p, Q, h⟩ := bnd h
    obtain ⟨am, af, ah, aj, S, T, U, l, t, V⟩ := Sl.at2 a Q
    obtain ⟨_, _, rfl, rfl, rfl⟩ := t
    replace l : CellsAt _ _ _ [vs p.Key, vs p.Val] := l
    have D := CAt.imm l V
    refine wY (Y.indexAddr ty33 ty59 z S z T U) z (wY (yf fo59_1 z) z (wY (yl ty9 z z (D.at_.sub 1 [vs p.Val] z)) z (wY (ya z) z (wY (ya z) z (nl (th (rt (At.inBlockR (At.thenR ?_)))))))))
    refine At.loopR ?_
    have h := outr1 h c m
    refine At.joinBR (At.inBlockR (At.thenR ?_))
    obtain ⟨rfl, rfl⟩ := tup2 h
    have W : Stp [] (Lg.O0 A) w (Lg.O0 A) w := (sr_ _ _ _)
    exact At.res (.inl z) z (.tmp z (.tmp z .nil)) ⟨z, (se_ W z z)⟩
   ·refine WC.condF' z j (sk (At.inBlock (th (rg (wY (ym z) z (wY (Y.add_i z z) z ?_))))))
    obtain ⟨ac, X, h⟩ := lt1 h
    refine WL.yE (ya z) (congrArg vi X.symm) z (nl ?_)
    exact At.round ac ab (Nat.lt_succ_self _) ⟨next1 h c, z⟩ (.cons z (.cons z (.cons z .nil)))
  ·refine WC.condF' z d (WC.exit (At.thenX (At.loopX ?_)))
   exact At.hitB (σ := Unit) () ⟨brk1 h c, z⟩ .nil
 ·rintro _ _ ⟨rfl, rfl⟩
  replace h := flowK_go m
  refine (show At _ _ _ [] _ from ?_)
  refine At.inBlockHit (th (sq (rg (wY (ya (v := vs []) z) z (wY (ya z) z (nl (th (rt ?_))))))))
  obtain ⟨rfl, rfl⟩ := tup2 h
  have Z : Stp [] (Lg.O0 A) w (Lg.O0 A) w := (sr_ _ _ _)
  exact At.res (.inl z) z (.tmp z (.tmp z .nil)) ⟨z, (se_ Z z z)⟩
theorem c_ref32_nothing {a0 : Bool} {w : World} {r0 : List Bool} (h : ref32_nothing a0 = some r0) : Rets Tryd.prog 47 [vB a0] w (fun v w' => ∃ (V : Value), v = V ∧ Ext w w' ∧ RowF Rep.B 4 w w' V r0) := by
 unfold ref32_nothing at h
 refine Rets.enter Tryd.func47 z z ?_
 refine (show WC _ _ _ _ [(0, vB a0)] _ from ?_)
 refine sq (rg (wY (ya z) z (nl (th (sq (rg (wY (ya z) z (nl (th ?_)))))))))
 refine sq (sq (rg (wY (ya z) z (nl (th (WC.block ?_))))))
 obtain ⟨D, h, I⟩ := flow1 h
 obtain ⟨F, h⟩ := loop_some h
 refine WC.joinB 0 (σ := (List Bool × Own × Value)) (fun x w' => D = .go x.1 ∧ Stp [12, 1001] (Lg.O0 (fun _ => False)) w x.2.1 w' ∧ OwnSl 1002 Rep.B 4 x.2.1 w' x.2.2 x.1) (fun x => [(3, x.2.2)]) ?_ ?_
 ·refine WC.loop (σ := (List Bool × Int × Own × Value)) (fun x k w' => loopN k (ref32_nothing_lp1 a0) (x.1, x.2.1) = some D ∧ Stp [12, 1001] (Lg.O0 (fun _ => False)) w x.2.2.1 w' ∧ OwnSl 1001 Rep.B 4 x.2.2.1 w' x.2.2.2 x.1) (fun x => [(0, vB a0), (3, x.2.2.2), (4, vi x.2.1)]) ([], 0, (Lg.O0 (fun _ => False)), sn) F (.cons z (.cons z (.cons z .nil))) ⟨h, (sr_ _ _ _), (OwnSl.nil 1001 Rep.B 4)⟩ ?_
  rintro ⟨p, W, X, G⟩ F ah ⟨h, a, c⟩
  obtain ⟨Z, ak, rfl, h, l⟩ := rnd1 h
  unfold ref32_nothing_lp1 at h
  try dsimp only at h a c
  refine (show WC _ _ _ _ [(0, vB a0), (3, G), (4, vi W)] _ from ?_)
  refine sq (sq (rg (wY (ym z) z (wY (Y.lss_i z z) z (nl (th ?_))))))
  rcases cnd h with ⟨d, h⟩ | ⟨d, h⟩
  ·refine WC.condT' z d (sk (th (sq (WC.block (rg (wY (ym z) z (wY (ym z) z (WL.buildSlice (O := X) (R := Rep.B) (vals := [(0, vB a0)]) 11 [vB a0] (xs := [a0]) (by decide) ty89 ty4 (by decide) (by decide) (fe_ z) (by kernel_rfl) z ⟨[vB a0], [], z, z, z⟩ z ?_))))))))
   intro al am ai e J
   obtain ⟨K, q, h⟩ := bnd h
   have M := c.st e z z z
   refine WL.append (by decide) ty89 ty4 z (by decide) z z M J.src q z ?_
   intro aa ab aj r Q
   refine wY (ya z) z (nl (At.inBlock (th (rg (wY (ym z) z (wY (Y.add_i z z) z ?_))))))
   obtain ⟨ac, S, h⟩ := lt1 h
   refine WL.yE (ya z) (congrArg vi S.symm) z (nl ?_)
   exact At.round (K, ac, ab, aa) Z (Nat.lt_succ_self _) ⟨next1 h l, (tr_ (su_ a z) (tr_ (su_ e z) (su_ r z))), Q⟩ (.cons z (.cons z (.cons z .nil)))
  ·refine WC.condF' z d (WC.exit (At.thenX (At.loopX ?_)))
   obtain ⟨ad, t, T⟩ := OwnSl.rlb 1002 rfl c
   exact At.hitB (σ := (List Bool × Own × Value)) (p, ad, G) ⟨brk1 h l, (tr_ (su_ a z) (su_ t z)), T⟩ (.cons z .nil)
 ·rintro ⟨af, ae, H⟩ U ⟨rfl, j, m⟩
  replace h := flowK_go I
  try dsimp only at h j m
  refine (show At _ _ _ [(3, H)] _ from ?_)
  refine At.inBlockHit (th (sq (rg (wY (ym z) z (wY (ya z) z (nl (th (rt ?_))))))))
  obtain rfl := some1 h
  have o : Stp [12, 1001] (Lg.O0 (fun _ => False)) w ae U := (su_ j z)
  exact At.res (.inl z) z (.tmp z .nil) ⟨H, z, (se_ o z z), (OwnSl.outF m o low0 z)⟩
theorem c_ref32_end {a0 : List UInt8} {a1 : Int} {w : World} {r0 : Int} (h : ref32_end a0 a1 = some r0) : Rets Tryd.prog 67 [vs a0, vi a1] w (fun v w' => v = vi r0 ∧ Ext w w') := by
 unfold ref32_end at h
 refine Rets.enter Tryd.func67 z z ?_
 refine (show WC _ _ _ _ [(0, vs a0), (1, vi a1)] _ from ?_)
 refine sq (rg (wY (ya z) z (nl (th (sq (WC.block ?_))))))
 obtain ⟨r, h, j⟩ := flow1 h
 obtain ⟨t, h⟩ := loop_some h
 refine WC.joinB 0 (σ := Unit) (fun x w' => r = .go () ∧ w = w') (fun x => []) ?_ ?_
 ·refine WC.loop (σ := Int) (fun x k w' => loopN k (ref32_end_lp1 a0) x = some r ∧ w = w') (fun x => [(0, vs a0), (1, vi x)]) a1 t (.cons z (.cons z .nil)) ⟨h, z⟩ ?_
  rintro l t _ ⟨h, rfl⟩
  obtain ⟨Q, U, rfl, h, a⟩ := rnd1 h
  unfold ref32_end_lp1 at h
  try dsimp only at h
  refine (show WC _ _ _ _ [(0, vs a0), (1, vi l)] _ from ?_)
  refine sq (sq (rg (wY (ym z) z (wY (ym z) z (wY (Y.len_s ty9 z) z (wY (Y.lss_i z z) z (nl (th ?_))))))))
  rcases cnd h with ⟨c, h⟩ | ⟨c, h⟩
  ·refine WC.condT' z c (sk (th ?_))
   obtain ⟨S, h, m⟩ := flow1 h
   refine WC.join (σ := Int) (fun x w' => S = .go x ∧ w = w') (fun x => [(0, vs a0), (1, vi x)]) ?_ ?_
   ·refine WC.block (sq (sq (rg (wY (ym z) z (wY (ym z) z ?_)))))
    obtain ⟨V, D, h⟩ := bnd h
    refine wY (Y.index_s ty9 z z D) z (wY (Y.eql_b (b := 93) z z) z (nl (th ?_)))
    rcases cnd h with ⟨d, h⟩ | ⟨d, h⟩
    ·refine WC.condT' z d (sq (rg (wY (ym z) z (wY (ya z) z (nl (th (rt (At.thenR (At.inBlockR ?_)))))))))
     have h := outs1 h m
     refine At.joinR (At.loopR ?_)
     have h := outr1 h a j
     refine At.joinBR (At.inBlockR (At.thenR ?_))
     obtain rfl := some1 h
     have F : Stp [] (Lg.O0 (fun _ => False)) w (Lg.O0 (fun _ => False)) w := (sr_ _ _ _)
     exact At.res (.inl z) z (.tmp z .nil) ⟨z, (se_ F z z)⟩
    ·refine WC.condF' z d (sk (th (sq ?_)))
     obtain ⟨T, h, G⟩ := bnd h
     refine WC.join (σ := Int) (fun x w' => x = T ∧ w = w') (fun x => [(0, vs a0), (1, vi x)]) ?_ ?_
     ·refine sq (rg (wY (ym z) z (wY (ym z) z ?_)))
      obtain ⟨W, H, h⟩ := bnd h
      refine wY (Y.index_s ty9 z z H) z (wY (Y.eql_b (b := 92) z z) z (nl (th ?_)))
      rcases cnd h with ⟨e, h⟩ | ⟨e, h⟩
      ·refine WC.condT' z e (rg (wY (ym z) z (wY (Y.add_i z z) z ?_)))
       obtain ⟨I, p, h⟩ := lt1 h
       refine WL.yE (ya z) (congrArg vi p.symm) z (nl ?_)
       exact At.join (σ := Int) I ⟨some1 h, z⟩ (.cons z (.cons z .nil))
      ·refine WC.condF' z e (sk ?_)
       exact At.join (σ := Int) l ⟨some1 h, z⟩ (.cons z (.cons z .nil))
     ·rintro J _ ⟨rfl, rfl⟩
      replace h := G
      try dsimp only at h
      refine (show At _ _ _ [(0, vs a0), (1, vi J)] _ from ?_)
      refine th (rg (wY (ym z) z (wY (Y.add_i z z) z ?_)))
      obtain ⟨K, q, h⟩ := lt1 h
      refine WL.yE (ya z) (congrArg vi q.symm) z (nl (At.inBlock ?_))
      exact At.join (σ := Int) K ⟨go2 h, z⟩ (.cons z (.cons z .nil))
   ·rintro o _ ⟨rfl, rfl⟩
    replace h := flowK_go m
    try dsimp only at h
    refine (show At _ _ _ [(0, vs a0), (1, vi o)] _ from ?_)
    exact At.round o Q (Nat.lt_succ_self _) ⟨next1 h a, z⟩ (.cons z (.cons z .nil))
  ·refine WC.condF' z c (WC.exit (At.thenX (At.loopX ?_)))
   exact At.hitB (σ := Unit) () ⟨brk1 h a, z⟩ .nil
 ·rintro _ _ ⟨rfl, rfl⟩
  replace h := flowK_go j
  refine (show At _ _ _ [] _ from ?_)
  refine At.inBlockHit (th (sq (rg (wY (ya z) z (nl (th (rt ?_)))))))
  obtain rfl := some1 h
  have M : Stp [] (Lg.O0 (fun _ => False)) w (Lg.O0 (fun _ => False)) w := (sr_ _ _ _)
  exact At.res (.inl z) z (.tmp z .nil) ⟨z, (se_ M z z)⟩
theorem c_ref32_thing {a0 : List UInt8} {a1 : Int} {w : World} {r0 : ref32_Thing} (h : ref32_thing a0 a1 = some r0) : Rets Tryd.prog 68 [vs a0, vi a1] w (fun v w' => v = ag [vb r0.C, vi r0.Next] ∧ Ext w w') := by
 unfold ref32_thing at h
 refine Rets.enter Tryd.func68 z z ?_
 refine (show WC _ _ _ _ [(0, vs a0), (1, vi a1)] _ from ?_)
 refine sq (rg (WL.alloc (O := (Lg.O0 (fun _ => False))) 11 [vb 0, vi 0] ty117 z z ?_))
 intro K o J e j
 refine nl (th (sq (sq (rg (wY (ym z) z (wY (ym z) z ?_))))))
 obtain ⟨M, p, h⟩ := bnd h
 refine wY (Y.index_s ty9 z z p) z (wY (Y.eql_b (b := 92) z z) z (nl (th ?_)))
 rcases cnd h with ⟨d, h⟩ | ⟨d, h⟩
 ·refine WC.condT' z d (sq (rg (wY (ym z) z (wY (ym z) z (wY (Y.add_i z z) z ?_)))))
  obtain ⟨a, q, h⟩ := bnd h
  refine wY (Y.index_s ty9 z z q) z (wY (ym z) z (wY (Y.add_i z z) z (wY (yb (vals := [(0, vb a), (1, vi (w64 (a1 + 2)))]) (cells := [vb a, vi (w64 (a1 + 2))]) (fe_ z) (by kernel_rfl)) z (WL.store (v := ag [vb a, vi (w64 (a1 + 2))]) (cells' := [vb a, vi (w64 (a1 + 2))]) ty117 z z j z (le_ z) z z ?_))))
  intro r l t
  refine nl (th (rt (At.thenR ?_)))
  obtain rfl := some1 h
  have D : Stp [11] (Lg.O0 (fun _ => False)) w o r := (tr_ (su_ e z) (su_ l z))
  exact At.res (.inl z) z (.cell z (t.runAg 0 [vb a, vi (w64 (a1 + 2))] ty117 z z z) .nil) ⟨z, (se_ D z z)⟩
 ·refine WC.condF' z d (sk (th (sq (rg (wY (ym z) z (wY (ym z) z ?_))))))
  obtain ⟨c, F, h⟩ := bnd h
  refine wY (Y.index_s ty9 z z F) z (wY (ym z) z (wY (Y.add_i z z) z (wY (yb (vals := [(0, vb c), (1, vi (w64 (a1 + 1)))]) (cells := [vb c, vi (w64 (a1 + 1))]) (fe_ z) (by kernel_rfl)) z (WL.store (v := ag [vb c, vi (w64 (a1 + 1))]) (cells' := [vb c, vi (w64 (a1 + 1))]) ty117 z z j z (le_ z) z z ?_))))
  intro G m H
  refine nl (th (rt ?_))
  obtain rfl := some1 h
  have I : Stp [11] (Lg.O0 (fun _ => False)) w o G := (tr_ (su_ e z) (su_ m z))
  exact At.res (.inl z) z (.cell z (H.runAg 0 [vb c, vi (w64 (a1 + 1))] ty117 z z z) .nil) ⟨z, (se_ I z z)⟩
theorem c_ref32_set {a0 : List UInt8} {a1 : Int} {w : World} {r0 : ref32_Got} (h : ref32_set a0 a1 = some r0) : Rets Tryd.prog 45 [vs a0, vi a1] w (fun v w' => ∃ (bo : Value), v = ag [bo, vi r0.At, vi r0.E] ∧ Ext w w' ∧ Sl rep_ref32_Piece w' (fun k => w.heap.size ≤ k) bo r0.L) := by
 unfold ref32_set at h
 refine Rets.enter Tryd.func45 z z ?_
 refine (show WC _ _ _ _ [(0, vs a0), (1, vi a1)] _ from ?_)
 refine sq (rg (WL.alloc (O := (Lg.O0 (fun _ => False))) 11 [sn, vi 0, vi 0] ty63 z z ?_))
 intro d fi bp D ah
 refine nl (th (sq (rg (wY (ym z) z (wY (Y.add_i z z) z ?_)))))
 obtain ⟨aT, b9, h⟩ := lt1 h
 refine WL.yE (ya z) (congrArg vi b9.symm) z (nl (th (sq (rg (wY (ym z) z (wY (ym z) z (wY (Y.len_s ty9 z) z (wY (Y.lss_i z z) z (wY (ym z) z ?_)))))))))
 obtain ⟨fj, h, d6⟩ := bnd h
 refine WL.cut 5 (σ := Bool) (fun x w' => x = fj ∧ bp = w') (fun x => [(0, vs a0), (1, vi a1), (4, pt d 0), (5, vi aT), (24, vB x)]) ?_ ?_
 ·rcases cnd h with ⟨aU, h⟩ | ⟨aU, h⟩
  ·refine WL.ren 19 z (congrArg vB aU) (ug z z (wY (ym z) z (ug z z (wY (ym z) z (ug z z ?_)))))
   obtain ⟨fk, d7, h⟩ := bnd h
   refine wY (Y.index_s ty9 z z d7) z (ug z z (wY (Y.eql_b (b := 33) z z) z (wY (Y.pick (b := true) z z) z ?_)))
   exact nl (At.join (σ := Bool) (decide (fk = 33)) ⟨some1 h, z⟩ (.cons z (.cons z (.cons z (.cons z (.cons z .nil))))))
  ·refine WL.ren 19 z (congrArg vB aU) (WL.gS z z z z (WL.gS z z z z (WL.gS z z z z (WL.gS z z z z (wY (Y.pick (b := false) z z) z ?_)))))
   exact nl (At.join (σ := Bool) false ⟨some1 h, z⟩ (.cons z (.cons z (.cons z (.cons z (.cons z .nil))))))
 ·rintro j _ ⟨rfl, rfl⟩
  replace h := d6
  try dsimp only at h
  refine (show WL _ _ _ _ _ [(0, vs a0), (1, vi a1), (4, pt d 0), (5, vi aT), (24, vB j)] _ from ?_)
  refine wY (ya z) z (nl (th (sq ?_)))
  obtain ⟨fl, h, d8⟩ := bnd h
  refine WC.join (σ := Int) (fun x w' => x = fl ∧ bp = w') (fun x => [(0, vs a0), (1, vi a1), (4, pt d 0), (5, vi x), (6, vB j)]) ?_ ?_
  ·refine sq (rg (wY (ym z) z (nl (th ?_))))
   rcases cnd h with ⟨aW, h⟩ | ⟨aW, h⟩
   ·refine WC.condT' z aW (rg (wY (ym z) z (wY (Y.add_i z z) z ?_)))
    obtain ⟨d9, ca, h⟩ := lt1 h
    refine WL.yE (ya z) (congrArg vi ca.symm) z (nl ?_)
    exact At.join (σ := Int) d9 ⟨some1 h, z⟩ (.cons z (.cons z (.cons z (.cons z (.cons z .nil)))))
   ·refine WC.condF' z aW (sk ?_)
    exact At.join (σ := Int) aT ⟨some1 h, z⟩ (.cons z (.cons z (.cons z (.cons z (.cons z .nil)))))
  ·rintro aX _ ⟨rfl, rfl⟩
   replace h := d8
   try dsimp only at h
   refine (show At _ _ _ [(0, vs a0), (1, vi a1), (4, pt d 0), (5, vi aX), (6, vB j)] _ from ?_)
   refine th (sq (rg (wY (ym z) z (wY (ym z) z ?_))))
   obtain ⟨c, ea, h⟩ := bnd h
   refine WL.call (vals := [vs a0, vi aX]) kok67 z z (c_ref32_end ea) ?_
   rintro f4 f5 ⟨rfl, eb⟩
   obtain ⟨bq, fm, fn, l⟩ := adoptE fi (fun k => 1) eb
   refine wY (ya z) z (nl (th (sq (sq (rg (wY (ym z) z (wY (Y.lss_i z z) z (nl (th ?_)))))))))
   rcases cnd h with ⟨aY, h⟩ | ⟨aY, h⟩
   ·refine WC.condT' z aY (sq (rg (wY (ym z) z (wY (yb (vals := [(1, vi a1), (2, vi 2)]) (cells := [sn, vi a1, vi 2]) (fe_ z) (by kernel_rfl)) z ?_))))
    have ec := ah.st l z
    refine WL.store (v := ag [sn, vi a1, vi 2]) (cells' := [sn, vi a1, vi 2]) ty63 z z ec z (le_ z) z z ?_
    intro ed cb ee
    refine nl (th (rt (At.thenR ?_)))
    obtain rfl := some1 h
    have ef : Stp [11] (Lg.O0 (fun _ => False)) w bq ed := (tr_ (su_ D z) (tr_ (su_ l z) (su_ cb z)))
    exact At.res (.inl z) z (.cell z (ee.runAg 0 [sn, vi a1, vi 2] ty63 z z z) .nil) ⟨sn, z, (se_ ef z z), (Or.inl ⟨z, z⟩)⟩
   ·refine WC.condF' z aY (sk (th (sq (sq (rg (wY (ym z) z (wY (ym z) z (wY (Y.eql_i z z) z (nl ?_)))))))))
    refine th ?_
    rcases cnd h with ⟨aZ, h⟩ | ⟨aZ, h⟩
    ·refine WC.condT' z aZ (sq (rg (wY (ym z) z (wY (yb (vals := [(1, vi a1), (2, vi 3)]) (cells := [sn, vi a1, vi 3]) (fe_ z) (by kernel_rfl)) z ?_))))
     have eg := ah.st l z
     refine WL.store (v := ag [sn, vi a1, vi 3]) (cells' := [sn, vi a1, vi 3]) ty63 z z eg z (le_ z) z z ?_
     intro eh cc ei
     refine nl (th (rt (At.thenR ?_)))
     obtain rfl := some1 h
     have ej : Stp [11] (Lg.O0 (fun _ => False)) w bq eh := (tr_ (su_ D z) (tr_ (su_ l z) (su_ cc z)))
     exact At.res (.inl z) z (.cell z (ei.runAg 0 [sn, vi a1, vi 3] ty63 z z z) .nil) ⟨sn, z, (se_ ej z z), (Or.inl ⟨z, z⟩)⟩
    ·refine WC.condF' z aZ (sk (th (sq (rg ?_))))
     obtain ⟨d3, ek, h⟩ := bnd h
     refine WL.call (vals := [vB false]) kok47 z z (c_ref32_nothing ek) ?_
     rintro a am ⟨_, rfl, em, fo⟩
     obtain ⟨a8, fp, br, p⟩ := adoptE bq (fun k => if ob a = some k then 12 else 1) em
     have en : OwnSl 12 Rep.B 4 a8 am a d3 := RowF.adopt 12 Flat.B fo br (fun k hk => if_pos hk)
     refine wY (ya z) z (nl (th (sq ?_)))
     obtain ⟨fq, h, a2⟩ := flow1 h
     refine WC.join (σ := (List Bool × Own)) (fun x w' => fq = .go x.1 ∧ Stp [12, 13, 14, 1001, 1002, 1003, 1004, 1005, 1006] a8 am x.2 w' ∧ OwnSl 1008 Rep.B 4 x.2 w' a x.1) (fun x => [(4, pt d 0), (6, vB j), (7, vi c), (8, a)]) ?_ ?_
     ·refine WC.block ?_
      obtain ⟨d4, h, a3⟩ := flow1 h
      obtain ⟨d5, h⟩ := loop_some h
      refine WC.joinB 0 (σ := (List Bool × Own)) (fun x w' => d4 = .go x.1 ∧ Stp [12, 13, 14, 1001, 1002, 1003, 1004, 1005] a8 am x.2 w' ∧ OwnSl 1006 Rep.B 4 x.2 w' a x.1) (fun x => [(4, pt d 0), (6, vB j), (7, vi c), (8, a)]) ?_ ?_
      ·obtain ⟨fs, cd, eo⟩ := OwnSl.rlb 1005 rfl en
       refine WC.loop (σ := (Int × List Bool × Own)) (fun x k w' => loopN k (ref32_set_lp1 a0 c) (x.1, x.2.1) = some d4 ∧ Stp [12, 13, 14, 1001, 1002, 1003, 1004, 1005] a8 am x.2.2 w' ∧ OwnSl 1005 Rep.B 4 x.2.2 w' a x.2.1) (fun x => [(0, vs a0), (4, pt d 0), (5, vi x.1), (6, vB j), (7, vi c), (8, a)]) (aX, d3, fs) d5 (.cons z (.cons z (.cons z (.cons z (.cons z (.cons z .nil)))))) ⟨h, (su_ cd z), eo⟩ ?_
       rintro ⟨e, bs, bt⟩ d5 ep ⟨h, F, X⟩
       obtain ⟨ft, gm, rfl, h, an⟩ := rnd1 h
       unfold ref32_set_lp1 at h
       try dsimp only at h F X
       refine (show WC _ _ _ _ [(0, vs a0), (4, pt d 0), (5, vi e), (6, vB j), (7, vi c), (8, a)] _ from ?_)
       refine sq (sq (rg (wY (ym z) z (wY (ym z) z (wY (Y.lss_i z z) z (nl (th ?_)))))))
       rcases cnd h with ⟨a4, h⟩ | ⟨a4, h⟩
       ·refine WC.condT' z a4 (sk (th ?_))
        obtain ⟨fu, h, a5⟩ := flow1 h
        refine WC.join (σ := (Int × List Bool × Own)) (fun x w' => fu = .go (x.1, x.2.1) ∧ Stp [13, 14, 1001, 1002, 1003, 1005] bt ep x.2.2 w' ∧ OwnSl 1004 Rep.B 4 x.2.2 w' a x.2.1) (fun x => [(0, vs a0), (4, pt d 0), (5, vi x.1), (6, vB j), (7, vi c), (8, a)]) ?_ ?_
        ·refine WC.block (sq (sq (rg (wY (ym z) z (wY (ym z) z ?_)))))
         obtain ⟨f6, ce, h⟩ := bnd h
         refine wY (Y.index_s ty9 z z ce) z (wY (Y.eql_b (b := 45) z z) z (nl (th ?_)))
         rcases cnd h with ⟨ao, h⟩ | ⟨ao, h⟩
         ·refine WC.condT' z ao (sq (sq (rg (wY (ym z) z (wY (Y.add_i z z) z (wY (ym z) z (wY (Y.neq_i z z) z (nl (th ?_)))))))))
          rcases cnd h with ⟨ap, h⟩ | ⟨ap, h⟩
          ·refine WC.condT' z ap (sq (rg (wY (ym z) z (wY (yb (vals := [(1, vi e), (2, vi 3)]) (cells := [sn, vi e, vi 3]) (fe_ z) (by kernel_rfl)) z ?_))))
           have ch := ((ah.st l z).st p z).st F z
           refine WL.store (v := ag [sn, vi e, vi 3]) (cells' := [sn, vi e, vi 3]) ty63 z z ch z (le_ z) z z ?_
           intro ci bu cj
           refine nl (th (rt (At.thenR (At.thenR (At.inBlockR ?_)))))
           have h := outs1 h a5
           refine At.joinR (At.loopR ?_)
           have h := outr1 h an a3
           refine At.joinBR (At.inBlockR ?_)
           have h := outs1 h a2
           refine At.joinR (At.thenR ?_)
           obtain rfl := some1 h
           have ck : Stp [11, 12, 13, 14, 1001, 1002, 1003, 1004, 1005] (Lg.O0 (fun _ => False)) w bt ci := (tr_ (su_ D z) (tr_ (su_ l z) (tr_ (su_ p z) (tr_ (su_ F z) (su_ bu z)))))
           exact At.res (.inl z) z (.cell z (cj.runAg 0 [sn, vi e, vi 3] ty63 z z z) .nil) ⟨sn, z, (se_ ck z z), (Or.inl ⟨z, z⟩)⟩
          ·refine WC.condF' z ap (sk (th (sq (rg (wY (ym z) z ?_)))))
           obtain ⟨er, cl, h⟩ := bnd h
           obtain ⟨f7, fv, fC, aq, cm, cn, ar, bw⟩ := OwnSl.at X cl
           obtain rfl := bw
           replace ar : CellsAt _ _ _ [vB er] := ar
           have fw := CAt.own X aq ar
           refine wY (Y.indexAddr ty89 ty4 z aq z cm cn) z ?_
           obtain ⟨co, bx, h⟩ := bnd h
           refine WL.storeOwn (by decide) ty4 z z z X aq bx ?_
           intro fD bz cq
           refine nl (th (sq (rg (wY (ym z) z (wY (Y.add_i z z) z ?_)))))
           obtain ⟨cr, bA, h⟩ := lt1 h
           refine WL.yE (ya z) (congrArg vi bA.symm) z (nl (th (WC.exit (At.thenX (At.inBlockHit ?_)))))
           obtain ⟨es, bB, cs⟩ := OwnSl.rlb 1004 rfl cq
           exact At.join (σ := (Int × List Bool × Own)) (cr, co, es) ⟨go2 h, (tr_ (su_ bz z) (su_ bB z)), cs⟩ (.cons z (.cons z (.cons z (.cons z (.cons z (.cons z .nil))))))
         ·refine WC.condF' z ao (sk (th (sq (rg (wY (ym z) z (wY (ym z) z ?_))))))
          obtain ⟨m, ct, h⟩ := bnd h
          refine WL.call (vals := [vs a0, vi e]) kok68 z z (c_ref32_thing ct) ?_
          rintro fF fG ⟨rfl, cu⟩
          obtain ⟨et, fe, ff, M⟩ := adoptE bt (fun k => 1) cu
          refine WL.alloc (O := et) 13 [vb 0, vi 0] ty117 z z ?_
          intro Z eu fH Q cv
          refine WL.store (v := ag [vb m.C, vi m.Next]) (cells' := [vb m.C, vi m.Next]) ty117 z z cv z (le_ z) z z ?_
          intro fI S au
          refine nl (th (sq (rg (wY (yL ty117 z z (au.cells 0 [vb m.C, vi m.Next] z) z) z (WL.alloc (O := eu) 14 [vb 0, vi 0] ty117 z z ?_)))))
          intro o a6 fJ q cw
          refine WL.store (v := ag [vb m.C, vi m.Next]) (cells' := [vb m.C, vi m.Next]) ty117 z z cw z (le_ z) z z ?_
          intro av r a9
          refine nl (th (sq ?_))
          obtain ⟨ew, h, cx⟩ := bnd h
          refine WC.join (σ := (UInt8 × Int × Own)) (fun x w' => (x.1, x.2.1) = ew ∧ Stp [14] a6 av x.2.2 w' ∧ Blk 14 x.2.2 w' o 117 [vb x.1, vi x.2.1]) (fun x => [(0, vs a0), (4, pt d 0), (5, vi e), (6, vB j), (7, vi c), (8, a), (9, pt Z 0), (10, pt o 0)]) ?_ ?_
          ·refine sq (rg (wY (yf fo117_1 z) z ?_))
           have ae := (au.st q z).st r z
           refine wY (yl ty3 z z (ae.cell 1 _ z)) z (wY (Y.add_i z z) z (wY (ym z) z (wY (Y.lss_i z z) z (wY (ym z) z ?_))))
           obtain ⟨ex, h, cz⟩ := bnd h
           refine WL.cut 6 (σ := Bool) (fun x w' => x = ex ∧ av = w') (fun x => [(0, vs a0), (4, pt d 0), (5, vi e), (6, vB j), (7, vi c), (8, a), (9, pt Z 0), (10, pt o 0), (73, vB x)]) ?_ ?_
           ·rcases cnd h with ⟨ax, h⟩ | ⟨ax, h⟩
            ·refine WL.ren 67 z (congrArg vB ax) (ug z z (wY (ym z) z (ug z z (wY (yf fo117_1 z) z (ug z z (wY (yl ty3 z z (ae.cell 1 _ z)) z (ug z z ?_)))))))
             obtain ⟨ey, cA, h⟩ := bnd h
             refine wY (Y.index_s ty9 z z cA) z (ug z z (wY (Y.eql_b (b := 45) z z) z (wY (Y.pick (b := true) z z) z ?_)))
             exact nl (At.join (σ := Bool) (decide (ey = 45)) ⟨some1 h, z⟩ (.cons z (.cons z (.cons z (.cons z (.cons z (.cons z (.cons z (.cons z (.cons z .nil))))))))))
            ·refine WL.ren 67 z (congrArg vB ax) (WL.gS z z z z (WL.gS z z z z (WL.gS z z z z (WL.gS z z z z (WL.gS z z z z (wY (Y.pick (b := false) z z) z ?_))))))
             exact nl (At.join (σ := Bool) false ⟨some1 h, z⟩ (.cons z (.cons z (.cons z (.cons z (.cons z (.cons z (.cons z (.cons z (.cons z .nil))))))))))
           ·rintro ez _ ⟨rfl, rfl⟩
            replace h := cz
            try dsimp only at h
            refine (show WL _ _ _ _ _ [(0, vs a0), (4, pt d 0), (5, vi e), (6, vB j), (7, vi c), (8, a), (9, pt Z 0), (10, pt o 0), (73, vB ez)] _ from ?_)
            refine wY (ym z) z ?_
            obtain ⟨eA, h, cC⟩ := bnd h
            refine WL.cut 7 (σ := Bool) (fun x w' => x = eA ∧ av = w') (fun x => [(0, vs a0), (4, pt d 0), (5, vi e), (6, vB j), (7, vi c), (8, a), (9, pt Z 0), (10, pt o 0), (81, vB x)]) ?_ ?_
            ·rcases cnd h with ⟨ay, h⟩ | ⟨ay, h⟩
             ·refine WL.ren 74 z (congrArg vB ay) (ug z z (wY (ym z) z (ug z z (wY (yf fo117_1 z) z (ug z z (wY (yl ty3 z z (ae.cell 1 _ z)) z (ug z z (wY (Y.add_i z z) z (ug z z ?_)))))))))
              obtain ⟨eB, cD, h⟩ := bnd h
              refine wY (Y.index_s ty9 z z cD) z (ug z z (wY (Y.neq_b (b := 45) z z) z (wY (Y.pick (b := true) z z) z ?_)))
              exact nl (At.join (σ := Bool) (!decide (eB = 45)) ⟨some1 h, z⟩ (.cons z (.cons z (.cons z (.cons z (.cons z (.cons z (.cons z (.cons z (.cons z .nil))))))))))
             ·refine WL.ren 74 z (congrArg vB ay) (WL.gS z z z z (WL.gS z z z z (WL.gS z z z z (WL.gS z z z z (WL.gS z z z z (WL.gS z z z z (wY (Y.pick (b := false) z z) z ?_)))))))
              exact nl (At.join (σ := Bool) false ⟨some1 h, z⟩ (.cons z (.cons z (.cons z (.cons z (.cons z (.cons z (.cons z (.cons z (.cons z .nil))))))))))
            ·rintro eC _ ⟨rfl, rfl⟩
             replace h := cC
             try dsimp only at h
             refine (show WL _ _ _ _ _ [(0, vs a0), (4, pt d 0), (5, vi e), (6, vB j), (7, vi c), (8, a), (9, pt Z 0), (10, pt o 0), (81, vB eC)] _ from ?_)
             refine nl (th ?_)
             rcases cnd h with ⟨az, h⟩ | ⟨az, h⟩
             ·refine WC.condT' z az (rg (wY (ym z) z (wY (yf fo117_1 z) z (wY (yl ty3 z z (ae.cell 1 _ z)) z (wY (Y.add_i z z) z ?_)))))
              obtain ⟨aa, cE, h⟩ := bnd h
              refine WL.call (vals := [vs a0, vi (w64 (m.Next + 1))]) kok68 z z (c_ref32_thing cE) ?_
              rintro fK fL ⟨rfl, cF⟩
              obtain ⟨eD, fg, fh, aO⟩ := adoptE a6 (fun k => 1) cF
              have cG := a9.st aO z
              refine WL.store (v := ag [vb aa.C, vi aa.Next]) (cells' := [vb aa.C, vi aa.Next]) ty117 z z cG z (le_ z) z z ?_
              intro fN bC cH
              refine nl ?_
              exact At.join (σ := (UInt8 × Int × Own)) (aa.C, aa.Next, eD) ⟨some1 h, (tr_ (su_ aO z) (su_ bC z)), cH⟩ (.cons z (.cons z (.cons z (.cons z (.cons z (.cons z (.cons z (.cons z .nil))))))))
             ·refine WC.condF' z az (sk ?_)
              exact At.join (σ := (UInt8 × Int × Own)) (m.C, m.Next, a6) ⟨some1 h, (sr_ _ _ _), a9⟩ (.cons z (.cons z (.cons z (.cons z (.cons z (.cons z (.cons z (.cons z .nil))))))))
          ·rintro ⟨eE, eF, aA⟩ aC ⟨rfl, t, af⟩
           replace h := cx
           try dsimp only at h t af
           refine (show At _ _ _ [(0, vs a0), (4, pt d 0), (5, vi e), (6, vB j), (7, vi c), (8, a), (9, pt Z 0), (10, pt o 0)] _ from ?_)
           refine th (sq (sq (rg (wY (yf fo117_0 z) z (wY (yl ty5 z z (af.cell 0 _ z)) z (wY (yf fo117_0 z) z ?_))))))
           have ba := ((au.st q z).st r z).st t z
           refine wY (yl ty5 z z (ba.cell 0 _ z)) z (wY (Y.lss_b z z) z (nl (th ?_)))
           rcases cnd h with ⟨aD, h⟩ | ⟨aD, h⟩
           ·refine WC.condT' z aD (sq (rg (wY (ym z) z (wY (yb (vals := [(1, vi e), (2, vi 3)]) (cells := [sn, vi e, vi 3]) (fe_ z) (by kernel_rfl)) z ?_))))
            have cS := ((((((((ah.st l z).st p z).st F z).st M z).st Q z).st S z).st q z).st r z).st t z
            refine WL.store (v := ag [sn, vi e, vi 3]) (cells' := [sn, vi e, vi 3]) ty63 z z cS z (le_ z) z z ?_
            intro cT bD cU
            refine nl (th (rt (At.thenR (At.inBlockR ?_))))
            have h := outs1 h a5
            refine At.joinR (At.loopR ?_)
            have h := outr1 h an a3
            refine At.joinBR (At.inBlockR ?_)
            have h := outs1 h a2
            refine At.joinR (At.thenR ?_)
            obtain rfl := some1 h
            have cV : Stp [11, 12, 13, 14, 1001, 1002, 1003, 1004, 1005] (Lg.O0 (fun _ => False)) w aA cT := (tr_ (su_ D z) (tr_ (su_ l z) (tr_ (su_ p z) (tr_ (su_ F z) (tr_ (su_ M z) (tr_ (su_ Q z) (tr_ (su_ S z) (tr_ (su_ q z) (tr_ (su_ r z) (tr_ (su_ t z) (su_ bD z)))))))))))
            exact At.res (.inl z) z (.cell z (cU.runAg 0 [sn, vi e, vi 3] ty63 z z z) .nil) ⟨sn, z, (se_ cV z z), (Or.inl ⟨z, z⟩)⟩
           ·refine WC.condF' z aD (sk (th (sq (sq (rg (wY (yf fo117_0 z) z (wY (yl ty5 z z (ba.cell 0 _ z)) z (wY (Y.conv_bi ty5.u ty3.u z) z ?_))))))))
            obtain ⟨eG, cW, h⟩ := lt1 h
            refine WL.yE (ya z) (congrArg vi cW.symm) z (nl (th ?_))
            obtain ⟨eH, h, cX⟩ := bnd h
            refine WC.join (σ := (List Bool × Own)) (fun x w' => x.1 = eH ∧ Stp [1001, 1002, 1005] aA aC x.2 w' ∧ OwnSl 1003 Rep.B 4 x.2 w' a x.1) (fun x => [(0, vs a0), (4, pt d 0), (6, vB j), (7, vi c), (8, a), (10, pt o 0)]) ?_ ?_
            ·refine WC.block ?_
             obtain ⟨bE, h, cY⟩ := flow1 h
             obtain ⟨bF, h⟩ := loop_some h
             refine WC.joinB 2 (σ := (List Bool × Own)) (fun x w' => bE = .go x.1 ∧ Stp [1001, 1005] aA aC x.2 w' ∧ OwnSl 1002 Rep.B 4 x.2 w' a x.1) (fun x => [(0, vs a0), (4, pt d 0), (6, vB j), (7, vi c), (8, a), (10, pt o 0)]) ?_ ?_
             ·have c4 := (((((X.st M z z z).st Q z z z).st S z z z).st q z z z).st r z z z).st t z z z
              obtain ⟨eI, bG, c5⟩ := OwnSl.rlb 1001 rfl c4
              refine WC.loop (σ := (List Bool × Int × Own)) (fun x k w' => loopN k (ref32_set_lp2 eE) (x.1, x.2.1) = some bE ∧ Stp [1001, 1005] aA aC x.2.2 w' ∧ OwnSl 1001 Rep.B 4 x.2.2 w' a x.1) (fun x => [(0, vs a0), (4, pt d 0), (6, vB j), (7, vi c), (8, a), (10, pt o 0), (11, vi x.2.1)]) (bs, eG, eI) bF (.cons z (.cons z (.cons z (.cons z (.cons z (.cons z (.cons z .nil))))))) ⟨h, (su_ bG z), c5⟩ ?_
              rintro ⟨c6, eJ, eK⟩ bF fO ⟨h, T, U⟩
              obtain ⟨eL, f8, rfl, h, bb⟩ := rnd1 h
              unfold ref32_set_lp2 at h
              try dsimp only at h T U
              refine (show WC _ _ _ _ [(0, vs a0), (4, pt d 0), (6, vB j), (7, vi c), (8, a), (10, pt o 0), (11, vi eJ)] _ from ?_)
              refine sq (sq (rg (wY (ym z) z (wY (yf fo117_0 z) z ?_))))
              have c7 := af.st T z
              refine wY (yl ty5 z z (c7.cell 0 _ z)) z (wY (Y.conv_bi ty5.u ty3.u z) z (wY (Y.leq_i z z) z (nl (th ?_))))
              rcases cnd h with ⟨aE, h⟩ | ⟨aE, h⟩
              ·refine WC.condT' z aE (sk (th (sq (WC.block (rg (wY (ym z) z (wY (ym z) z ?_)))))))
               obtain ⟨eM, c8, h⟩ := bnd h
               obtain ⟨f9, fx, fP, aF, c9, da, aG, bH⟩ := OwnSl.at U c8
               obtain rfl := bH
               replace aG : CellsAt _ _ _ [vB eM] := aG
               have fy := CAt.own U aF aG
               refine wY (Y.indexAddr ty89 ty4 z aF z c9 da) z ?_
               obtain ⟨db, bI, h⟩ := bnd h
               refine WL.storeOwn (by decide) ty4 z z z U aF bI ?_
               intro fQ bJ dc
               refine nl (At.inBlock (th (rg (wY (ym z) z (wY (Y.add_i z z) z ?_)))))
               obtain ⟨eN, dd, h⟩ := lt1 h
               refine WL.yE (ya z) (congrArg vi dd.symm) z (nl ?_)
               exact At.round (db, eN, eK) eL (Nat.lt_succ_self _) ⟨next1 h bb, (tr_ (su_ T z) (su_ bJ z)), dc⟩ (.cons z (.cons z (.cons z (.cons z (.cons z (.cons z (.cons z .nil)))))))
              ·refine WC.condF' z aE (WC.exit (At.thenX (At.loopX ?_)))
               obtain ⟨eO, bK, de⟩ := OwnSl.rlb 1002 rfl U
               exact At.hitB (σ := (List Bool × Own)) (c6, eO) ⟨brk1 h bb, (tr_ (su_ T z) (su_ bK z)), de⟩ (.cons z (.cons z (.cons z (.cons z (.cons z (.cons z .nil))))))
             ·rintro ⟨df, ga⟩ fR ⟨rfl, aP, bc⟩
              replace h := flowK_go cY
              try dsimp only at h aP bc
              refine (show At _ _ _ [(0, vs a0), (4, pt d 0), (6, vB j), (7, vi c), (8, a), (10, pt o 0)] _ from ?_)
              refine At.inBlockHit ?_
              obtain ⟨eP, bL, dg⟩ := OwnSl.rlb 1003 rfl bc
              exact At.join (σ := (List Bool × Own)) (df, eP) ⟨some1 h, (tr_ (su_ aP z) (su_ bL z)), dg⟩ (.cons z (.cons z (.cons z (.cons z (.cons z (.cons z .nil))))))
            ·rintro ⟨dh, gb⟩ fT ⟨rfl, ai, bd⟩
             replace h := cX
             try dsimp only at h ai bd
             refine (show At _ _ _ [(0, vs a0), (4, pt d 0), (6, vB j), (7, vi c), (8, a), (10, pt o 0)] _ from ?_)
             refine th (rg (wY (yf fo117_1 z) z ?_))
             have di := af.st ai z
             refine wY (yl ty3 z z (di.cell 1 _ z)) z (wY (ya z) z (nl (At.inBlock ?_)))
             obtain ⟨eQ, bM, dj⟩ := OwnSl.rlb 1004 rfl bd
             exact At.join (σ := (Int × List Bool × Own)) (eF, dh, eQ) ⟨go2 h, (tr_ (su_ M z) (tr_ (su_ Q z) (tr_ (su_ S z) (tr_ (su_ q z) (tr_ (su_ r z) (tr_ (su_ t z) (tr_ (su_ ai z) (su_ bM z)))))))), dj⟩ (.cons z (.cons z (.cons z (.cons z (.cons z (.cons z .nil))))))
        ·rintro ⟨bO, eR, gn⟩ gc ⟨rfl, bf, bP⟩
         replace h := flowK_go a5
         try dsimp only at h bf bP
         refine (show At _ _ _ [(0, vs a0), (4, pt d 0), (5, vi bO), (6, vB j), (7, vi c), (8, a)] _ from ?_)
         obtain ⟨eS, bQ, dk⟩ := OwnSl.rlb 1005 rfl bP
         exact At.round (bO, eR, eS) ft (Nat.lt_succ_self _) ⟨next1 h an, (tr_ (su_ F z) (tr_ (su_ bf z) (su_ bQ z))), dk⟩ (.cons z (.cons z (.cons z (.cons z (.cons z (.cons z .nil))))))
       ·refine WC.condF' z a4 (WC.exit (At.thenX (At.loopX ?_)))
        obtain ⟨eT, bR, dl⟩ := OwnSl.rlb 1006 rfl X
        exact At.hitB (σ := (List Bool × Own)) (bs, eT) ⟨brk1 h an, (tr_ (su_ F z) (su_ bR z)), dl⟩ (.cons z (.cons z (.cons z (.cons z .nil))))
      ·rintro ⟨eU, gp⟩ gd ⟨rfl, bg, bS⟩
       replace h := flowK_go a3
       try dsimp only at h bg bS
       refine (show At _ _ _ [(4, pt d 0), (6, vB j), (7, vi c), (8, a)] _ from ?_)
       refine At.inBlockHit ?_
       obtain ⟨eV, bT, dm⟩ := OwnSl.rlb 1008 rfl bS
       exact At.join (σ := (List Bool × Own)) (eU, eV) ⟨go2 h, (tr_ (su_ bg z) (su_ bT z)), dm⟩ (.cons z (.cons z (.cons z (.cons z .nil))))
     ·rintro ⟨bU, bh⟩ aH ⟨rfl, V, a7⟩
      replace h := flowK_go a2
      try dsimp only at h V a7
      refine (show At _ _ _ [(4, pt d 0), (6, vB j), (7, vi c), (8, a)] _ from ?_)
      refine th (sq ?_)
      obtain ⟨eW, h, dn⟩ := bnd h
      refine WC.join (σ := (List Bool × Own)) (fun x w' => x.1 = eW ∧ Stp [1008, 1011, 1012, 1013] bh aH x.2 w' ∧ OwnSl 1015 Rep.B 4 x.2 w' a x.1) (fun x => [(4, pt d 0), (7, vi c), (8, a)]) ?_ ?_
      ·refine sq (rg (wY (ym z) z (nl (th ?_))))
       rcases cnd h with ⟨aI, h⟩ | ⟨aI, h⟩
       ·refine WC.condT' z aI (sq (rg (wY (ya z) z (nl (th ?_)))))
        obtain ⟨eX, h, dp⟩ := bnd h
        refine WC.join (σ := (List Bool × Own)) (fun x w' => x.1 = eX ∧ Stp [1008, 1011, 1012] bh aH x.2 w' ∧ OwnSl 1013 Rep.B 4 x.2 w' a x.1) (fun x => [(4, pt d 0), (7, vi c), (8, a)]) ?_ ?_
        ·refine WC.block ?_
         obtain ⟨bW, h, dr⟩ := flow1 h
         obtain ⟨bX, h⟩ := loop_some h
         refine WC.joinB 4 (σ := (List Bool × Own)) (fun x w' => bW = .go x.1 ∧ Stp [1008, 1011] bh aH x.2 w' ∧ OwnSl 1012 Rep.B 4 x.2 w' a x.1) (fun x => [(4, pt d 0), (7, vi c), (8, a)]) ?_ ?_
         ·obtain ⟨eY, bY, ds⟩ := OwnSl.rlb 1011 rfl a7
          refine WC.loop (σ := (List Bool × Int × Own)) (fun x k w' => loopN k (ref32_set_lp3) (x.1, x.2.1) = some bW ∧ Stp [1008, 1011] bh aH x.2.2 w' ∧ OwnSl 1011 Rep.B 4 x.2.2 w' a x.1) (fun x => [(4, pt d 0), (7, vi c), (8, a), (12, vi x.2.1)]) (bU, 0, eY) bX (.cons z (.cons z (.cons z (.cons z .nil)))) ⟨h, (su_ bY z), ds⟩ ?_
          rintro ⟨dt, eZ, e0⟩ bX fU ⟨h, aj, G⟩
          obtain ⟨e1, ge, rfl, h, bi⟩ := rnd1 h
          unfold ref32_set_lp3 at h
          try dsimp only at h aj G
          refine (show WC _ _ _ _ [(4, pt d 0), (7, vi c), (8, a), (12, vi eZ)] _ from ?_)
          refine sq (sq (rg (wY (ym z) z (wY (Y.lss_i z z) z (nl (th ?_))))))
          rcases cnd h with ⟨aJ, h⟩ | ⟨aJ, h⟩
          ·refine WC.condT' z aJ (sk (th (sq (WC.block (rg (wY (ym z) z (wY (ym z) z (wY (ym z) z (wY (ym z) z ?_)))))))))
           obtain ⟨e2, du, h⟩ := bnd h
           obtain ⟨gf, fz, fV, bj, dw, dx, aK, bZ⟩ := OwnSl.at G du
           obtain rfl := bZ
           replace aK : CellsAt _ _ _ [vB e2] := aK
           have b0 := CAt.own G bj aK
           refine wY (Y.indexAddr ty89 ty4 z bj z dw dx) z (wY (yl ty4 z z b0.at_) z (wY (Y.not z) z ?_))
           obtain ⟨e5, dy, h⟩ := bnd h
           obtain ⟨gg, fA, fY, aL, dz, dA, aM, b1⟩ := OwnSl.at G dy
           obtain rfl := b1
           replace aM : CellsAt _ _ _ [vB e5] := aM
           have fB := CAt.own G aL aM
           refine wY (Y.indexAddr ty89 ty4 z aL z dz dA) z ?_
           obtain ⟨gh, dB, h⟩ := lt1 h
           refine WL.ren 120 z (congrArg vB dB.symm) ?_
           obtain ⟨dC, b2, h⟩ := bnd h
           refine WL.storeOwn (by decide) ty4 z z z G aL b2 ?_
           intro f0 b3 dD
           refine nl (At.inBlock (th (rg (wY (ym z) z (wY (Y.add_i z z) z ?_)))))
           obtain ⟨e6, dE, h⟩ := lt1 h
           refine WL.yE (ya z) (congrArg vi dE.symm) z (nl ?_)
           exact At.round (dC, e6, e0) e1 (Nat.lt_succ_self _) ⟨next1 h bi, (tr_ (su_ aj z) (su_ b3 z)), dD⟩ (.cons z (.cons z (.cons z (.cons z .nil))))
          ·refine WC.condF' z aJ (WC.exit (At.thenX (At.loopX ?_)))
           obtain ⟨e7, b4, dF⟩ := OwnSl.rlb 1012 rfl G
           exact At.hitB (σ := (List Bool × Own)) (dt, e7) ⟨brk1 h bi, (tr_ (su_ aj z) (su_ b4 z)), dF⟩ (.cons z (.cons z (.cons z .nil)))
         ·rintro ⟨dG, gi⟩ f1 ⟨rfl, aQ, bk⟩
          replace h := flowK_go dr
          try dsimp only at h aQ bk
          refine (show At _ _ _ [(4, pt d 0), (7, vi c), (8, a)] _ from ?_)
          refine At.inBlockHit ?_
          obtain ⟨e8, b5, dH⟩ := OwnSl.rlb 1013 rfl bk
          exact At.join (σ := (List Bool × Own)) (dG, e8) ⟨some1 h, (tr_ (su_ aQ z) (su_ b5 z)), dH⟩ (.cons z (.cons z (.cons z .nil)))
        ·rintro ⟨dI, gj⟩ f2 ⟨rfl, aR, bl⟩
         replace h := dp
         try dsimp only at h aR bl
         refine (show At _ _ _ [(4, pt d 0), (7, vi c), (8, a)] _ from ?_)
         obtain ⟨e9, b6, dJ⟩ := OwnSl.rlb 1015 rfl bl
         exact At.join (σ := (List Bool × Own)) (dI, e9) ⟨some1 h, (tr_ (su_ aR z) (su_ b6 z)), dJ⟩ (.cons z (.cons z (.cons z .nil)))
       ·refine WC.condF' z aI (sk ?_)
        obtain ⟨fa, b7, dK⟩ := OwnSl.rlb 1015 rfl a7
        exact At.join (σ := (List Bool × Own)) (bU, fa) ⟨some1 h, (su_ b7 z), dK⟩ (.cons z (.cons z (.cons z .nil)))
      ·rintro ⟨dL, gk⟩ dM ⟨rfl, H, aN⟩
       replace h := dn
       try dsimp only at h H aN
       refine (show At _ _ _ [(4, pt d 0), (7, vi c), (8, a)] _ from ?_)
       refine th (sq (rg (wY (ym z) z ?_)))
       have dN := h
       obtain ⟨I, J, K, rfl⟩ := aN.shape
       have h := dN
       refine wY (yb (vals := [(2, (vl I J K))]) (cells := [vB false, vB false, (vl I J K), vb 0]) (fe_ z) (by kernel_rfl)) z ?_
       obtain ⟨b8, W, dO⟩ := OwnSl.giveF rfl Flat.B aN
       have dP : Stp [12, 13, 14, 1001, 1002, 1003, 1004, 1005, 1006, 1008, 1011, 1012, 1013, 1015] (Lg.O0 (fun _ => False)) w b8 dM := (tr_ (su_ D z) (tr_ (su_ l z) (tr_ (su_ p z) (tr_ (su_ V z) (tr_ (su_ H z) (su_ W z))))))
       refine WL.buildSlice (O := b8) (R := (frR rep_ref32_Piece w.heap.size)) (vals := [(0, ag [vB false, vB false, (vl I J K), vb 0])]) 15 [vB false, vB false, (vl I J K), vb 0] (xs := [(ref32_Piece.mk false false dL 0)]) (by decide) ty61 ty91 (show 0 < rep_ref32_Piece.n by decide) (show 1 * rep_ref32_Piece.n ≤ 65536 by decide) (fe_ z) (by kernel_rfl) z ⟨[vB false, vB false, (vl I J K), vb 0], [], z, ⟨[vB false], [vB false, (vl I J K), vb 0], z, z, ⟨[vB false], [(vl I J K), vb 0], z, z, ⟨[(vl I J K)], [vb 0], z, ⟨_, z, (Sl.frB dO dP low0)⟩, z⟩⟩⟩, z⟩ z ?_
       intro gl fc f3 ak bm
       refine wY (ym z) z (wY (Y.add_i z z) z ?_)
       have dQ := h
       obtain ⟨ab, ac, ad, rfl⟩ := bm.shape
       have h := dQ
       refine wY (yb (vals := [(0, (vl ab ac ad)), (1, vi (w64 (c + 1)))]) (cells := [(vl ab ac ad), vi (w64 (c + 1)), vi 0]) (fe_ z) (by kernel_rfl)) z ?_
       have dW := (((((ah.st l z).st p z).st V z).st H z).st W z).st ak z
       refine WL.store (v := ag [(vl ab ac ad), vi (w64 (c + 1)), vi 0]) (cells' := [(vl ab ac ad), vi (w64 (c + 1)), vi 0]) ty63 z z dW z (le_ z) z z ?_
       intro bn al dX
       refine nl (th (rt ?_))
       obtain rfl := some1 h
       have dY := bm.st al z z z
       have dZ : Stp [11, 12, 13, 14, 1001, 1002, 1003, 1004, 1005, 1006, 1008, 1011, 1012, 1013, 1015] (Lg.O0 (fun _ => False)) w fc bn := (tr_ (su_ D z) (tr_ (su_ l z) (tr_ (su_ p z) (tr_ (su_ V z) (tr_ (su_ H z) (tr_ (su_ W z) (tr_ (su_ ak z) (su_ al z))))))))
       obtain ⟨fd, aS, d0⟩ := OwnSl.giveB rfl dY dZ low0
       have d1 : Stp [11, 12, 13, 14, 15, 1001, 1002, 1003, 1004, 1005, 1006, 1008, 1011, 1012, 1013, 1015] (Lg.O0 (fun _ => False)) w fd bn := (tr_ (su_ D z) (tr_ (su_ l z) (tr_ (su_ p z) (tr_ (su_ V z) (tr_ (su_ H z) (tr_ (su_ W z) (tr_ (su_ ak z) (tr_ (su_ al z) (su_ aS z)))))))))
       have d2 := dX.st aS z
       exact At.res (.inl z) z (.cell z (d2.runAg 0 [(vl ab ac ad), vi (w64 (c + 1)), vi 0] ty63 z z z) .nil) ⟨(vl ab ac ad), z, (se_ d1 z z), (Sl.outFb d0)⟩
theorem c_ref32_plain {a0 : UInt8} {w : World} {r0 : ref32_Piece} (h : ref32_plain a0 = some r0) : Rets Tryd.prog 46 [vb a0] w (fun v w' => ∃ (q : Value), v = ag [vB r0.Many, vB r0.Plain, q, vb r0.C] ∧ Ext w w' ∧ RowF Rep.B 4 w w' q r0.In) := by
 unfold ref32_plain at h
 refine Rets.enter Tryd.func46 z z ?_
 refine (show WC _ _ _ _ [(0, vb a0)] _ from ?_)
 refine sq (rg (WL.alloc (O := (Lg.O0 (fun _ => False))) 11 [vB false, vB false, sn, vb 0] ty91 z z ?_))
 intro ap ad al G K
 refine nl (th (sq (rg ?_)))
 obtain ⟨ae, M, h⟩ := bnd h
 refine WL.call (vals := [vB false]) kok47 z z (c_ref32_nothing M) ?_
 rintro r Q ⟨_, rfl, S, af⟩
 obtain ⟨J, ah, t, m⟩ := adoptE ad (fun k => if ob r = some k then 12 else 1) S
 have e : OwnSl 12 Rep.B 4 J Q r ae := RowF.adopt 12 Flat.B af t (fun k hk => if_pos hk)
 refine wY (ya z) z (nl (th (sq (rg (wY (ym z) z (wY (ym z) z (wY (Y.conv_bi ty5.u ty3.u z) z ?_)))))))
 obtain ⟨ai, T, h⟩ := bnd h
 obtain ⟨aq, aj, am, j, U, V, l, H⟩ := OwnSl.at e T
 obtain rfl := H
 replace l : CellsAt _ _ _ [vB ai] := l
 have ak := CAt.own e j l
 refine wY (Y.indexAddr ty89 ty4 z j z U V) z ?_
 obtain ⟨an, I, h⟩ := bnd h
 refine WL.storeOwn (by decide) ty4 z z z e j I ?_
 intro ao o D
 refine nl (th (sq (rg (wY (ym z) z (wY (ym z) z ?_)))))
 have W := h
 obtain ⟨a, c, d, rfl⟩ := D.shape
 have h := W
 refine wY (yb (vals := [(1, vB true), (2, (vl a c d)), (3, vb a0)]) (cells := [vB false, vB true, (vl a c d), vb a0]) (fe_ z) (by kernel_rfl)) z ?_
 have Z := (K.st m z).st o z
 refine WL.store (v := ag [vB false, vB true, (vl a c d), vb a0]) (cells' := [vB false, vB true, (vl a c d), vb a0]) ty91 z z Z z (le_ z) z z ?_
 intro aa p ab
 refine nl (th (rt ?_))
 obtain rfl := some1 h
 have F : Stp [11, 12] (Lg.O0 (fun _ => False)) w J aa := (tr_ (su_ G z) (tr_ (su_ m z) (tr_ (su_ o z) (su_ p z))))
 have ac := D.st p z z z
 exact At.res (.inl z) z (.cell z (ab.runAg 0 [vB false, vB true, (vl a c d), vb a0] ty91 z z z) .nil) ⟨(vl a c d), z, (se_ F z z), (OwnSl.outF ac F low0 z)⟩
theorem c_ref32_Compile {a0 : List UInt8} {w : World} {r0 : ref32_Got} (h : ref32_Compile a0 = some r0) : Rets Tryd.prog 23 [vs a0] w (fun v w' => ∃ (a5 : Value), v = ag [a5, vi r0.At, vi r0.E] ∧ Ext w w' ∧ Sl rep_ref32_Piece w' (fun k => w.heap.size ≤ k) a5 r0.L) := by
 unfold ref32_Compile at h
 refine Rets.enter Tryd.func23 z z ?_
 refine (show WC _ _ _ _ [(0, vs a0)] _ from ?_)
 refine sq (rg (WL.alloc (O := (Lg.O0 (fun _ => False))) 11 [sn, vi 0, vi 0] ty63 z z ?_))
 intro X aO a6 j an
 refine nl (th (sq (sq (rg (wY (ym z) z (wY (Y.len_s ty9 z) z (wY (Y.gtr_i z z) z (nl (th ?_)))))))))
 rcases cnd h with ⟨aF, h⟩ | ⟨aF, h⟩
 ·refine WC.condT' z aF (sq (rg (wY (yb (vals := [(1, vi 64), (2, vi 4)]) (cells := [sn, vi 64, vi 4]) (fe_ z) (by kernel_rfl)) z (WL.store (v := ag [sn, vi 64, vi 4]) (cells' := [sn, vi 64, vi 4]) ty63 z z an z (le_ z) z z ?_))))
  intro c5 bJ c6
  refine nl (th (rt (At.thenR ?_)))
  obtain rfl := some1 h
  have c7 : Stp [11] (Lg.O0 (fun _ => False)) w aO c5 := (tr_ (su_ j z) (su_ bJ z))
  exact At.res (.inl z) z (.cell z (c6.runAg 0 [sn, vi 64, vi 4] ty63 z z z) .nil) ⟨sn, z, (se_ c7 z z), (Or.inl ⟨z, z⟩)⟩
 ·refine WC.condF' z aF (sk (th (sq (rg (wY (ya z) z (nl (th (sq (rg ?_)))))))))
  refine wY (ya z) z (nl (th (sq (WC.block ?_))))
  obtain ⟨c0, h, aG⟩ := flow1 h
  obtain ⟨c1, h⟩ := loop_some h
  refine WC.joinB 0 (σ := (List ref32_Piece × Own × Value)) (fun x w' => c0 = .go x.1 ∧ Stp [12, 14, 15, 17, 19, 20, 22, 23, 25, 1001, 1002, 1003] aO a6 x.2.1 w' ∧ OwnSl 1004 (frR rep_ref32_Piece w.heap.size) 91 x.2.1 w' x.2.2 x.1) (fun x => [(2, pt X 0), (3, x.2.2)]) ?_ ?_
  ·refine WC.loop (σ := (List ref32_Piece × Int × Own × Value)) (fun x k w' => loopN k (ref32_Compile_lp1 a0) (x.1, x.2.1) = some c0 ∧ Stp [12, 14, 15, 17, 19, 20, 22, 23, 25, 1001, 1002, 1003] aO a6 x.2.2.1 w' ∧ OwnSl 1003 (frR rep_ref32_Piece w.heap.size) 91 x.2.2.1 w' x.2.2.2 x.1) (fun x => [(0, vs a0), (2, pt X 0), (3, x.2.2.2), (4, vi x.2.1)]) ([], 0, aO, sn) c1 (.cons z (.cons z (.cons z (.cons z .nil)))) ⟨h, (sr_ _ _ _), (OwnSl.nil 1003 (frR rep_ref32_Piece w.heap.size) 91)⟩ ?_
   rintro ⟨dW, m, Z, c2⟩ c1 a7 ⟨h, d, D⟩
   obtain ⟨dX, eK, rfl, h, ao⟩ := rnd1 h
   unfold ref32_Compile_lp1 at h
   try dsimp only at h d D
   refine (show WC _ _ _ _ [(0, vs a0), (2, pt X 0), (3, c2), (4, vi m)] _ from ?_)
   refine sq (sq (rg (wY (ym z) z (wY (ym z) z (wY (Y.len_s ty9 z) z (wY (Y.lss_i z z) z (nl (th ?_))))))))
   rcases cnd h with ⟨aH, h⟩ | ⟨aH, h⟩
   ·refine WC.condT' z aH (sk (th ?_))
    obtain ⟨dY, h, aI⟩ := flow1 h
    refine WC.join (σ := (List ref32_Piece × Int × Own × Value)) (fun x w' => dY = .go (x.1, x.2.1) ∧ Stp [12, 14, 17, 19, 1001, 1003] Z a7 x.2.2.1 w' ∧ OwnSl 1002 (frR rep_ref32_Piece w.heap.size) 91 x.2.2.1 w' x.2.2.2 x.1) (fun x => [(0, vs a0), (2, pt X 0), (3, x.2.2.2), (4, vi x.2.1)]) ?_ ?_
    ·refine WC.block (sq (rg (wY (ym z) z (wY (ym z) z ?_))))
     obtain ⟨dZ, c8, h⟩ := bnd h
     refine wY (Y.index_s ty9 z z c8) z (wY (ya z) z (nl (th (sq (sq (rg (wY (ym z) z (wY (Y.eql_b (b := 91) z z) z (nl ?_)))))))))
     refine th ?_
     rcases cnd h with ⟨aJ, h⟩ | ⟨aJ, h⟩
     ·refine WC.condT' z aJ (sq (rg (wY (ym z) z (wY (ym z) z ?_))))
      obtain ⟨l, c9, h⟩ := bnd h
      refine WL.call (vals := [vs a0, vi m]) kok45 z z (c_ref32_set c9) ?_
      rintro en da ⟨d0, rfl, db, d1⟩
      obtain ⟨c3, d2, a8, F⟩ := adoptE Z (fun k => 1) db
      have dc : Sl rep_ref32_Piece da (frs c3) d0 l.L := Sl.adoptF d1 (fun k hk => ⟨hk, z⟩) a8
      refine WL.alloc (O := c3) 12 [sn, vi 0, vi 0] ty63 z z ?_
      intro eL a9 eo t dd
      have aK := dc.f t z
      have de := h
      obtain ⟨ab, ac, ad, rfl⟩ := aK.shape
      have h := de
      refine WL.store (v := ag [(vl ab ac ad), vi l.At, vi l.E]) (cells' := [(vl ab ac ad), vi l.At, vi l.E]) ty63 z z dd z (le_ z) z z ?_
      intro df o ap
      refine nl (th (sq (sq (rg (wY (yf fo63_2 z) z (wY (yl ty25 z z (ap.cell 2 _ z)) z (wY (Y.neq_i z z) z (nl (th ?_)))))))))
      rcases cnd h with ⟨aL, h⟩ | ⟨aL, h⟩
      ·refine WC.condT' z aL (sq (rg (wY (yL ty63 z z (ap.cells 0 [(vl ab ac ad), vi l.At, vi l.E] z) z) z ?_)))
       have dj := (((an.st d z).st F z).st t z).st o z
       refine WL.store (v := ag [(vl ab ac ad), vi l.At, vi l.E]) (cells' := [(vl ab ac ad), vi l.At, vi l.E]) ty63 z z dj z (le_ z) z z ?_
       intro dk aP dl
       refine nl (th (rt (At.thenR (At.thenR (At.inBlockR ?_)))))
       have h := outs1 h aI
       refine At.joinR (At.loopR ?_)
       have h := outr1 h ao aG
       refine At.joinBR (At.inBlockR (At.thenR ?_))
       obtain rfl := some1 h
       have ba : Stp [11, 12, 14, 15, 17, 19, 20, 22, 23, 25, 1001, 1002, 1003] (Lg.O0 (fun _ => False)) w a9 dk := (tr_ (su_ j z) (tr_ (su_ d z) (tr_ (su_ F z) (tr_ (su_ t z) (tr_ (su_ o z) (su_ aP z))))))
       have dn := (aK.f o z).f aP z
       exact At.res (.inl z) z (.cell z (dl.runAg 0 [(vl ab ac ad), vi l.At, vi l.E] ty63 z z z) .nil) ⟨(vl ab ac ad), z, (se_ ba z z), (Sl.outF dn ba low0)⟩
      ·refine WC.condF' z aL (sk (th (sq (rg (wY (ym z) z (wY (yf fo63_0 z) z (wY (yl ty61 z z (ap.cell 0 _ z)) z ?_)))))))
       obtain ⟨e, dp, h⟩ := bnd h
       have dr := aK.f o z
       obtain ⟨eM, d3, d8, ep, ds, dt, du, aM, bK, bL⟩ := Sl.at2 dr dp
       obtain ⟨_, _, rfl, rfl, ⟨_, _, rfl, rfl, ⟨_, _, rfl, ⟨d4, rfl, bb⟩, rfl⟩⟩⟩ := bK
       replace aM : CellsAt _ _ _ [vB e.Many, vB e.Plain, d4, vb e.C] := aM
       have bc := CAt.frs aM bL
       refine wY (Y.indexAddr ty61 ty91 z ds z dt du) z (wY (yL ty91 z z bc.at_ z) z ?_)
       have bM := h
       obtain ⟨G, H, I, rfl⟩ := bb.shape
       have h := bM
       have bO : Stp [12, 14, 15, 17, 19, 20, 22, 23, 25, 1001, 1002, 1003] (Lg.O0 (fun _ => False)) w a9 df := (tr_ (su_ j z) (tr_ (su_ d z) (tr_ (su_ F z) (tr_ (su_ t z) (su_ o z)))))
       refine WL.buildSlice (O := a9) (R := (frR rep_ref32_Piece w.heap.size)) (vals := [(0, ag [vB e.Many, vB e.Plain, (vl G H I), vb e.C])]) 13 [vB e.Many, vB e.Plain, (vl G H I), vb e.C] (xs := [e]) (by decide) ty61 ty91 (show 0 < rep_ref32_Piece.n by decide) (show 1 * rep_ref32_Piece.n ≤ 65536 by decide) (fe_ z) (by kernel_rfl) z ⟨[vB e.Many, vB e.Plain, (vl G H I), vb e.C], [], z, ⟨[vB e.Many], [vB e.Plain, (vl G H I), vb e.C], z, z, ⟨[vB e.Plain], [(vl G H I), vb e.C], z, z, ⟨[(vl G H I)], [vb e.C], z, ⟨_, z, (Sl.frB bb bO low0)⟩, z⟩⟩⟩, z⟩ z ?_
       intro er es d9 ae bP
       obtain ⟨bQ, bd, h⟩ := bnd h
       have bU := (((D.st F z z z).st t z z z).st o z z z).st ae z z z
       refine WL.append (by decide) ty61 ty91 z (by decide) z z bU bP.src bd z ?_
       intro dw et ea ax bW
       refine wY (ya z) z (nl (th (sq (rg (wY (yf fo63_1 z) z ?_)))))
       have bY := (ap.st ae z).st ax z
       refine wY (yl ty3 z z (bY.cell 1 _ z)) z (wY (ya z) z (nl (th (WC.exit (At.thenX (At.inBlockHit ?_))))))
       obtain ⟨dx, bf, bZ⟩ := OwnSl.rlb 1002 rfl bW
       exact At.join (σ := (List ref32_Piece × Int × Own × Value)) (bQ, l.At, dx, dw) ⟨go2 h, (tr_ (su_ F z) (tr_ (su_ t z) (tr_ (su_ o z) (tr_ (su_ ae z) (tr_ (su_ ax z) (su_ bf z)))))), bZ⟩ (.cons z (.cons z (.cons z (.cons z .nil))))
     ·refine WC.condF' z aJ (sk (th (sq (sq (rg (wY (ym z) z (wY (Y.eql_b (b := 92) z z) z (nl (th ?_)))))))))
      rcases cnd h with ⟨aq, h⟩ | ⟨aq, h⟩
      ·refine WC.condT' z aq (sq (sq (rg (wY (ym z) z (wY (Y.add_i z z) z (wY (ym z) z (wY (Y.len_s ty9 z) z (wY (Y.eql_i z z) z (nl ?_)))))))))
       refine th ?_
       rcases cnd h with ⟨ar, h⟩ | ⟨ar, h⟩
       ·refine WC.condT' z ar (sq (rg (wY (ym z) z (wY (yb (vals := [(1, vi m), (2, vi 2)]) (cells := [sn, vi m, vi 2]) (fe_ z) (by kernel_rfl)) z ?_))))
        have b0 := an.st d z
        refine WL.store (v := ag [sn, vi m, vi 2]) (cells' := [sn, vi m, vi 2]) ty63 z z b0 z (le_ z) z z ?_
        intro b1 bg b2
        refine nl (th (rt (At.thenR (At.thenR (At.inBlockR ?_)))))
        have h := outs1 h aI
        refine At.joinR (At.loopR ?_)
        have h := outr1 h ao aG
        refine At.joinBR (At.inBlockR (At.thenR ?_))
        obtain rfl := some1 h
        have b3 : Stp [11, 12, 14, 15, 17, 19, 20, 22, 23, 25, 1001, 1002, 1003] (Lg.O0 (fun _ => False)) w Z b1 := (tr_ (su_ j z) (tr_ (su_ d z) (su_ bg z)))
        exact At.res (.inl z) z (.cell z (b2.runAg 0 [sn, vi m, vi 2] ty63 z z z) .nil) ⟨sn, z, (se_ b3 z z), (Or.inl ⟨z, z⟩)⟩
       ·refine WC.condF' z ar (sk (th (sq (rg (wY (ym z) z (wY (ym z) z (wY (ym z) z (wY (Y.add_i z z) z ?_))))))))
        obtain ⟨dy, b4, h⟩ := bnd h
        refine wY (Y.index_s ty9 z z b4) z ?_
        obtain ⟨a, b5, h⟩ := bnd h
        refine WL.call (vals := [vb dy]) kok46 z z (c_ref32_plain b5) ?_
        rintro eb aQ ⟨bh, rfl, b6, dz⟩
        obtain ⟨dA, dT, a2, af⟩ := adoptE Z (fun k => if ob bh = some k then 14 else 1) b6
        have aR : OwnSl 14 Rep.B 4 dA aQ bh a.In := RowF.adopt 14 Flat.B dz a2 (fun k hk => if_pos hk)
        have b7 := h
        obtain ⟨J, K, M, rfl⟩ := aR.shape
        have h := b7
        obtain ⟨bi, ah, b8⟩ := OwnSl.giveF rfl Flat.B aR
        have b9 : Stp [12, 14, 15, 17, 19, 20, 22, 23, 25, 1001, 1002, 1003] (Lg.O0 (fun _ => False)) w bi aQ := (tr_ (su_ j z) (tr_ (su_ d z) (tr_ (su_ af z) (su_ ah z))))
        refine WL.buildSlice (O := bi) (R := (frR rep_ref32_Piece w.heap.size)) (vals := [(0, ag [vB a.Many, vB a.Plain, (vl J K M), vb a.C])]) 15 [vB a.Many, vB a.Plain, (vl J K M), vb a.C] (xs := [a]) (by decide) ty61 ty91 (show 0 < rep_ref32_Piece.n by decide) (show 1 * rep_ref32_Piece.n ≤ 65536 by decide) (fe_ z) (by kernel_rfl) z ⟨[vB a.Many, vB a.Plain, (vl J K M), vb a.C], [], z, ⟨[vB a.Many], [vB a.Plain, (vl J K M), vb a.C], z, z, ⟨[vB a.Plain], [(vl J K M), vb a.C], z, z, ⟨[(vl J K M)], [vb a.C], z, ⟨_, z, (Sl.frB b8 b9 low0)⟩, z⟩⟩⟩, z⟩ z ?_
        intro eu ew ec ay ca
        obtain ⟨cb, bj, h⟩ := bnd h
        have ce := ((D.st af z z z).st ah z z z).st ay z z z
        refine WL.append (by decide) ty61 ty91 z (by decide) z z ce ca.src bj z ?_
        intro dB ex ed bk cf
        refine wY (ya z) z (nl (th (sq (rg (wY (ym z) z (wY (Y.add_i z z) z ?_))))))
        obtain ⟨cg, bl, h⟩ := lt1 h
        refine WL.yE (ya z) (congrArg vi bl.symm) z (nl (th (WC.exit (At.thenX (At.inBlockHit ?_)))))
        obtain ⟨dC, bm, ch⟩ := OwnSl.rlb 1002 rfl cf
        exact At.join (σ := (List ref32_Piece × Int × Own × Value)) (cb, cg, dC, dB) ⟨go2 h, (tr_ (su_ af z) (tr_ (su_ ah z) (tr_ (su_ ay z) (tr_ (su_ bk z) (su_ bm z))))), ch⟩ (.cons z (.cons z (.cons z (.cons z .nil))))
      ·refine WC.condF' z aq (sk (th (sq ?_)))
       obtain ⟨dD, h, ci⟩ := bnd h
       refine WC.join (σ := (List ref32_Piece × Own × Value)) (fun x w' => x.1 = dD ∧ Stp [17, 19, 1003] Z a7 x.2.1 w' ∧ OwnSl 1001 (frR rep_ref32_Piece w.heap.size) 91 x.2.1 w' x.2.2 x.1) (fun x => [(0, vs a0), (2, pt X 0), (3, x.2.2), (4, vi m)]) ?_ ?_
       ·refine sq (rg (wY (ym z) z (wY (Y.eql_b (b := 42) z z) z (nl (th ?_)))))
        rcases cnd h with ⟨au, h⟩ | ⟨au, h⟩
        ·refine WC.condT' z au (rg (wY (ym z) z (wY (yb (vals := [(0, vB true)]) (cells := [vB true, vB false, sn, vb 0]) (fe_ z) (by kernel_rfl)) z (WL.buildSlice (O := Z) (R := (frR rep_ref32_Piece w.heap.size)) (vals := [(0, ag [vB true, vB false, sn, vb 0])]) 16 [vB true, vB false, sn, vb 0] (xs := [(ref32_Piece.mk true false [] 0)]) (by decide) ty61 ty91 (show 0 < rep_ref32_Piece.n by decide) (show 1 * rep_ref32_Piece.n ≤ 65536 by decide) (fe_ z) (by kernel_rfl) z ⟨[vB true, vB false, sn, vb 0], [], z, ⟨[vB true], [vB false, sn, vb 0], z, z, ⟨[vB false], [sn, vb 0], z, z, ⟨[sn], [vb 0], z, ⟨_, z, (Or.inl ⟨z, z⟩)⟩, z⟩⟩⟩, z⟩ z ?_))))
         intro ey ez ee az cj
         obtain ⟨ck, bn, h⟩ := bnd h
         have cl := D.st az z z z
         refine WL.append (by decide) ty61 ty91 z (by decide) z z cl cj.src bn z ?_
         intro dE eA ef bo cm
         refine wY (ya z) z (nl ?_)
         obtain ⟨dF, bp, cn⟩ := OwnSl.rlb 1001 rfl cm
         exact At.join (σ := (List ref32_Piece × Own × Value)) (ck, dF, dE) ⟨some1 h, (tr_ (su_ az z) (tr_ (su_ bo z) (su_ bp z))), cn⟩ (.cons z (.cons z (.cons z (.cons z .nil))))
        ·refine WC.condF' z au (sq (rg (wY (ym z) z (wY (Y.eql_b (b := 63) z z) z (nl (th ?_))))))
         rcases cnd h with ⟨av, h⟩ | ⟨av, h⟩
         ·refine WC.condT' z av (rg (wY (ym z) z ?_))
          obtain ⟨bq, co, h⟩ := bnd h
          refine WL.call (vals := [vB true]) kok47 z z (c_ref32_nothing co) ?_
          rintro aS aT ⟨_, rfl, cq, dG⟩
          obtain ⟨dH, dU, a3, ai⟩ := adoptE Z (fun k => if ob aS = some k then 17 else 1) cq
          have aU : OwnSl 17 Rep.B 4 dH aT aS bq := RowF.adopt 17 Flat.B dG a3 (fun k hk => if_pos hk)
          have cr := h
          obtain ⟨p, q, r, rfl⟩ := aU.shape
          have h := cr
          refine wY (yb (vals := [(2, (vl p q r))]) (cells := [vB false, vB false, (vl p q r), vb 0]) (fe_ z) (by kernel_rfl)) z ?_
          obtain ⟨br, aj, cs⟩ := OwnSl.giveF rfl Flat.B aU
          have ct : Stp [12, 14, 15, 17, 19, 20, 22, 23, 25, 1001, 1002, 1003] (Lg.O0 (fun _ => False)) w br aT := (tr_ (su_ j z) (tr_ (su_ d z) (tr_ (su_ ai z) (su_ aj z))))
          refine WL.buildSlice (O := br) (R := (frR rep_ref32_Piece w.heap.size)) (vals := [(0, ag [vB false, vB false, (vl p q r), vb 0])]) 18 [vB false, vB false, (vl p q r), vb 0] (xs := [(ref32_Piece.mk false false bq 0)]) (by decide) ty61 ty91 (show 0 < rep_ref32_Piece.n by decide) (show 1 * rep_ref32_Piece.n ≤ 65536 by decide) (fe_ z) (by kernel_rfl) z ⟨[vB false, vB false, (vl p q r), vb 0], [], z, ⟨[vB false], [vB false, (vl p q r), vb 0], z, z, ⟨[vB false], [(vl p q r), vb 0], z, z, ⟨[(vl p q r)], [vb 0], z, ⟨_, z, (Sl.frB cs ct low0)⟩, z⟩⟩⟩, z⟩ z ?_
          intro eB eC eg aA cu
          obtain ⟨cv, bs, h⟩ := bnd h
          have cy := ((D.st ai z z z).st aj z z z).st aA z z z
          refine WL.append (by decide) ty61 ty91 z (by decide) z z cy cu.src bs z ?_
          intro dI eD eh bt cz
          refine wY (ya z) z (nl ?_)
          obtain ⟨dJ, bu, cA⟩ := OwnSl.rlb 1001 rfl cz
          exact At.join (σ := (List ref32_Piece × Own × Value)) (cv, dJ, dI) ⟨some1 h, (tr_ (su_ ai z) (tr_ (su_ aj z) (tr_ (su_ aA z) (tr_ (su_ bt z) (su_ bu z))))), cA⟩ (.cons z (.cons z (.cons z (.cons z .nil))))
         ·refine WC.condF' z av (rg (wY (ym z) z (wY (ym z) z ?_)))
          obtain ⟨c, cC, h⟩ := bnd h
          refine WL.call (vals := [vb dZ]) kok46 z z (c_ref32_plain cC) ?_
          rintro ei aW ⟨bw, rfl, cD, dK⟩
          obtain ⟨dL, dV, a4, ak⟩ := adoptE Z (fun k => if ob bw = some k then 19 else 1) cD
          have aX : OwnSl 19 Rep.B 4 dL aW bw c.In := RowF.adopt 19 Flat.B dK a4 (fun k hk => if_pos hk)
          have cE := h
          obtain ⟨Q, S, T, rfl⟩ := aX.shape
          have h := cE
          obtain ⟨bx, al, cF⟩ := OwnSl.giveF rfl Flat.B aX
          have cG : Stp [12, 14, 15, 17, 19, 20, 22, 23, 25, 1001, 1002, 1003] (Lg.O0 (fun _ => False)) w bx aW := (tr_ (su_ j z) (tr_ (su_ d z) (tr_ (su_ ak z) (su_ al z))))
          refine WL.buildSlice (O := bx) (R := (frR rep_ref32_Piece w.heap.size)) (vals := [(0, ag [vB c.Many, vB c.Plain, (vl Q S T), vb c.C])]) 20 [vB c.Many, vB c.Plain, (vl Q S T), vb c.C] (xs := [c]) (by decide) ty61 ty91 (show 0 < rep_ref32_Piece.n by decide) (show 1 * rep_ref32_Piece.n ≤ 65536 by decide) (fe_ z) (by kernel_rfl) z ⟨[vB c.Many, vB c.Plain, (vl Q S T), vb c.C], [], z, ⟨[vB c.Many], [vB c.Plain, (vl Q S T), vb c.C], z, z, ⟨[vB c.Plain], [(vl Q S T), vb c.C], z, z, ⟨[(vl Q S T)], [vb c.C], z, ⟨_, z, (Sl.frB cF cG low0)⟩, z⟩⟩⟩, z⟩ z ?_
          intro eE eF ej aC cH
          obtain ⟨cI, bz, h⟩ := bnd h
          have cL := ((D.st ak z z z).st al z z z).st aC z z z
          refine WL.append (by decide) ty61 ty91 z (by decide) z z cL cH.src bz z ?_
          intro dM eG ek bA cM
          refine wY (ya z) z (nl ?_)
          obtain ⟨dN, bB, cN⟩ := OwnSl.rlb 1001 rfl cM
          exact At.join (σ := (List ref32_Piece × Own × Value)) (cI, dN, dM) ⟨some1 h, (tr_ (su_ ak z) (tr_ (su_ al z) (tr_ (su_ aC z) (tr_ (su_ bA z) (su_ bB z))))), cN⟩ (.cons z (.cons z (.cons z (.cons z .nil))))
       ·rintro ⟨dO, eH, bC⟩ em ⟨rfl, aD, aY⟩
        replace h := ci
        try dsimp only at h aD aY
        refine (show At _ _ _ [(0, vs a0), (2, pt X 0), (3, bC), (4, vi m)] _ from ?_)
        refine th (rg (wY (ym z) z (wY (Y.add_i z z) z ?_)))
        obtain ⟨cO, bD, h⟩ := lt1 h
        refine WL.yE (ya z) (congrArg vi bD.symm) z (nl (At.inBlock ?_))
        obtain ⟨dP, bE, cP⟩ := OwnSl.rlb 1002 rfl aY
        exact At.join (σ := (List ref32_Piece × Int × Own × Value)) (dO, cO, dP, bC) ⟨go2 h, (tr_ (su_ aD z) (su_ bE z)), cP⟩ (.cons z (.cons z (.cons z (.cons z .nil))))
    ·rintro ⟨d5, bF, eN, c4⟩ eI ⟨rfl, aZ, bG⟩
     replace h := flowK_go aI
     try dsimp only at h aZ bG
     refine (show At _ _ _ [(0, vs a0), (2, pt X 0), (3, c4), (4, vi bF)] _ from ?_)
     obtain ⟨dQ, bH, cQ⟩ := OwnSl.rlb 1003 rfl bG
     exact At.round (d5, bF, dQ, c4) dX (Nat.lt_succ_self _) ⟨next1 h ao, (tr_ (su_ d z) (tr_ (su_ aZ z) (su_ bH z))), cQ⟩ (.cons z (.cons z (.cons z (.cons z .nil))))
   ·refine WC.condF' z aH (WC.exit (At.thenX (At.loopX ?_)))
    obtain ⟨dR, bI, cR⟩ := OwnSl.rlb 1004 rfl D
    exact At.hitB (σ := (List ref32_Piece × Own × Value)) (dW, dR, c2) ⟨brk1 h ao, (tr_ (su_ d z) (su_ bI z)), cR⟩ (.cons z (.cons z .nil))
  ·rintro ⟨eO, d6, d7⟩ eJ ⟨rfl, aa, aN⟩
   replace h := flowK_go aG
   try dsimp only at h aa aN
   refine (show At _ _ _ [(2, pt X 0), (3, d7)] _ from ?_)
   refine At.inBlockHit (th (sq (rg (wY (ym z) z ?_))))
   have cS := h
   obtain ⟨U, V, W, rfl⟩ := aN.shape
   have h := cS
   refine wY (yb (vals := [(0, (vl U V W))]) (cells := [(vl U V W), vi 0, vi 0]) (fe_ z) (by kernel_rfl)) z ?_
   have cT := an.st aa z
   refine WL.store (v := ag [(vl U V W), vi 0, vi 0]) (cells' := [(vl U V W), vi 0, vi 0]) ty63 z z cT z (le_ z) z z ?_
   intro a1 am cU
   refine nl (th (rt ?_))
   obtain rfl := some1 h
   have cV := aN.st am z z z
   have cW : Stp [11, 12, 14, 15, 17, 19, 20, 22, 23, 25, 1001, 1002, 1003] (Lg.O0 (fun _ => False)) w d6 a1 := (tr_ (su_ j z) (tr_ (su_ aa z) (su_ am z)))
   obtain ⟨dS, aE, cX⟩ := OwnSl.giveB rfl cV cW low0
   have cY : Stp [11, 12, 14, 15, 17, 19, 20, 22, 23, 25, 1001, 1002, 1003, 1004] (Lg.O0 (fun _ => False)) w dS a1 := (tr_ (su_ j z) (tr_ (su_ aa z) (tr_ (su_ am z) (su_ aE z))))
   have cZ := cU.st aE z
   exact At.res (.inl z) z (.cell z (cZ.runAg 0 [(vl U V W), vi 0, vi 0] ty63 z z z) .nil) ⟨(vl U V W), z, (se_ cY z z), (Sl.outFb cX)⟩
theorem c_ref32_Match {A : Nat → Prop} {a0 : List ref32_Piece} {v0 : Value} {a1 : List UInt8} {w : World} (hs0 : Sl rep_ref32_Piece w A v0 a0) {r0 : Bool} (h : ref32_Match a0 a1 = some r0) : Rets Tryd.prog 65 [v0, vs a1] w (fun v w' => v = vB r0 ∧ Ext w w') := by
 unfold ref32_Match at h
 refine Rets.enter Tryd.func65 z z ?_
 have cQ : Sl rep_ref32_Piece w (imm (Lg.O0 A)) v0 a0 := (Sl.start hs0)
 refine (show WC _ _ _ _ [(0, v0), (1, vs a1)] _ from ?_)
 refine sq (rg (wY (ya z) z (nl (th (sq (rg (wY (ym z) z (wY (Y.len_s ty9 z) z (wY (Y.add_i z z) z ?_)))))))))
 obtain ⟨eF, cR, h⟩ := bnd h
 refine WL.make (O := (Lg.O0 A)) (R := Rep.B) (zx := (false : Bool)) 11 (by decide) ty89 ty4 z (by decide) (by decide) z z (fun _ _ => z) cR z ?_
 intro dy aM eh an ad
 refine wY (ya z) z (nl (th (sq (rg (wY (ym z) z ?_)))))
 obtain ⟨dz, cS, h⟩ := bnd h
 obtain ⟨eG, dY, ei, ae, cT, cU, af, bB⟩ := OwnSl.at ad cS
 obtain rfl := bB
 replace af : CellsAt _ _ _ [vB dz] := af
 have dZ := CAt.own ad ae af
 refine wY (Y.indexAddr ty89 ty4 z ae z cT cU) z ?_
 obtain ⟨cV, bC, h⟩ := bnd h
 refine WL.storeOwn (by decide) ty4 z z z ad ae bC ?_
 intro ah ao cW
 refine nl (th (sq (sq (rg (wY (ya z) z (nl (th ?_)))))))
 obtain ⟨dA, h, cX⟩ := bnd h
 refine WC.join (σ := (List Bool × Own × Value)) (fun x w' => x.1 = dA ∧ Stp [11, 12, 1001, 1002, 1003, 1004, 1005, 1006] aM ah x.2.1 w' ∧ OwnSl 1008 Rep.B 4 x.2.1 w' x.2.2 x.1) (fun x => [(1, vs a1), (5, x.2.2)]) ?_ ?_
 ·refine WC.block ?_
  obtain ⟨cL, h, cY⟩ := flow1 h
  obtain ⟨cM, h⟩ := loop_some h
  refine WC.joinB 0 (σ := (List Bool × Own × Value)) (fun x w' => cL = .go x.1 ∧ Stp [11, 12, 1001, 1002, 1003, 1004, 1005] aM ah x.2.1 w' ∧ OwnSl 1006 Rep.B 4 x.2.1 w' x.2.2 x.1) (fun x => [(1, vs a1), (5, x.2.2)]) ?_ ?_
  ·obtain ⟨dB, bD, cZ⟩ := OwnSl.rlb 1005 rfl cW
   refine WC.loop (σ := (List Bool × Int × Own × Value)) (fun x k w' => loopN k (ref32_Match_lp1 a0 a1) (x.1, x.2.1) = some cL ∧ Stp [11, 12, 1001, 1002, 1003, 1004] aM ah x.2.2.1 w' ∧ OwnSl 1005 Rep.B 4 x.2.2.1 w' x.2.2.2 x.1) (fun x => [(0, v0), (1, vs a1), (5, x.2.2.2), (6, vi x.2.1)]) (cV, 0, dB, dy) cM (.cons z (.cons z (.cons z (.cons z .nil)))) ⟨h, (su_ bD z), cZ⟩ ?_
   rintro ⟨ap, d, dC, e⟩ cM ej ⟨h, r, D⟩
   obtain ⟨dD, eH, rfl, h, aN⟩ := rnd1 h
   unfold ref32_Match_lp1 at h
   try dsimp only at h r D
   refine (show WC _ _ _ _ [(0, v0), (1, vs a1), (5, e), (6, vi d)] _ from ?_)
   refine sq (sq (rg (wY (ym z) z (wY (ym z) z ?_))))
   have aO := ((cQ.i an z z).i ao z z).i r z z
   refine wY (Y.len ty61 z aO) z (wY (Y.lss_i z z) z (nl (th ?_)))
   rcases cnd h with ⟨ai, h⟩ | ⟨ai, h⟩
   ·refine WC.condT' z ai (sk (th (sq (WC.block (sq (rg (wY (ym z) z (wY (Y.len_s ty9 z) z (wY (Y.add_i z z) z ?_)))))))))
    obtain ⟨dE, c2, h⟩ := bnd h
    refine WL.make (O := dC) (R := Rep.B) (zx := (false : Bool)) 12 (by decide) ty89 ty4 z (by decide) (by decide) z z (fun _ _ => z) c2 z ?_
    intro a aP aj t c3
    refine wY (ya z) z (nl (th (sq (sq (rg (wY (ya z) z (nl (th ?_))))))))
    obtain ⟨dF, h, c4⟩ := bnd h
    refine WC.join (σ := (List Bool × Own)) (fun x w' => x.1 = dF ∧ Stp [12, 1001, 1002, 1003] aP aj x.2 w' ∧ OwnSl 1004 Rep.B 4 x.2 w' a x.1) (fun x => [(0, v0), (1, vs a1), (6, vi d), (7, a)]) ?_ ?_
    ·refine WC.block ?_
     obtain ⟨cN, h, c5⟩ := flow1 h
     obtain ⟨cO, h⟩ := loop_some h
     refine WC.joinB 2 (σ := (List Bool × Own)) (fun x w' => cN = .go x.1 ∧ Stp [12, 1001, 1002] aP aj x.2 w' ∧ OwnSl 1003 Rep.B 4 x.2 w' a x.1) (fun x => [(0, v0), (1, vs a1), (6, vi d), (7, a)]) ?_ ?_
     ·obtain ⟨dG, bE, c6⟩ := OwnSl.rlb 1002 rfl c3
      refine WC.loop (σ := (List Bool × Int × Own)) (fun x k w' => loopN k (ref32_Match_lp2 a0 a1 ap d) (x.1, x.2.1) = some cN ∧ Stp [12, 1001, 1002] aP aj x.2.2 w' ∧ OwnSl 1002 Rep.B 4 x.2.2 w' a x.1) (fun x => [(0, v0), (1, vs a1), (5, e), (6, vi d), (7, a), (8, vi x.2.1)]) (dE, 0, dG) cO (.cons z (.cons z (.cons z (.cons z (.cons z (.cons z .nil)))))) ⟨h, (su_ bE z), c6⟩ ?_
      rintro ⟨aQ, c, aq⟩ cO ak ⟨h, l, j⟩
      obtain ⟨dH, ek, rfl, h, ar⟩ := rnd1 h
      unfold ref32_Match_lp2 at h
      try dsimp only at h l j
      refine (show WC _ _ _ _ [(0, v0), (1, vs a1), (5, e), (6, vi d), (7, a), (8, vi c)] _ from ?_)
      refine sq (sq (rg (wY (ym z) z (wY (ym z) z (wY (Y.len_s ty9 z) z (wY (Y.leq_i z z) z (nl (th ?_))))))))
      rcases cnd h with ⟨F, h⟩ | ⟨F, h⟩
      ·refine WC.condT' z F (sk (th (sq ?_)))
       obtain ⟨c7, h, bF⟩ := bnd h
       refine WC.join (σ := (List Bool × Own)) (fun x w' => x.1 = c7 ∧ Stp [1002] aq ak x.2 w' ∧ OwnSl 1001 Rep.B 4 x.2 w' a x.1) (fun x => [(0, v0), (1, vs a1), (5, e), (6, vi d), (7, a), (8, vi c)]) ?_ ?_
       ·refine WC.block (sq (rg (wY (ym z) z (wY (ym z) z ?_))))
        obtain ⟨G, bG, h⟩ := bnd h
        have au := (aO.i t z z).i l z z
        obtain ⟨em, dI, dJ, d0, bI, bJ, bK, H, aR, bL⟩ := Sl.at2 au bG
        obtain ⟨_, _, rfl, rfl, ⟨_, _, rfl, rfl, ⟨_, _, rfl, ⟨c8, rfl, d1⟩, rfl⟩⟩⟩ := aR
        replace H : CellsAt _ _ _ [vB G.Many, vB G.Plain, c8, vb G.C] := H
        have aS := CAt.imm H bL
        refine wY (Y.indexAddr ty61 ty91 z bI z bJ bK) z (wY (yf fo91_0 z) z (wY (yl ty4 z z (aS.at_.sub 0 [vB G.Many] z)) z (nl (th ?_))))
        rcases cnd h with ⟨I, h⟩ | ⟨I, h⟩
        ·refine WC.condT' z I (rg (wY (ym z) z (wY (ym z) z (wY (ym z) z (wY (ym z) z ?_)))))
         obtain ⟨c9, bM, h⟩ := bnd h
         have av := (D.st t z z z).st l z z z
         obtain ⟨en, dK, d2, ax, bP, bQ, J, aT⟩ := OwnSl.at av bM
         obtain rfl := aT
         replace J : CellsAt _ _ _ [vB c9] := J
         have aU := CAt.own av ax J
         refine wY (Y.indexAddr ty89 ty4 z ax z bP bQ) z (wY (yl ty4 z z aU.at_) z (wY (ym z) z ?_))
         obtain ⟨da, h, bR⟩ := bnd h
         refine WL.cut 10 (σ := Bool) (fun x w' => x = da ∧ ak = w') (fun x => [(0, v0), (1, vs a1), (5, e), (6, vi d), (7, a), (8, vi c), (36, a), (37, vi c), (52, vB x)]) ?_ ?_
         ·rcases cnd h with ⟨K, h⟩ | ⟨K, h⟩
          ·refine WL.ren 42 z (congrArg vB K) (WL.gS z z z z (WL.gS z z z z (WL.gS z z z z (WL.gS z z z z (WL.gS z z z z (WL.gS z z z z (WL.gS z z z z (WL.gS z z z z (WL.gS z z z z ?_)))))))))
           refine wY (Y.pick (b := true) z z) z ?_
           exact nl (At.join (σ := Bool) true ⟨some1 h, z⟩ (.cons z (.cons z (.cons z (.cons z (.cons z (.cons z (.cons z (.cons z (.cons z .nil))))))))))
          ·refine WL.ren 42 z (congrArg vB K) (ug z z (wY (ym z) z (ug z z (wY (Y.gtr_i z z) z (ug z z (wY (ym z) z ?_))))))
           obtain ⟨db, h, bS⟩ := bnd h
           refine WL.cut 6 (σ := Bool) (fun x w' => x = db ∧ ak = w') (fun x => [(0, v0), (1, vs a1), (5, e), (6, vi d), (7, a), (8, vi c), (36, a), (37, vi c), (42, vB false), (43, vi c), (44, vB (decide (0 < c))), (45, vB (decide (0 < c))), (51, vB x)]) ?_ ?_
           ·rcases cnd h with ⟨m, h⟩ | ⟨m, h⟩
            ·refine WL.ren 45 z (congrArg vB m) (ug z z (wY (ym z) z (ug z z (wY (ym z) z (ug z z (wY (Y.sub_i z z) z (ug z z ?_)))))))
             obtain ⟨aW, bT, h⟩ := bnd h
             obtain ⟨eo, dL, d3, ay, bU, bW, M, aX⟩ := OwnSl.at j bT
             obtain rfl := aX
             replace M : CellsAt _ _ _ [vB aW] := M
             have aY := CAt.own j ay M
             refine wY (Y.indexAddr ty89 ty4 z ay z bU bW) z (ug z z (wY (yl ty4 z z aY.at_) z (ug z z (wY (Y.pick (b := true) z z) z (WL.ren 45 z (congrArg vB m.symm) ?_)))))
             exact nl (At.join (σ := Bool) aW ⟨some1 h, z⟩ (.cons z (.cons z (.cons z (.cons z (.cons z (.cons z (.cons z (.cons z (.cons z (.cons z (.cons z (.cons z (.cons z .nil))))))))))))))
            ·refine WL.ren 45 z (congrArg vB m) (WL.gS z z z z (WL.gS z z z z (WL.gS z z z z (WL.gS z z z z (WL.gS z z z z (ug z z (wY (Y.pick (b := false) z z) z (WL.ren 45 z (congrArg vB m.symm) ?_))))))))
             exact nl (At.join (σ := Bool) false ⟨some1 h, z⟩ (.cons z (.cons z (.cons z (.cons z (.cons z (.cons z (.cons z (.cons z (.cons z (.cons z (.cons z (.cons z (.cons z .nil))))))))))))))
           ·rintro aZ _ ⟨rfl, rfl⟩
            replace h := bS
            try dsimp only at h
            refine (show WL _ _ _ _ _ [(0, v0), (1, vs a1), (5, e), (6, vi d), (7, a), (8, vi c), (36, a), (37, vi c), (42, vB false), (43, vi c), (44, vB (decide (0 < c))), (45, vB (decide (0 < c))), (51, vB aZ)] _ from ?_)
            refine wY (Y.pick (b := false) z z) z ?_
            exact nl (At.join (σ := Bool) aZ ⟨some1 h, z⟩ (.cons z (.cons z (.cons z (.cons z (.cons z (.cons z (.cons z (.cons z (.cons z .nil))))))))))
         ·rintro dc _ ⟨rfl, rfl⟩
          replace h := bR
          try dsimp only at h
          refine (show WL _ _ _ _ _ [(0, v0), (1, vs a1), (5, e), (6, vi d), (7, a), (8, vi c), (36, a), (37, vi c), (52, vB dc)] _ from ?_)
          obtain ⟨dd, bX, h⟩ := bnd h
          obtain ⟨ep, dM, d4, Q, bY, bZ, S, a2⟩ := OwnSl.at j bX
          obtain rfl := a2
          replace S : CellsAt _ _ _ [vB dd] := S
          have dN := CAt.own j Q S
          refine wY (Y.indexAddr ty89 ty4 z Q z bY bZ) z ?_
          obtain ⟨b0, a3, h⟩ := bnd h
          refine WL.storeOwn (by decide) ty4 z z z j Q a3 ?_
          intro d5 a4 b1
          refine nl (At.inBlock ?_)
          obtain ⟨de, a5, b2⟩ := OwnSl.rlb 1001 rfl b1
          exact At.join (σ := (List Bool × Own)) (b0, de) ⟨some1 h, (tr_ (su_ a4 z) (su_ a5 z)), b2⟩ (.cons z (.cons z (.cons z (.cons z (.cons z (.cons z .nil))))))
        ·refine WC.condF' z I (WC.drawH [1002] [0, 1, 2, 3, 4, 5, 6, 7, 8, 9, 10, 11, 12, 13, 14, 15, 16, 17, 18, 19, 20, 21, 22, 23, 24, 25, 26] aq 27 fmix z (by kernel_rfl) ?_)
         intro az o
         refine WD.y 0 z (by kernel_rfl) (fun _ _ _ => ym z) z (WD.y 1 z (by kernel_rfl) (fun _ _ _ => ym z) z (WD.y 2 z (by kernel_rfl) (fun _ _ _ => ym z) z (WD.y 3 z (by kernel_rfl) (fun _ _ _ => Y.gtr_i z z) z (WD.y 4 z (by kernel_rfl) (fun _ _ _ => ym z) z ?_))))
         obtain ⟨df, h, b3⟩ := bnd h
         refine WD.join (σ := Bool) (f' := 16) [10, 9, 8, 7, 6, 5, 4, 3, 2, 1, 0] (fun x O' w' => x = df ∧ az = w' ∧ aq = O') (fun x => [(0, v0), (1, vs a1), (5, e), (6, vi d), (7, a), (8, vi c), (54, a), (55, vi c), (64, vB x)]) (fun aA => ?_) ?_
         ·rcases cnd h with ⟨p, h⟩ | ⟨p, h⟩
          ·refine WD.ren 58 z (congrArg vB p) (WD.gT 5 z (by kernel_rfl) z z (fun _ _ _ => ym z) z (WD.gT 6 z (by kernel_rfl) z z (fun _ _ _ => ym z) z (WD.gT 7 z (by kernel_rfl) z z (fun _ _ _ => Y.sub_i z z) z ?_)))
           obtain ⟨a6, b4, h⟩ := bnd h
           have aC := ((D.st t z z z).st l z z z).st o z z z
           obtain ⟨er, dO, d6, aD, b7, b8, T, a7⟩ := OwnSl.at aC b4
           obtain rfl := a7
           replace T : CellsAt _ _ _ [vB a6] := T
           have a8 := CAt.own aC aD T
           refine WD.gT 8 z (by kernel_rfl) z z (fun _ _ _ => Y.indexAddr ty89 ty4 z aD z b7 b8) z (WD.gT 9 z (by kernel_rfl) z z (fun d7 es a9 => have b9 := a8.st a9 z; yl ty4 z z b9.at_) z (WD.y 10 z (by kernel_rfl) (fun _ _ _ => Y.pick (b := true) z z) z (WD.ren 58 z (congrArg vB p.symm) ?_)))
           exact aA a6 _ _ _ ⟨some1 h, z, z⟩ (.cons z (.cons z (.cons z (.cons z (.cons z (.cons z (.cons z (.cons z (.cons z .nil)))))))))
          ·refine WD.ren 58 z (congrArg vB p) (WD.gS 5 z (by kernel_rfl) z z z z (WD.gS 6 z (by kernel_rfl) z z z z (WD.gS 7 z (by kernel_rfl) z z z z (WD.gS 8 z (by kernel_rfl) z z z z (WD.gS 9 z (by kernel_rfl) z z z z (WD.y 10 z (by kernel_rfl) (fun _ _ _ => Y.pick (b := false) z z) z (WD.ren 58 z (congrArg vB p.symm) ?_)))))))
           exact aA false _ _ _ ⟨some1 h, z, z⟩ (.cons z (.cons z (.cons z (.cons z (.cons z (.cons z (.cons z (.cons z (.cons z .nil)))))))))
         ·rintro dg _ _ ⟨rfl, rfl, rfl⟩
          replace h := b3
          try dsimp only at h
          refine (show WD _ _ _ _ _ _ _ _ [(0, v0), (1, vs a1), (5, e), (6, vi d), (7, a), (8, vi c), (54, a), (55, vi c), (64, vB dg)] _ _ from ?_)
          refine WD.y 11 z (by kernel_rfl) (fun _ _ _ => ym z) z ?_
          obtain ⟨dh, h, ca⟩ := bnd h
          refine WD.join (σ := Bool) (f' := 2) [24, 23, 22, 21, 20, 19, 18, 17, 16, 15, 14, 13, 12, 11, 10, 9, 8, 7, 6, 5, 4, 3, 2, 1, 0] (fun x O' w' => x = dh ∧ az = w' ∧ aq = O') (fun x => [(0, v0), (1, vs a1), (5, e), (6, vi d), (7, a), (8, vi c), (54, a), (55, vi c), (78, vB x)]) (fun aE => ?_) ?_
          ·rcases cnd h with ⟨q, h⟩ | ⟨q, h⟩
           ·refine WD.ren 65 z (congrArg vB q) (WD.gT 12 z (by kernel_rfl) z z (fun _ _ _ => ym z) z (WD.gT 13 z (by kernel_rfl) z z (fun _ _ _ => ym z) z ?_))
            obtain ⟨al, cb, h⟩ := bnd h
            have cc := au.i o z z
            obtain ⟨et, dP, dQ, d8, cd, ce, cf, U, ba, cg⟩ := Sl.at2 cc cb
            obtain ⟨_, _, rfl, rfl, ⟨_, _, rfl, rfl, ⟨_, _, rfl, ⟨bb, rfl, ch⟩, rfl⟩⟩⟩ := ba
            replace U : CellsAt _ _ _ [vB al.Many, vB al.Plain, bb, vb al.C] := U
            have bc := CAt.imm U cg
            refine WD.gT 14 z (by kernel_rfl) z z (fun _ _ _ => Y.indexAddr ty61 ty91 z cd z ce cf) z (WD.gT 15 z (by kernel_rfl) z z (fun _ _ _ => yf fo91_2 z) z (WD.gT 16 z (by kernel_rfl) z z (fun d9 eu bd => have ci := bc.st bd z; yl ty89 z z (ci.at_.sub 2 [bb] z)) z (WD.gT 17 z (by kernel_rfl) z z (fun _ _ _ => ym z) z (WD.gT 18 z (by kernel_rfl) z z (fun _ _ _ => ym z) z (WD.gT 19 z (by kernel_rfl) z z (fun _ _ _ => Y.sub_i z z) z ?_)))))
            obtain ⟨ew, cj, h⟩ := bnd h
            refine WD.gT 20 z (by kernel_rfl) z z (fun _ _ _ => Y.index_s ty9 z z cj) z (WD.gT 21 z (by kernel_rfl) z z (fun _ _ _ => Y.conv_bi ty5.u ty3.u z) z ?_)
            obtain ⟨bf, ck, h⟩ := bnd h
            obtain ⟨ex, dR, dS, ea, cl, cm, cn, V, bg, co⟩ := Sl.at2 ch ck
            obtain rfl := bg
            replace V : CellsAt _ _ _ [vB bf] := V
            have bh := CAt.imm V co
            refine WD.gT 22 z (by kernel_rfl) z z (fun _ _ _ => Y.indexAddr ty89 ty4 z cl z cm cn) z (WD.gT 23 z (by kernel_rfl) z z (fun eb ey bi => have cq := bh.st bi z; yl ty4 z z cq.at_) z (WD.y 24 z (by kernel_rfl) (fun _ _ _ => Y.pick (b := true) z z) z (WD.ren 65 z (congrArg vB q.symm) ?_)))
            exact aE bf _ _ _ ⟨some1 h, z, z⟩ (.cons z (.cons z (.cons z (.cons z (.cons z (.cons z (.cons z (.cons z (.cons z .nil)))))))))
           ·refine WD.ren 65 z (congrArg vB q) (WD.gS 12 z (by kernel_rfl) z z z z (WD.gS 13 z (by kernel_rfl) z z z z (WD.gS 14 z (by kernel_rfl) z z z z (WD.gS 15 z (by kernel_rfl) z z z z (WD.gS 16 z (by kernel_rfl) z z z z (WD.gS 17 z (by kernel_rfl) z z z z (WD.gS 18 z (by kernel_rfl) z z z z (WD.gS 19 z (by kernel_rfl) z z z z (WD.gS 20 z (by kernel_rfl) z z z z ?_)))))))))
            refine WD.gS 21 z (by kernel_rfl) z z z z (WD.gS 22 z (by kernel_rfl) z z z z (WD.gS 23 z (by kernel_rfl) z z z z (WD.y 24 z (by kernel_rfl) (fun _ _ _ => Y.pick (b := false) z z) z (WD.ren 65 z (congrArg vB q.symm) ?_))))
            exact aE false _ _ _ ⟨some1 h, z, z⟩ (.cons z (.cons z (.cons z (.cons z (.cons z (.cons z (.cons z (.cons z (.cons z .nil)))))))))
          ·rintro di _ _ ⟨rfl, rfl, rfl⟩
           replace h := ca
           try dsimp only at h
           refine (show WD _ _ _ _ _ _ _ _ [(0, v0), (1, vs a1), (5, e), (6, vi d), (7, a), (8, vi c), (54, a), (55, vi c), (78, vB di)] _ _ from ?_)
           obtain ⟨dj, cr, h⟩ := bnd h
           have W := j.st o z z z
           obtain ⟨ez, dT, ec, X, cs, ct, Z, bj⟩ := OwnSl.at W cr
           obtain rfl := bj
           replace Z : CellsAt _ _ _ [vB dj] := Z
           have dU := CAt.own W X Z
           refine WD.y 25 z (by kernel_rfl) (fun _ _ _ => Y.indexAddr ty89 ty4 z X z cs ct) z (WD.heavy 26 z (by kernel_rfl) ?_)
           obtain ⟨cu, bk, h⟩ := bnd h
           refine WL.storeOwn (by decide) ty4 z z z W X bk ?_
           intro ed ab cv
           refine nl (At.dq (su_ ab z) (WD.done_ (by kernel_rfl) (At.inBlock ?_)))
           obtain ⟨dk, bl, cw⟩ := OwnSl.rlb 1001 rfl cv
           exact At.join (σ := (List Bool × Own)) (cu, dk) ⟨some1 h, (tr_ (su_ o z) (tr_ (su_ ab z) (su_ bl z))), cw⟩ (.cons z (.cons z (.cons z (.cons z (.cons z (.cons z .nil))))))
       ·rintro ⟨aL, eA⟩ ee ⟨rfl, ac, aF⟩
        replace h := bF
        try dsimp only at h ac aF
        refine (show At _ _ _ [(0, v0), (1, vs a1), (5, e), (6, vi d), (7, a), (8, vi c)] _ from ?_)
        refine th (rg (wY (ym z) z (wY (Y.add_i z z) z ?_)))
        obtain ⟨dl, cx, h⟩ := lt1 h
        refine WL.yE (ya z) (congrArg vi cx.symm) z (nl ?_)
        obtain ⟨dm, bm, cy⟩ := OwnSl.rlb 1002 rfl aF
        exact At.round (aL, dl, dm) dH (Nat.lt_succ_self _) ⟨next1 h ar, (tr_ (su_ l z) (tr_ (su_ ac z) (su_ bm z))), cy⟩ (.cons z (.cons z (.cons z (.cons z (.cons z (.cons z .nil))))))
      ·refine WC.condF' z F (WC.exit (At.thenX (At.loopX ?_)))
       obtain ⟨dn, bn, cz⟩ := OwnSl.rlb 1003 rfl j
       exact At.hitB (σ := (List Bool × Own)) (aQ, dn) ⟨brk1 h ar, (tr_ (su_ l z) (su_ bn z)), cz⟩ (.cons z (.cons z (.cons z (.cons z .nil))))
     ·rintro ⟨bo, eI⟩ eB ⟨rfl, aG, bp⟩
      replace h := flowK_go c5
      try dsimp only at h aG bp
      refine (show At _ _ _ [(0, v0), (1, vs a1), (6, vi d), (7, a)] _ from ?_)
      refine At.inBlockHit ?_
      obtain ⟨dp, bq, cA⟩ := OwnSl.rlb 1004 rfl bp
      exact At.join (σ := (List Bool × Own)) (bo, dp) ⟨some1 h, (tr_ (su_ aG z) (su_ bq z)), cA⟩ (.cons z (.cons z (.cons z (.cons z .nil))))
    ·rintro ⟨br, eJ⟩ eC ⟨rfl, aH, bs⟩
     replace h := c4
     try dsimp only at h aH bs
     refine (show At _ _ _ [(0, v0), (1, vs a1), (6, vi d), (7, a)] _ from ?_)
     refine th (rg (wY (ym z) z (wY (ya z) z (nl (At.inBlock (th (rg (wY (ym z) z (wY (Y.add_i z z) z ?_)))))))))
     obtain ⟨dr, cC, h⟩ := lt1 h
     refine WL.yE (ya z) (congrArg vi cC.symm) z (nl ?_)
     obtain ⟨ds, bt, cD⟩ := OwnSl.rlb 1005 rfl bs
     exact At.round (br, dr, ds, a) dD (Nat.lt_succ_self _) ⟨next1 h aN, (tr_ (su_ r z) (tr_ (su_ t z) (tr_ (su_ aH z) (su_ bt z)))), cD⟩ (.cons z (.cons z (.cons z (.cons z .nil))))
   ·refine WC.condF' z ai (WC.exit (At.thenX (At.loopX ?_)))
    obtain ⟨dt, bu, cE⟩ := OwnSl.rlb 1006 rfl D
    exact At.hitB (σ := (List Bool × Own × Value)) (ap, dt, e) ⟨brk1 h aN, (tr_ (su_ r z) (su_ bu z)), cE⟩ (.cons z (.cons z .nil))
  ·rintro ⟨cF, eK, cP⟩ eD ⟨rfl, aI, bw⟩
   replace h := flowK_go cY
   try dsimp only at h aI bw
   refine (show At _ _ _ [(1, vs a1), (5, cP)] _ from ?_)
   refine At.inBlockHit ?_
   obtain ⟨du, bx, cG⟩ := OwnSl.rlb 1008 rfl bw
   exact At.join (σ := (List Bool × Own × Value)) (cF, du, cP) ⟨some1 h, (tr_ (su_ aI z) (su_ bx z)), cG⟩ (.cons z (.cons z .nil))
 ·rintro ⟨ef, dV, dW⟩ dw ⟨rfl, aJ, am⟩
  replace h := cX
  try dsimp only at h aJ am
  refine (show At _ _ _ [(1, vs a1), (5, dW)] _ from ?_)
  refine th (sq (rg (wY (ym z) z (wY (ym z) z (wY (Y.len_s ty9 z) z ?_)))))
  obtain ⟨dx, cH, h⟩ := bnd h
  obtain ⟨eE, dX, eg, aK, cI, cJ, aa, bz⟩ := OwnSl.at am cH
  obtain rfl := bz
  replace aa : CellsAt _ _ _ [vB dx] := aa
  have bA := CAt.own am aK aa
  refine wY (Y.indexAddr ty89 ty4 z aK z cI cJ) z (wY (yl ty4 z z bA.at_) z (wY (ya z) z (nl (th (rt ?_)))))
  obtain rfl := some1 h
  have cK : Stp [11, 12, 1001, 1002, 1003, 1004, 1005, 1006] (Lg.O0 A) w dV dw := (tr_ (su_ an z) (tr_ (su_ ao z) (su_ aJ z)))
  exact At.res (.inl z) z (.tmp z .nil) ⟨z, (se_ cK z z)⟩
theorem c_ref33_matches {a0 : api_Rule} {a1 : List UInt8} {w : World} {r0 : Bool} (h : ref33_matches a0 a1 = some r0) : Rets Tryd.prog 41 [ag [vi a0.Kind, vs a0.Key, vs a0.Glob, vs a0.To, vs a0.Val], vs a1] w (fun v w' => v = vB r0 ∧ Ext w w') := by
 unfold ref33_matches at h
 refine Rets.enter Tryd.func41 z z ?_
 refine (show WC _ _ _ _ [(0, ag [vi a0.Kind, vs a0.Key, vs a0.Glob, vs a0.To, vs a0.Val]), (1, vs a1)] _ from ?_)
 refine sq (rg (WL.box (O := (Lg.O0 (fun _ => False))) 11 [vi a0.Kind, vs a0.Key, vs a0.Glob, vs a0.To, vs a0.Val] z z z ?_))
 intro W H T c m
 refine wY (ya z) z (nl (th (sq (rg (wY (yf fo28_2 z) z (wY (yl ty9 z z (m.cell 2 _ z)) z ?_))))))
 obtain ⟨I, o, h⟩ := bnd h
 refine WL.call (vals := [vs a0.Glob]) kok23 z z (c_ref32_Compile o) ?_
 rintro U p ⟨j, rfl, q, J⟩
 obtain ⟨l, K, a, d⟩ := adoptE H (fun k => 1) q
 have r : Sl rep_ref32_Piece p (frs l) j I.L := Sl.adoptF J (fun k hk => ⟨hk, z⟩) a
 refine wY (Y.fieldSc ty63.u z z z ty61 z z z) z (wY (ym z) z ?_)
 obtain ⟨X, t, h⟩ := bnd h
 refine WL.call (vals := [j, vs a1]) kok65 z z (c_ref32_Match (A := fun _ => True) (Sl.all r) t) ?_
 rintro V D ⟨rfl, F⟩
 obtain ⟨M, Q, S, e⟩ := adoptE l (fun k => 1) F
 refine wY (ya z) z (nl (th (rt ?_)))
 obtain rfl := some1 h
 have G : Stp [] (Lg.O0 (fun _ => False)) w M D := (tr_ (su_ c z) (tr_ (su_ d z) (su_ e z)))
 exact At.res (.inl z) z (.tmp z .nil) ⟨z, (se_ G z z)⟩
theorem c_ref33_without {A : Nat → Prop} {a0 : List api_Pair} {v0 : Value} {a1 : List UInt8} {w : World} (hs0 : Sl rep_api_Pair w A v0 a0) {r0 : List api_Pair} (h : ref33_without a0 a1 = some r0) : Rets Tryd.prog 42 [v0, vs a1] w (fun v w' => ∃ (u0 : Value), v = u0 ∧ Ext w w' ∧ RowF rep_api_Pair 59 w w' u0 r0) := by
 unfold ref33_without at h
 refine Rets.enter Tryd.func42 z z ?_
 have ai : Sl rep_api_Pair w (imm (Lg.O0 A)) v0 a0 := (Sl.start hs0)
 refine (show WC _ _ _ _ [(0, v0), (1, vs a1)] _ from ?_)
 refine sq (rg (wY (ya z) z (nl (th (sq (rg (wY (ya z) z (nl (th ?_)))))))))
 refine sq (sq (rg (wY (ya z) z (nl (th (WC.block ?_))))))
 obtain ⟨ac, h, aj⟩ := flow1 h
 obtain ⟨ad, h⟩ := loop_some h
 refine WC.joinB 0 (σ := (List api_Pair × Own × Value)) (fun x w' => ac = .go x.1 ∧ Stp [12, 1001, 1002] (Lg.O0 A) w x.2.1 w' ∧ OwnSl 1003 rep_api_Pair 59 x.2.1 w' x.2.2 x.1) (fun x => [(5, x.2.2)]) ?_ ?_
 ·refine WC.loop (σ := (List api_Pair × Int × Own × Value)) (fun x k w' => loopN k (ref33_without_lp1 a0 a1) (x.1, x.2.1) = some ac ∧ Stp [12, 1001, 1002] (Lg.O0 A) w x.2.2.1 w' ∧ OwnSl 1002 rep_api_Pair 59 x.2.2.1 w' x.2.2.2 x.1) (fun x => [(0, v0), (1, vs a1), (5, x.2.2.2), (6, vi x.2.1)]) ([], 0, (Lg.O0 A), sn) ad (.cons z (.cons z (.cons z (.cons z .nil)))) ⟨h, (sr_ _ _ _), (OwnSl.nil 1002 rep_api_Pair 59)⟩ ?_
  rintro ⟨p, D, ae, F⟩ ad ak ⟨h, c, d⟩
  obtain ⟨aL, a7, rfl, h, G⟩ := rnd1 h
  unfold ref33_without_lp1 at h
  try dsimp only at h c d
  refine (show WC _ _ _ _ [(0, v0), (1, vs a1), (5, F), (6, vi D)] _ from ?_)
  refine sq (sq (rg (wY (ym z) z (wY (ym z) z ?_))))
  have e := ai.i c z z
  refine wY (Y.len ty33 z e) z (wY (Y.lss_i z z) z (nl (th ?_)))
  rcases cnd h with ⟨j, h⟩ | ⟨j, h⟩
  ·refine WC.condT' z j (sk (th (sq ?_)))
   obtain ⟨aM, h, al⟩ := bnd h
   refine WC.join (σ := (List api_Pair × Own × Value)) (fun x w' => x.1 = aM ∧ Stp [1002] ae ak x.2.1 w' ∧ OwnSl 1001 rep_api_Pair 59 x.2.1 w' x.2.2 x.1) (fun x => [(0, v0), (1, vs a1), (5, x.2.2), (6, vi D)]) ?_ ?_
   ·refine WC.block (sq (rg (wY (ym z) z (wY (ym z) z ?_))))
    obtain ⟨H, am, h⟩ := bnd h
    obtain ⟨a8, aU, aW, a2, an, ao, ap, l, M, aq⟩ := Sl.at2 e am
    obtain ⟨_, _, rfl, rfl, rfl⟩ := M
    replace l : CellsAt _ _ _ [vs H.Key, vs H.Val] := l
    have Q := CAt.imm l aq
    refine wY (Y.indexAddr ty33 ty59 z an z ao ap) z (wY (yf fo59_0 z) z (wY (yl ty9 z z (Q.at_.sub 0 [vs H.Key] z)) z (wY (ym z) z (wY (Y.neq_s z z) z (nl (th ?_))))))
    rcases cnd h with ⟨m, h⟩ | ⟨m, h⟩
    ·refine WC.condT' z m (rg (wY (ym z) z (wY (ym z) z (wY (ym z) z ?_))))
     obtain ⟨a, ar, h⟩ := bnd h
     obtain ⟨a9, aX, aY, a3, au, av, ax, o, S, ay⟩ := Sl.at2 e ar
     obtain ⟨_, _, rfl, rfl, rfl⟩ := S
     replace o : CellsAt _ _ _ [vs a.Key, vs a.Val] := o
     have T := CAt.imm o ay
     refine wY (Y.indexAddr ty33 ty59 z au z av ax) z (wY (yL ty59 z z T.at_ z) z (WL.buildSlice (O := ae) (R := rep_api_Pair) (vals := [(0, ag [vs a.Key, vs a.Val])]) 11 [vs a.Key, vs a.Val] (xs := [a]) (by decide) ty33 ty59 (by decide) (by decide) (fe_ z) (by kernel_rfl) z ⟨[vs a.Key, vs a.Val], [], z, ⟨[vs a.Key], [vs a.Val], z, z, z⟩, z⟩ z ?_))
     intro ba bb a4 q az
     obtain ⟨aA, U, h⟩ := bnd h
     have aC := d.st q z z z
     refine WL.append (by decide) ty33 ty59 z (by decide) z z aC az.src U z ?_
     intro aN bc a5 V aD
     refine wY (ya z) z (nl (At.inBlock ?_))
     obtain ⟨aO, W, aE⟩ := OwnSl.rlb 1001 rfl aD
     exact At.join (σ := (List api_Pair × Own × Value)) (aA, aO, aN) ⟨some1 h, (tr_ (su_ q z) (tr_ (su_ V z) (su_ W z))), aE⟩ (.cons z (.cons z (.cons z (.cons z .nil))))
    ·refine WC.condF' z m (sk (At.inBlock ?_))
     obtain ⟨aP, X, aF⟩ := OwnSl.rlb 1001 rfl d
     exact At.join (σ := (List api_Pair × Own × Value)) (p, aP, F) ⟨some1 h, (su_ X z), aF⟩ (.cons z (.cons z (.cons z (.cons z .nil))))
   ·rintro ⟨Z, bd, af⟩ a6 ⟨rfl, r, I⟩
    replace h := al
    try dsimp only at h r I
    refine (show At _ _ _ [(0, v0), (1, vs a1), (5, af), (6, vi D)] _ from ?_)
    refine th (rg (wY (ym z) z (wY (Y.add_i z z) z ?_)))
    obtain ⟨aQ, aG, h⟩ := lt1 h
    refine WL.yE (ya z) (congrArg vi aG.symm) z (nl ?_)
    obtain ⟨aR, aa, aH⟩ := OwnSl.rlb 1002 rfl I
    exact At.round (Z, aQ, aR, af) aL (Nat.lt_succ_self _) ⟨next1 h G, (tr_ (su_ c z) (tr_ (su_ r z) (su_ aa z))), aH⟩ (.cons z (.cons z (.cons z (.cons z .nil))))
  ·refine WC.condF' z j (WC.exit (At.thenX (At.loopX ?_)))
   obtain ⟨aS, ab, aI⟩ := OwnSl.rlb 1003 rfl d
   exact At.hitB (σ := (List api_Pair × Own × Value)) (p, aS, F) ⟨brk1 h G, (tr_ (su_ c z) (su_ ab z)), aI⟩ (.cons z .nil)
 ·rintro ⟨aZ, aT, ah⟩ aJ ⟨rfl, t, J⟩
  replace h := flowK_go aj
  try dsimp only at h t J
  refine (show At _ _ _ [(5, ah)] _ from ?_)
  refine At.inBlockHit (th (sq (rg (wY (ym z) z (wY (ya z) z (nl (th (rt ?_))))))))
  obtain rfl := some1 h
  have K : Stp [12, 1001, 1002] (Lg.O0 A) w aT aJ := (su_ t z)
  exact At.res (.inl z) z (.tmp z .nil) ⟨ah, z, (se_ K z z), (OwnSl.outF J K low0 z)⟩
theorem c_ref33_Go {A : Nat → Prop} {a0 : List api_Rule} {v0 : Value} {v1_1 : Value} {v1_13 : Value} {v1_15 : Value} {a1 : api_Point} {w : World} (hs0 : Sl rep_api_Rule w A v0 a0) (hs1_1 : Sl rep_api_Pair w A v1_1 a1.Attrs) (hs1_13 : Sl Rep.u w A v1_13 a1.Hist.Pos.Counts) (hs1_15 : Sl Rep.u w A v1_15 a1.Hist.Neg.Counts) {r0 : ref33_Through} (h : ref33_Go a0 a1 = some r0) : Rets Tryd.prog 19 [v0, ag (cp a1 v1_1 v1_13 v1_15)] w (fun v w' => ∃ (cy : Value) (b0 : Value) (b1 : Value), v = ag [vs r0.P.Name, cy, vi r0.P.Kind, vi r0.P.Temp, vB r0.P.Mono, vi r0.P.Start, vi r0.P.Time, vi r0.P.Int_, vu r0.P.Re, vu r0.P.Im, vi r0.P.Hist.Scale, vu r0.P.Hist.Zero, vi r0.P.Hist.Pos.Offset, b0, vi r0.P.Hist.Neg.Offset, b1, vi r0.P.Flags, vi r0.Stop] ∧ Ext w w' ∧ Sl rep_api_Pair w' (fun k => A k ∨ w.heap.size ≤ k) cy r0.P.Attrs ∧ Sl Rep.u w' (fun k => A k ∨ w.heap.size ≤ k) b0 r0.P.Hist.Pos.Counts ∧ Sl Rep.u w' (fun k => A k ∨ w.heap.size ≤ k) b1 r0.P.Hist.Neg.Counts) := by
 unfold ref33_Go at h
 refine Rets.enter Tryd.func19 z z ?_
 have h4 : Sl rep_api_Rule w (imm (Lg.O0 A)) v0 a0 := (Sl.start hs0)
 have cz : Sl rep_api_Pair w (imm (Lg.O0 A)) v1_1 a1.Attrs := (Sl.start hs1_1)
 have cA : Sl Rep.u w (imm (Lg.O0 A)) v1_13 a1.Hist.Pos.Counts := (Sl.start hs1_13)
 have cC : Sl Rep.u w (imm (Lg.O0 A)) v1_15 a1.Hist.Neg.Counts := (Sl.start hs1_15)
 refine (show WC _ _ _ _ [(0, v0), (1, ag (cp a1 v1_1 v1_13 v1_15))] _ from ?_)
 refine sq (rg ?_)
 have h5 := h
 obtain ⟨hZ, h0, h1, rfl⟩ := cz.shape
 have h := h5
 have h6 := h
 obtain ⟨G, H, I, rfl⟩ := cA.shape
 have h := h6
 have h7 := h
 obtain ⟨J, K, M, rfl⟩ := cC.shape
 have h := h7
 refine WL.box (O := (Lg.O0 A)) 11 (cp a1 (vl hZ h0 h1) (vl G H I) (vl J K M)) z z z ?_
 intro l jC kr Z h8
 refine WL.alloc (O := jC) 12 [vs [], sn, vi 0, vi 0, vB false, vi 0, vi 0, vi 0, vu 0, vu 0, vi 0, vu 0, vi 0, sn, vi 0, sn, vi 0, vi 0] ty52 z z ?_
 intro q cD cE T bE
 refine nl (th (sq (sq (rg (wY (ya z) z (nl (th (WC.block ?_))))))))
 obtain ⟨h2, h, bF⟩ := flow1 h
 obtain ⟨h3, h⟩ := loop_some h
 refine WC.joinB 0 (σ := (List api_Pair × Own × Value)) (fun x w' => h2 = .go x.1 ∧ Stp [11, 13, 14, 15, 16, 17, 19, 20, 21, 22, 23, 25, 27, 1001, 1003, 1004, 1005, 1007, 1008, 1009, 1010] cD cE x.2.1 w' ∧ Sl rep_api_Pair w' (imm x.2.1) x.2.2 x.1 ∧ Blk 11 x.2.1 w' l 41 [vs a1.Name, x.2.2, vi a1.Kind, vi a1.Temp, vB a1.Mono, vi a1.Start, vi a1.Time, vi a1.Int_, vu a1.Re, vu a1.Im, vi a1.Hist.Scale, vu a1.Hist.Zero, vi a1.Hist.Pos.Offset, (vl G H I), vi a1.Hist.Neg.Offset, (vl J K M), vi a1.Flags]) (fun x => [(3, pt l 0), (4, pt q 0)]) ?_ ?_
 ·have ia := (cz.i Z z z).i T z z
  have ib := h8.st T z
  refine WC.loop (σ := (List api_Pair × Int × Own × Value)) (fun x k w' => loopN k (ref33_Go_lp1 a0 a1) (x.1, x.2.1) = some h2 ∧ Stp [11, 13, 14, 15, 16, 17, 19, 20, 21, 22, 23, 25, 27, 1001, 1003, 1004, 1005, 1007, 1008, 1009, 1010] cD cE x.2.2.1 w' ∧ Sl rep_api_Pair w' (imm x.2.2.1) x.2.2.2 x.1 ∧ Blk 11 x.2.2.1 w' l 41 [vs a1.Name, x.2.2.2, vi a1.Kind, vi a1.Temp, vB a1.Mono, vi a1.Start, vi a1.Time, vi a1.Int_, vu a1.Re, vu a1.Im, vi a1.Hist.Scale, vu a1.Hist.Zero, vi a1.Hist.Pos.Offset, (vl G H I), vi a1.Hist.Neg.Offset, (vl J K M), vi a1.Flags]) (fun x => [(0, v0), (3, pt l 0), (4, pt q 0), (5, vi x.2.1)]) (a1.Attrs, 0, cD, (vl hZ h0 h1)) h3 (.cons z (.cons z (.cons z (.cons z .nil)))) ⟨h, (sr_ _ _ _), ia, ib⟩ ?_
  rintro ⟨an, j, cF, aa⟩ h3 ic ⟨h, U, r, bG⟩
  obtain ⟨jD, lg, rfl, h, aU⟩ := rnd1 h
  unfold ref33_Go_lp1 at h
  try dsimp only at h U r bG
  refine (show WC _ _ _ _ [(0, v0), (3, pt l 0), (4, pt q 0), (5, vi j)] _ from ?_)
  refine sq (sq (rg (wY (ym z) z (wY (ym z) z ?_))))
  have cG := ((h4.i Z z z).i T z z).i U z z
  refine wY (Y.len ty22 z cG) z (wY (Y.lss_i z z) z (nl (th ?_)))
  rcases cnd h with ⟨bH, h⟩ | ⟨bH, h⟩
  ·refine WC.condT' z bH (sk (th (sq ?_)))
   obtain ⟨jE, h, bI⟩ := flow1 h
   refine WC.join (σ := (List api_Pair × Own × Value)) (fun x w' => jE = .go x.1 ∧ Stp [11, 13, 14, 15, 16, 17, 19, 20, 21, 22, 23, 25, 27, 1001, 1003, 1004, 1005, 1007, 1008, 1009, 1010] cF ic x.2.1 w' ∧ Sl rep_api_Pair w' (imm x.2.1) x.2.2 x.1 ∧ Blk 11 x.2.1 w' l 41 [vs a1.Name, x.2.2, vi a1.Kind, vi a1.Temp, vB a1.Mono, vi a1.Start, vi a1.Time, vi a1.Int_, vu a1.Re, vu a1.Im, vi a1.Hist.Scale, vu a1.Hist.Zero, vi a1.Hist.Pos.Offset, (vl G H I), vi a1.Hist.Neg.Offset, (vl J K M), vi a1.Flags]) (fun x => [(0, v0), (3, pt l 0), (4, pt q 0), (5, vi j)]) ?_ ?_
   ·refine WC.block (sq (rg (wY (ym z) z (wY (ym z) z ?_))))
    obtain ⟨a, ih, h⟩ := bnd h
    obtain ⟨lh, jP, jQ, ks, ii, ij, ik, bJ, ds, il⟩ := Sl.at2 cG ih
    obtain ⟨_, _, rfl, rfl, ⟨_, _, rfl, rfl, ⟨_, _, rfl, rfl, ⟨_, _, rfl, rfl, rfl⟩⟩⟩⟩ := ds
    replace bJ : CellsAt _ _ _ [vi a.Kind, vs a.Key, vs a.Glob, vs a.To, vs a.Val] := bJ
    have dt := CAt.imm bJ il
    refine wY (Y.indexAddr ty22 ty28 z ii z ij ik) z (wY (yL ty28 z z dt.at_ z) z (WL.alloc (O := cF) 13 [vi 0, vs [], vs [], vs [], vs []] ty28 z z ?_))
    intro aj cH kt m im
    refine WL.store (v := ag [vi a.Kind, vs a.Key, vs a.Glob, vs a.To, vs a.Val]) (cells' := [vi a.Kind, vs a.Key, vs a.Glob, vs a.To, vs a.Val]) ty28 z z im z (le_ z) z z ?_
    intro io o bK
    refine nl (th (sq (rg (wY (yf fo41_0 z) z ?_))))
    have t := (bG.st m z).st o z
    refine wY (yl ty9 z z (t.cell 0 _ z)) z (wY (ya z) z (nl (th (sq (rg (wY (ya z) z (nl (th (sq ?_)))))))))
    obtain ⟨iq, h, du⟩ := bnd h
    refine WC.join (σ := (List UInt8 × Bool × Own)) (fun x w' => (x.1, x.2.1) = iq ∧ Stp [] cH io x.2.2 w') (fun x => [(0, v0), (3, pt l 0), (4, pt q 0), (5, vi j), (6, pt aj 0), (7, vs x.1), (8, vB x.2.1)]) ?_ ?_
    ·refine sq (rg (wY (yf fo28_1 z) z (wY (yl ty9 z z (bK.cell 1 _ z)) z (wY (Y.neq_s (b := []) z z) z (nl (th ?_))))))
     rcases cnd h with ⟨aW, h⟩ | ⟨aW, h⟩
     ·refine WC.condT' z aW (rg (wY (yf fo41_1 z) z (wY (yl ty33 z z (t.cell 1 _ z)) z (wY (yf fo28_1 z) z (wY (yl ty9 z z (bK.cell 1 _ z)) z ?_)))))
      have dx := (r.i m z z).i o z z
      obtain ⟨⟨ir, it⟩, dy, h⟩ := bnd h
      refine WL.call (vals := [aa, vs a.Key]) kok40 z z (c_ref33_get (A := fun _ => True) (Sl.all dx) dy) ?_
      rintro jR jS ⟨rfl, dz⟩
      obtain ⟨iu, jp, jq, cI⟩ := adoptE cH (fun k => 1) dz
      refine wY (ym z) z (wY (yx z z) z (wY (yx z z) z (wY (ya z) z (wY (ya z) z (nl ?_)))))
      exact At.join (σ := (List UInt8 × Bool × Own)) (ir, it, iu) ⟨some1 h, (su_ cI z)⟩ (.cons z (.cons z (.cons z (.cons z (.cons z (.cons z (.cons z .nil)))))))
     ·refine WC.condF' z aW (sk ?_)
      exact At.join (σ := (List UInt8 × Bool × Own)) (a1.Name, true, cH) ⟨some1 h, (sr_ _ _ _)⟩ (.cons z (.cons z (.cons z (.cons z (.cons z (.cons z (.cons z .nil)))))))
    ·rintro ⟨c, ab, jF⟩ ku ⟨rfl, d⟩
     replace h := du
     try dsimp only at h d
     refine (show At _ _ _ [(0, v0), (3, pt l 0), (4, pt q 0), (5, vi j), (6, pt aj 0), (7, vs c), (8, vB ab)] _ from ?_)
     refine th (sq (rg ?_))
     have b2 := bK.st d z
     refine wY (yL ty28 z z (b2.cells 0 [vi a.Kind, vs a.Key, vs a.Glob, vs a.To, vs a.Val] z) z) z (wY (ym z) z ?_)
     obtain ⟨aX, dA, h⟩ := bnd h
     refine WL.call (vals := [ag [vi a.Kind, vs a.Key, vs a.Glob, vs a.To, vs a.Val], vs c]) kok41 z z (c_ref33_matches (a0 := a) dA) ?_
     rintro jT ac ⟨rfl, dB⟩
     obtain ⟨p, jr, js, e⟩ := adoptE jF (fun k => 1) dB
     refine wY (ya z) z (nl (th (sq (rg (wY (yf fo28_0 z) z ?_)))))
     have V := b2.st e z
     refine wY (yl ty3 z z (V.cell 0 _ z)) z (nl (th ?_))
     obtain ⟨iv, h, aY⟩ := flow1 h
     refine WC.join (σ := (List api_Pair × Own × Value)) (fun x w' => iv = .go x.1 ∧ Stp [11, 14, 15, 16, 17, 19, 20, 21, 22, 23, 25, 27, 1001, 1003, 1004, 1005, 1007, 1008, 1009, 1010] p ac x.2.1 w' ∧ Sl rep_api_Pair w' (imm x.2.1) x.2.2 x.1 ∧ Blk 11 x.2.1 w' l 41 [vs a1.Name, x.2.2, vi a1.Kind, vi a1.Temp, vB a1.Mono, vi a1.Start, vi a1.Time, vi a1.Int_, vu a1.Re, vu a1.Im, vi a1.Hist.Scale, vu a1.Hist.Zero, vi a1.Hist.Pos.Offset, (vl G H I), vi a1.Hist.Neg.Offset, (vl J K M), vi a1.Flags]) (fun x => [(0, v0), (3, pt l 0), (4, pt q 0), (5, vi j)]) ?_ ?_
     ·refine WC.block (sq (rg (wY (Y.eql_i z z) z ?_)))
      obtain ⟨kv, dC, h⟩ := lt1 h
      refine WL.yE (ya z) (congrArg vB dC.symm) z (nl (th ?_))
      rcases cnd h with ⟨aZ, h⟩ | ⟨aZ, h⟩
      ·refine WC.condT' z aZ (sq (rg (wY (ym z) z (wY (Y.not z) z (nl (th ?_))))))
       rcases cnd h with ⟨a2, h⟩ | ⟨a2, h⟩
       ·refine WC.condT' z a2 (sq (rg (wY (ym z) z (wY (yb (vals := [(1, vi j)]) (cells := [vs [], sn, vi 0, vi 0, vB false, vi 0, vi 0, vi 0, vu 0, vu 0, vi 0, vu 0, vi 0, sn, vi 0, sn, vi 0, vi j]) (fe_ z) (by kernel_rfl)) z ?_))))
        have dH := ((((bE.st U z).st m z).st o z).st d z).st e z
        refine WL.store (v := Value.agg (List.toArray [vs [], sn, vi 0, vi 0, vB false, vi 0, vi 0, vi 0, vu 0, vu 0, vi 0, vu 0, vi 0, sn, vi 0, sn, vi 0, vi j])) (cells' := [vs [], sn, vi 0, vi 0, vB false, vi 0, vi 0, vi 0, vu 0, vu 0, vi 0, vu 0, vi 0, sn, vi 0, sn, vi 0, vi j]) ty52 z z dH z (le_ z) z z ?_
        intro dI cJ dJ
        refine nl (th (rt (At.inBlockR ?_)))
        have h := outs1 h aY
        refine At.joinR (At.inBlockR ?_)
        have h := outs1 h bI
        refine At.joinR (At.thenR (At.loopR ?_))
        have h := outr1 h aU bF
        refine At.joinBR (At.inBlockR (At.thenR ?_))
        obtain rfl := some1 h
        have dK : Stp [11, 12, 13, 14, 15, 16, 17, 19, 20, 21, 22, 23, 25, 27, 1001, 1003, 1004, 1005, 1007, 1008, 1009, 1010] (Lg.O0 A) w p dI := (tr_ (su_ Z z) (tr_ (su_ T z) (tr_ (su_ U z) (tr_ (su_ m z) (tr_ (su_ o z) (tr_ (su_ d z) (tr_ (su_ e z) (su_ cJ z))))))))
        exact At.res (.inl z) z (.cell z (dJ.runAg 0 [vs [], sn, vi 0, vi 0, vB false, vi 0, vi 0, vi 0, vu 0, vu 0, vi 0, vu 0, vi 0, sn, vi 0, sn, vi 0, vi j] ty52 z z z) .nil) ⟨sn, sn, sn, z, (se_ dK z z), (Or.inl ⟨z, z⟩), (Or.inl ⟨z, z⟩), (Or.inl ⟨z, z⟩)⟩
       ·refine WC.condF' z a2 (sk (At.inBlock ?_))
        have dO := (((r.i m z z).i o z z).i d z z).i e z z
        have dQ := (t.st d z).st e z
        exact At.join (σ := (List api_Pair × Own × Value)) (an, p, aa) ⟨go2 h, (sr_ _ _ _), dO, dQ⟩ (.cons z (.cons z (.cons z (.cons z .nil))))
      ·refine WC.condF' z aZ (sq (rg (wY (Y.eql_i z z) z ?_)))
       obtain ⟨kw, dR, h⟩ := lt1 h
       refine WL.yE (ya z) (congrArg vB dR.symm) z (nl (th ?_))
       rcases cnd h with ⟨a3, h⟩ | ⟨a3, h⟩
       ·refine WC.condT' z a3 (sq (rg (wY (ym z) z (nl (th ?_)))))
        rcases cnd h with ⟨a4, h⟩ | ⟨a4, h⟩
        ·refine WC.condT' z a4 (sq (rg (wY (ym z) z (wY (yb (vals := [(1, vi j)]) (cells := [vs [], sn, vi 0, vi 0, vB false, vi 0, vi 0, vi 0, vu 0, vu 0, vi 0, vu 0, vi 0, sn, vi 0, sn, vi 0, vi j]) (fe_ z) (by kernel_rfl)) z ?_))))
         have dW := ((((bE.st U z).st m z).st o z).st d z).st e z
         refine WL.store (v := Value.agg (List.toArray [vs [], sn, vi 0, vi 0, vB false, vi 0, vi 0, vi 0, vu 0, vu 0, vi 0, vu 0, vi 0, sn, vi 0, sn, vi 0, vi j])) (cells' := [vs [], sn, vi 0, vi 0, vB false, vi 0, vi 0, vi 0, vu 0, vu 0, vi 0, vu 0, vi 0, sn, vi 0, sn, vi 0, vi j]) ty52 z z dW z (le_ z) z z ?_
         intro dX cK dY
         refine nl (th (rt (At.inBlockR ?_)))
         have h := outs1 h aY
         refine At.joinR (At.inBlockR ?_)
         have h := outs1 h bI
         refine At.joinR (At.thenR (At.loopR ?_))
         have h := outr1 h aU bF
         refine At.joinBR (At.inBlockR (At.thenR ?_))
         obtain rfl := some1 h
         have dZ : Stp [11, 12, 13, 14, 15, 16, 17, 19, 20, 21, 22, 23, 25, 27, 1001, 1003, 1004, 1005, 1007, 1008, 1009, 1010] (Lg.O0 A) w p dX := (tr_ (su_ Z z) (tr_ (su_ T z) (tr_ (su_ U z) (tr_ (su_ m z) (tr_ (su_ o z) (tr_ (su_ d z) (tr_ (su_ e z) (su_ cK z))))))))
         exact At.res (.inl z) z (.cell z (dY.runAg 0 [vs [], sn, vi 0, vi 0, vB false, vi 0, vi 0, vi 0, vu 0, vu 0, vi 0, vu 0, vi 0, sn, vi 0, sn, vi 0, vi j] ty52 z z z) .nil) ⟨sn, sn, sn, z, (se_ dZ z z), (Or.inl ⟨z, z⟩), (Or.inl ⟨z, z⟩), (Or.inl ⟨z, z⟩)⟩
        ·refine WC.condF' z a4 (sk (At.inBlock ?_))
         have d3 := (((r.i m z z).i o z z).i d z z).i e z z
         have d5 := (t.st d z).st e z
         exact At.join (σ := (List api_Pair × Own × Value)) (an, p, aa) ⟨go2 h, (sr_ _ _ _), d3, d5⟩ (.cons z (.cons z (.cons z (.cons z .nil))))
       ·refine WC.condF' z a3 (sq (rg (wY (Y.eql_i z z) z ?_)))
        obtain ⟨kz, d6, h⟩ := lt1 h
        refine WL.yE (ya z) (congrArg vB d6.symm) z (nl (th ?_))
        rcases cnd h with ⟨a5, h⟩ | ⟨a5, h⟩
        ·refine WC.condT' z a5 (sq (rg (wY (ym z) z (nl (th ?_)))))
         rcases cnd h with ⟨a6, h⟩ | ⟨a6, h⟩
         ·refine WC.condT' z a6 (WC.drawH [14, 15, 16, 17, 1001] [0, 1, 2, 3, 4, 5, 6, 7, 8, 9, 10, 11, 12] p 14 fmix z (by kernel_rfl) ?_)
          intro d7 D
          refine WD.y 0 z (by kernel_rfl) (fun _ _ _ => yf fo41_1 z) z (WD.y 1 z (by kernel_rfl) (fun jU kA cL => have d8 := t.st d z; have d9 := d8.st e z; have ea := d9.st D z; have eb := ea.st cL z; yl ty33 z z (eb.cell 1 _ z)) z (WD.y 2 z (by kernel_rfl) (fun _ _ _ => yf fo28_3 z) z (WD.y 3 z (by kernel_rfl) (fun jV kB cM => have ec := V.st D z; have ed := ec.st cM z; yl ty9 z z (ed.cell 3 _ z)) z (WD.y 5 z (by kernel_rfl) (fun _ _ _ => yf fo28_3 z) z (WD.y 6 z (by kernel_rfl) (fun jW kC cN => have ee := V.st D z; have ef := ee.st cN z; yl ty9 z z (ef.cell 3 _ z)) z (WD.y 7 z (by kernel_rfl) (fun _ _ _ => yf fo28_4 z) z (WD.y 8 z (by kernel_rfl) (fun jX kD cO => have eg := V.st D z; have eh := eg.st cO z; yl ty9 z z (eh.cell 4 _ z)) z (WD.y 9 z (by kernel_rfl) (fun _ _ _ => yb (vals := [(0, vs a.To), (1, vs a.Val)]) (cells := [vs a.To, vs a.Val]) (fe_ z) (by kernel_rfl)) z ?_))))))))
          obtain ⟨iw, h, ei⟩ := bnd h
          refine WD.join (σ := (List api_Pair × List api_Pair × Own × Value × Value)) (f' := 3) [10, 9, 8, 7, 6, 5, 4, 3, 2, 1, 0] (fun x O' w' => (x.1, x.2.1) = iw ∧ Stp [14, 15, 16, 17] p d7 x.2.2.1 w' ∧ OwnSl 1001 rep_api_Pair 59 x.2.2.1 w' x.2.2.2.1 x.1 ∧ OwnSl 1002 rep_api_Pair 59 x.2.2.1 w' x.2.2.2.2 x.2.1 ∧ x.2.2.1 = O') (fun x => [(0, v0), (3, pt l 0), (4, pt q 0), (5, vi j), (58, x.2.2.2.1), (64, x.2.2.2.2)]) (fun b3 => ?_) ?_
          ·refine WD.heavy2 4 10 z z (by kernel_rfl) ?_ ?_
           ·have eo := ((((r.i m z z).i o z z).i d z z).i e z z).i D z z
            obtain ⟨cP, ep, h⟩ := bnd h
            refine WL.call (vals := [aa, vs a.To]) kok42 z z (c_ref33_without (A := fun _ => True) (Sl.all eo) ep) ?_
            rintro a7 er ⟨_, rfl, es, iy⟩
            obtain ⟨cQ, jt, cr, bp⟩ := adoptE p (fun k => if ob a7 = some k then 14 else 1) es
            have et : OwnSl 14 rep_api_Pair 59 cQ er a7 cP := RowF.adopt 14 flat_api_Pair iy cr (fun k hk => if_pos hk)
            refine nl (At.dq (su_ bp z) (WD.heavy 10 z (by kernel_rfl) (WL.buildSlice (O := cQ) (R := rep_api_Pair) (vals := [(0, ag [vs a.To, vs a.Val])]) 15 [vs a.To, vs a.Val] (xs := [(api_Pair.mk a.To a.Val)]) (by decide) ty33 ty59 (by decide) (by decide) (fe_ z) (by kernel_rfl) z ⟨[vs a.To, vs a.Val], [], z, ⟨[vs a.To], [vs a.Val], z, z, z⟩, z⟩ z ?_)))
            intro iz kE jY ao eu
            refine nl (At.dq (su_ ao z) ?_)
            have ew := et.st ao z z z
            obtain ⟨kF, ap, ex⟩ := OwnSl.rlb 1001 rfl ew
            have ey := eu.st ap z z z
            obtain ⟨iA, aq, ez⟩ := OwnSl.rlb 1002 rfl ey
            have eA := ex.st aq z z z
            refine WD.own (tr_ (su_ ap z) (su_ aq z)) (WD.perm _ [10, 9, 8, 7, 6, 5, 4, 3, 2, 1, 0] (by kernel_rfl) ?_)
            exact b3 (cP, [(api_Pair.mk a.To a.Val)], iA, a7, iz) _ _ _ ⟨some1 h, (tr_ (su_ bp z) (tr_ (su_ ao z) (tr_ (su_ ap z) (su_ aq z)))), eA, ez, z⟩ (.cons z (.cons z (.cons z (.cons z (.cons z (.cons z .nil))))))
           ·try simp only [Option.bind_assoc] at h
            try simp only [Option.bind_some] at h
            refine WL.buildSlice (O := p) (R := rep_api_Pair) (vals := [(0, ag [vs a.To, vs a.Val])]) 16 [vs a.To, vs a.Val] (xs := [(api_Pair.mk a.To a.Val)]) (by decide) ty33 ty59 (by decide) (by decide) (fe_ z) (by kernel_rfl) z ⟨[vs a.To, vs a.Val], [], z, ⟨[vs a.To], [vs a.Val], z, z, z⟩, z⟩ z ?_
            intro iB iC jZ ar eB
            refine nl (At.dq (su_ ar z) (WD.heavy 4 z (by kernel_rfl) ?_))
            have eH := (((((r.i m z z).i o z z).i d z z).i e z z).i D z z).i ar z z
            obtain ⟨cR, eI, h⟩ := bnd h
            refine WL.call (vals := [aa, vs a.To]) kok42 z z (c_ref33_without (A := fun _ => True) (Sl.all eH) eI) ?_
            rintro a8 eJ ⟨_, rfl, eK, iD⟩
            obtain ⟨iE, ju, cs, au⟩ := adoptE iC (fun k => if ob a8 = some k then 17 else 1) eK
            have eL : OwnSl 17 rep_api_Pair 59 iE eJ a8 cR := RowF.adopt 17 flat_api_Pair iD cs (fun k hk => if_pos hk)
            refine nl (At.dq (su_ au z) ?_)
            obtain ⟨kG, av, eM⟩ := OwnSl.rlb 1001 rfl eL
            have eO := (eB.st au z z z).st av z z z
            obtain ⟨iF, ax, eP⟩ := OwnSl.rlb 1002 rfl eO
            have eQ := eM.st ax z z z
            refine WD.own (tr_ (su_ av z) (su_ ax z)) (WD.perm _ [10, 9, 8, 7, 6, 5, 4, 3, 2, 1, 0] (by kernel_rfl) ?_)
            exact b3 (cR, [(api_Pair.mk a.To a.Val)], iF, a8, iB) _ _ _ ⟨some1 h, (tr_ (su_ ar z) (tr_ (su_ au z) (tr_ (su_ av z) (su_ ax z)))), eQ, eP, z⟩ (.cons z (.cons z (.cons z (.cons z (.cons z (.cons z .nil))))))
          ·rintro ⟨kH, kI, kJ, iG, iH⟩ _ j0 ⟨rfl, ay, b4, b5, rfl⟩
           replace h := ei
           try dsimp only at h ay b4 b5
           refine (show WD _ _ _ _ _ _ _ _ [(0, v0), (3, pt l 0), (4, pt q 0), (5, vi j), (58, iG), (64, iH)] _ _ from ?_)
           refine WD.heavy 11 z (by kernel_rfl) ?_
           obtain ⟨eR, cS, h⟩ := bnd h
           refine WL.append (by decide) ty33 ty59 z (by decide) z z b4 b5.src cS z ?_
           intro kK kL j1 az b6
           refine nl (At.dq (su_ az z) (WD.y 12 z (by kernel_rfl) (fun _ _ _ => yf fo41_1 z) z (WD.phase [11] [0, 1, 2, 3, 4, 5, 6, 7, 8, 9, 10, 11, 12, 13] (by kernel_rfl) (by kernel_rfl) (WD.heavy 13 z (by kernel_rfl) ?_))))
           have eS := h
           obtain ⟨bL, bM, bO, rfl⟩ := b6.shape
           have h := eS
           have eX := ((((t.st d z).st e z).st D z).st ay z).st az z
           refine WL.store (v := (vl bL bM bO)) (cells' := (cp a1 (vl bL bM bO) (vl G H I) (vl J K M))) ty33 z z eX z (le_ z) z z ?_
           intro j2 aA eY
           refine nl (At.dq (su_ aA z) (WD.done_ (by kernel_rfl) (At.inBlock ?_)))
           have eZ := b6.st aA z z z
           obtain ⟨iI, bq, e0⟩ := OwnSl.giveF rfl flat_api_Pair eZ
           have e1 := eY.st bq z
           exact At.join (σ := (List api_Pair × Own × Value)) (eR, iI, (vl bL bM bO)) ⟨go2 h, (tr_ (su_ D z) (tr_ (su_ ay z) (tr_ (su_ az z) (tr_ (su_ aA z) (su_ bq z))))), (Sl.mono e0 frs_imm), e1⟩ (.cons z (.cons z (.cons z (.cons z .nil))))
         ·refine WC.condF' z a6 (sk (At.inBlock ?_))
          have e7 := (((r.i m z z).i o z z).i d z z).i e z z
          have e9 := (t.st d z).st e z
          exact At.join (σ := (List api_Pair × Own × Value)) (an, p, aa) ⟨go2 h, (sr_ _ _ _), e7, e9⟩ (.cons z (.cons z (.cons z (.cons z .nil))))
        ·refine WC.condF' z a5 (sq (rg (wY (Y.eql_i z z) z ?_)))
         obtain ⟨kM, fa, h⟩ := lt1 h
         refine WL.yE (ya z) (congrArg vB fa.symm) z (nl (th ?_))
         rcases cnd h with ⟨a9, h⟩ | ⟨a9, h⟩
         ·refine WC.condT' z a9 (sq (rg (wY (ym z) z (wY (ym z) z ?_))))
          refine WL.cut 2 (σ := Unit) (fun _ w' => ac = w') (fun _ => [(0, v0), (3, pt l 0), (4, pt q 0), (5, vi j), (6, pt aj 0), (7, vs c), (72, vB (aX && ab))]) ?_ ?_
          ·refine WL.part 70 z (fun ba => ?_) (fun ba => ?_)
           ·refine ug z z (wY (ym z) z (wY (Y.pick (b := true) z z) z (WL.ren (v' := vB (aX && ab)) 72 z (congrArg vB (andT ba)) ?_)))
            exact nl (At.join () z (.cons z (.cons z (.cons z (.cons z (.cons z (.cons z (.cons z .nil))))))))
           ·refine WL.gS z z z z (wY (Y.pick (b := false) z z) z (WL.ren (v' := vB (aX && ab)) 72 z (congrArg vB (andF ba)) ?_))
            exact nl (At.join () z (.cons z (.cons z (.cons z (.cons z (.cons z (.cons z (.cons z .nil))))))))
          ·rintro _ _ rfl
           refine (show WL _ _ _ _ _ [(0, v0), (3, pt l 0), (4, pt q 0), (5, vi j), (6, pt aj 0), (7, vs c), (72, vB (aX && ab))] _ from ?_)
           refine nl (th ?_)
           rcases cnd h with ⟨bb, h⟩ | ⟨bb, h⟩
           ·refine WC.condT' z bb (WC.drawH [19, 20, 21, 22, 23, 25, 1003, 1004, 1005] [0, 1, 2, 3, 4, 5, 6, 7, 8, 9, 10, 11, 12, 13, 14] p 16 fmix z (by kernel_rfl) ?_)
            intro fc F
            refine WD.y 0 z (by kernel_rfl) (fun _ _ _ => yf fo41_1 z) z (WD.y 1 z (by kernel_rfl) (fun j3 kN cT => have fd := t.st d z; have fe := fd.st e z; have ff := fe.st F z; have fg := ff.st cT z; yl ty33 z z (fg.cell 1 _ z)) z (WD.y 2 z (by kernel_rfl) (fun _ _ _ => yf fo28_1 z) z (WD.y 3 z (by kernel_rfl) (fun j4 kO cU => have fh := V.st F z; have fi := fh.st cU z; yl ty9 z z (fi.cell 1 _ z)) z (WD.y 5 z (by kernel_rfl) (fun _ _ _ => yf fo28_3 z) z (WD.y 6 z (by kernel_rfl) (fun j5 kP cV => have fj := V.st F z; have fk := fj.st cV z; yl ty9 z z (fk.cell 3 _ z)) z (WD.y 8 z (by kernel_rfl) (fun _ _ _ => yf fo28_3 z) z (WD.y 9 z (by kernel_rfl) (fun j6 kQ cW => have fl := V.st F z; have fm := fl.st cW z; yl ty9 z z (fm.cell 3 _ z)) z (WD.y 10 z (by kernel_rfl) (fun _ _ _ => ym z) z (WD.y 11 z (by kernel_rfl) (fun _ _ _ => yb (vals := [(0, vs a.To), (1, vs c)]) (cells := [vs a.To, vs c]) (fe_ z) (by kernel_rfl)) z ?_)))))))))
            obtain ⟨iJ, h, fn⟩ := bnd h
            refine WD.join (σ := (List api_Pair × List api_Pair × Own × Value × Value)) (f' := 3) [12, 11, 10, 9, 8, 7, 6, 5, 4, 3, 2, 1, 0] (fun x O' w' => (x.1, x.2.1) = iJ ∧ Stp [19, 20, 21, 22, 23, 25, 1003, 1004] p fc x.2.2.1 w' ∧ OwnSl 1005 rep_api_Pair 59 x.2.2.1 w' x.2.2.2.1 x.1 ∧ OwnSl 1006 rep_api_Pair 59 x.2.2.1 w' x.2.2.2.2 x.2.1 ∧ x.2.2.1 = O') (fun x => [(0, v0), (3, pt l 0), (4, pt q 0), (5, vi j), (80, x.2.2.2.1), (85, x.2.2.2.2)]) (fun b7 => ?_) ?_
            ·refine WD.heavy2 4 12 z z (by kernel_rfl) ?_ ?_
             ·have ft := ((((r.i m z z).i o z z).i d z z).i e z z).i F z z
              obtain ⟨iK, fu, h⟩ := bnd h
              refine WL.call (vals := [aa, vs a.Key]) kok42 z z (c_ref33_without (A := fun _ => True) (Sl.all ft) fu) ?_
              rintro ak b8 ⟨_, rfl, fv, iL⟩
              obtain ⟨bc, jv, ct, br⟩ := adoptE p (fun k => if ob ak = some k then 18 else 1) fv
              have b9 : OwnSl 18 rep_api_Pair 59 bc b8 ak iK := RowF.adopt 18 flat_api_Pair iL ct (fun k hk => if_pos hk)
              refine nl (At.dq (su_ br z) ?_)
              obtain ⟨iM, h, fw⟩ := bnd h
              refine WD.join (σ := (List api_Pair × List api_Pair × Own × Value × Value)) (f' := 3) [12, 11, 10, 9, 8, 7, 6, 5, 4, 3, 2, 1, 0] (fun x O' w' => (x.1, x.2.1) = iM ∧ Stp [19, 20, 21, 22] bc b8 x.2.2.1 w' ∧ OwnSl 1003 rep_api_Pair 59 x.2.2.1 w' x.2.2.2.1 x.1 ∧ OwnSl 1004 rep_api_Pair 59 x.2.2.1 w' x.2.2.2.2 x.2.1 ∧ x.2.2.1 = O') (fun x => [(0, v0), (3, pt l 0), (4, pt q 0), (5, vi j), (80, x.2.2.2.1), (85, x.2.2.2.2)]) (fun ca => ?_) ?_
              ·refine WD.heavy2 7 12 z z (by kernel_rfl) ?_ ?_
               ·obtain ⟨cX, fx, h⟩ := bnd h
                refine WL.call (vals := [ak, vs a.To]) kok42 z z (c_ref33_without (A := fun _ => True) (b9.src.sl) fx) ?_
                rintro bd fy ⟨_, rfl, fz, iN⟩
                obtain ⟨cY, jw, cu, bs⟩ := adoptE bc (fun k => if ob bd = some k then 19 else 1) fz
                have fA : OwnSl 19 rep_api_Pair 59 cY fy bd cX := RowF.adopt 19 flat_api_Pair iN cu (fun k hk => if_pos hk)
                refine nl (At.dq (su_ bs z) (WD.heavy 12 z (by kernel_rfl) (WL.buildSlice (O := cY) (R := rep_api_Pair) (vals := [(0, ag [vs a.To, vs c])]) 20 [vs a.To, vs c] (xs := [(api_Pair.mk a.To c)]) (by decide) ty33 ty59 (by decide) (by decide) (fe_ z) (by kernel_rfl) z ⟨[vs a.To, vs c], [], z, ⟨[vs a.To], [vs c], z, z, z⟩, z⟩ z ?_)))
                intro iO kR j7 aC fB
                refine nl (At.dq (su_ aC z) ?_)
                have fC := fA.st aC z z z
                obtain ⟨kS, aD, fD⟩ := OwnSl.rlb 1003 rfl fC
                have fF := fB.st aD z z z
                obtain ⟨iP, aE, fG⟩ := OwnSl.rlb 1004 rfl fF
                have fH := fD.st aE z z z
                refine WD.own (tr_ (su_ aD z) (su_ aE z)) (WD.perm _ [12, 11, 10, 9, 8, 7, 6, 5, 4, 3, 2, 1, 0] (by kernel_rfl) ?_)
                exact ca (cX, [(api_Pair.mk a.To c)], iP, bd, iO) _ _ _ ⟨some1 h, (tr_ (su_ bs z) (tr_ (su_ aC z) (tr_ (su_ aD z) (su_ aE z)))), fH, fG, z⟩ (.cons z (.cons z (.cons z (.cons z (.cons z (.cons z .nil))))))
               ·try simp only [Option.bind_assoc] at h
                try simp only [Option.bind_some] at h
                refine WL.buildSlice (O := bc) (R := rep_api_Pair) (vals := [(0, ag [vs a.To, vs c])]) 21 [vs a.To, vs c] (xs := [(api_Pair.mk a.To c)]) (by decide) ty33 ty59 (by decide) (by decide) (fe_ z) (by kernel_rfl) z ⟨[vs a.To, vs c], [], z, ⟨[vs a.To], [vs c], z, z, z⟩, z⟩ z ?_
                intro iQ iR j8 aF fI
                refine nl (At.dq (su_ aF z) (WD.heavy 7 z (by kernel_rfl) ?_))
                have fJ := b9.st aF z z z
                obtain ⟨cZ, fK, h⟩ := bnd h
                refine WL.call (vals := [ak, vs a.To]) kok42 z z (c_ref33_without (A := fun _ => True) (fJ.src.sl) fK) ?_
                rintro bf fL ⟨_, rfl, fN, iS⟩
                obtain ⟨iT, jx, cv, aG⟩ := adoptE iR (fun k => if ob bf = some k then 22 else 1) fN
                have fO : OwnSl 22 rep_api_Pair 59 iT fL bf cZ := RowF.adopt 22 flat_api_Pair iS cv (fun k hk => if_pos hk)
                refine nl (At.dq (su_ aG z) ?_)
                obtain ⟨kT, aH, fP⟩ := OwnSl.rlb 1003 rfl fO
                have fR := (fI.st aG z z z).st aH z z z
                obtain ⟨iU, aI, fT⟩ := OwnSl.rlb 1004 rfl fR
                have fU := fP.st aI z z z
                refine WD.own (tr_ (su_ aH z) (su_ aI z)) (WD.perm _ [12, 11, 10, 9, 8, 7, 6, 5, 4, 3, 2, 1, 0] (by kernel_rfl) ?_)
                exact ca (cZ, [(api_Pair.mk a.To c)], iU, bf, iQ) _ _ _ ⟨some1 h, (tr_ (su_ aF z) (tr_ (su_ aG z) (tr_ (su_ aH z) (su_ aI z)))), fU, fT, z⟩ (.cons z (.cons z (.cons z (.cons z (.cons z (.cons z .nil))))))
              ·rintro ⟨iV, iW, kU, c0, c1⟩ _ j9 ⟨rfl, bt, cb, cc, rfl⟩
               replace h := fw
               try dsimp only at h bt cb cc
               refine (show WD _ _ _ _ _ _ _ _ [(0, v0), (3, pt l 0), (4, pt q 0), (5, vi j), (80, c0), (85, c1)] _ _ from ?_)
               obtain ⟨kV, aJ, fV⟩ := OwnSl.rlb 1005 rfl cb
               have fY := cc.st aJ z z z
               obtain ⟨iX, aK, f0⟩ := OwnSl.rlb 1006 rfl fY
               have f1 := fV.st aK z z z
               refine WD.own (tr_ (su_ aJ z) (su_ aK z)) (WD.perm _ [12, 11, 10, 9, 8, 7, 6, 5, 4, 3, 2, 1, 0] (by kernel_rfl) ?_)
               exact b7 (iV, iW, iX, c0, c1) _ _ _ ⟨some1 h, (tr_ (su_ br z) (tr_ (su_ bt z) (tr_ (su_ aJ z) (su_ aK z)))), f1, f0, z⟩ (.cons z (.cons z (.cons z (.cons z (.cons z (.cons z .nil))))))
             ·try simp only [Option.bind_assoc] at h
              try simp only [Option.bind_some] at h
              refine WL.buildSlice (O := p) (R := rep_api_Pair) (vals := [(0, ag [vs a.To, vs c])]) 23 [vs a.To, vs c] (xs := [(api_Pair.mk a.To c)]) (by decide) ty33 ty59 (by decide) (by decide) (fe_ z) (by kernel_rfl) z ⟨[vs a.To, vs c], [], z, ⟨[vs a.To], [vs c], z, z, z⟩, z⟩ z ?_
              intro iY iZ ka aL f2
              refine nl (At.dq (su_ aL z) (WD.heavy 4 z (by kernel_rfl) ?_))
              have f8 := (((((r.i m z z).i o z z).i d z z).i e z z).i F z z).i aL z z
              obtain ⟨i0, f9, h⟩ := bnd h
              refine WL.call (vals := [aa, vs a.Key]) kok42 z z (c_ref33_without (A := fun _ => True) (Sl.all f8) f9) ?_
              rintro bg ga ⟨_, rfl, gb, i1⟩
              obtain ⟨c2, jy, cw, aM⟩ := adoptE iZ (fun k => if ob bg = some k then 24 else 1) gb
              have gc : OwnSl 24 rep_api_Pair 59 c2 ga bg i0 := RowF.adopt 24 flat_api_Pair i1 cw (fun k hk => if_pos hk)
              refine nl (At.dq (su_ aM z) (WD.heavy 7 z (by kernel_rfl) ?_))
              obtain ⟨c3, gd, h⟩ := bnd h
              refine WL.call (vals := [bg, vs a.To]) kok42 z z (c_ref33_without (A := fun _ => True) (gc.src.sl) gd) ?_
              rintro bh ge ⟨_, rfl, gf, i2⟩
              obtain ⟨i3, jz, cx, aN⟩ := adoptE c2 (fun k => if ob bh = some k then 25 else 1) gf
              have gg : OwnSl 25 rep_api_Pair 59 i3 ge bh c3 := RowF.adopt 25 flat_api_Pair i2 cx (fun k hk => if_pos hk)
              refine nl (At.dq (su_ aN z) ?_)
              obtain ⟨kW, aO, gh⟩ := OwnSl.rlb 1005 rfl gg
              have gk := ((f2.st aM z z z).st aN z z z).st aO z z z
              obtain ⟨i4, aP, gl⟩ := OwnSl.rlb 1006 rfl gk
              have gm := gh.st aP z z z
              refine WD.own (tr_ (su_ aO z) (su_ aP z)) (WD.perm _ [12, 11, 10, 9, 8, 7, 6, 5, 4, 3, 2, 1, 0] (by kernel_rfl) ?_)
              exact b7 (c3, [(api_Pair.mk a.To c)], i4, bh, iY) _ _ _ ⟨some1 h, (tr_ (su_ aL z) (tr_ (su_ aM z) (tr_ (su_ aN z) (tr_ (su_ aO z) (su_ aP z))))), gm, gl, z⟩ (.cons z (.cons z (.cons z (.cons z (.cons z (.cons z .nil))))))
            ·rintro ⟨kX, kY, kZ, i5, i6⟩ _ kb ⟨rfl, aQ, cd, ce, rfl⟩
             replace h := fn
             try dsimp only at h aQ cd ce
             refine (show WD _ _ _ _ _ _ _ _ [(0, v0), (3, pt l 0), (4, pt q 0), (5, vi j), (80, i5), (85, i6)] _ _ from ?_)
             refine WD.heavy 13 z (by kernel_rfl) ?_
             obtain ⟨gn, c4, h⟩ := bnd h
             refine WL.append (by decide) ty33 ty59 z (by decide) z z cd ce.src c4 z ?_
             intro k0 k1 kc aR cf
             refine nl (At.dq (su_ aR z) (WD.y 14 z (by kernel_rfl) (fun _ _ _ => yf fo41_1 z) z (WD.phase [11] [0, 1, 2, 3, 4, 5, 6, 7, 8, 9, 10, 11, 12, 13, 14, 15] (by kernel_rfl) (by kernel_rfl) (WD.heavy 15 z (by kernel_rfl) ?_))))
             have gp := h
             obtain ⟨bP, bQ, bR, rfl⟩ := cf.shape
             have h := gp
             have gu := ((((t.st d z).st e z).st F z).st aQ z).st aR z
             refine WL.store (v := (vl bP bQ bR)) (cells' := (cp a1 (vl bP bQ bR) (vl G H I) (vl J K M))) ty33 z z gu z (le_ z) z z ?_
             intro kd aS gw
             refine nl (At.dq (su_ aS z) (WD.done_ (by kernel_rfl) (At.inBlock ?_)))
             have gz := cf.st aS z z z
             obtain ⟨i7, bu, gB⟩ := OwnSl.giveF rfl flat_api_Pair gz
             have gC := gw.st bu z
             exact At.join (σ := (List api_Pair × Own × Value)) (gn, i7, (vl bP bQ bR)) ⟨go2 h, (tr_ (su_ F z) (tr_ (su_ aQ z) (tr_ (su_ aR z) (tr_ (su_ aS z) (su_ bu z))))), (Sl.mono gB frs_imm), gC⟩ (.cons z (.cons z (.cons z (.cons z .nil))))
           ·refine WC.condF' z bb (sk (At.inBlock ?_))
            have gI := (((r.i m z z).i o z z).i d z z).i e z z
            have gK := (t.st d z).st e z
            exact At.join (σ := (List api_Pair × Own × Value)) (an, p, aa) ⟨go2 h, (sr_ _ _ _), gI, gK⟩ (.cons z (.cons z (.cons z (.cons z .nil))))
         ·refine WC.condF' z a9 (sq (rg (wY (Y.eql_i z z) z ?_)))
          obtain ⟨k2, gL, h⟩ := lt1 h
          refine WL.yE (ya z) (congrArg vB gL.symm) z (nl (th ?_))
          rcases cnd h with ⟨bi, h⟩ | ⟨bi, h⟩
          ·refine WC.condT' z bi (sq (rg (wY (ya z) z (nl (th (sq (sq (rg (wY (ya z) z ?_)))))))))
           refine nl (th ?_)
           obtain ⟨i8, h, gM⟩ := bnd h
           refine WC.join (σ := (List api_Pair × Own × Value)) (fun x w' => x.1 = i8 ∧ Stp [27, 1007, 1008, 1009] p ac x.2.1 w' ∧ OwnSl 1010 rep_api_Pair 59 x.2.1 w' x.2.2 x.1) (fun x => [(0, v0), (3, pt l 0), (4, pt q 0), (5, vi j), (10, x.2.2)]) ?_ ?_
           ·refine WC.block ?_
            obtain ⟨c5, h, gO⟩ := flow1 h
            obtain ⟨c6, h⟩ := loop_some h
            refine WC.joinB 3 (σ := (List api_Pair × Own × Value)) (fun x w' => c5 = .go x.1 ∧ Stp [27, 1007, 1008] p ac x.2.1 w' ∧ OwnSl 1009 rep_api_Pair 59 x.2.1 w' x.2.2 x.1) (fun x => [(0, v0), (3, pt l 0), (4, pt q 0), (5, vi j), (10, x.2.2)]) ?_ ?_
            ·refine WC.loop (σ := (List api_Pair × Int × Own × Value)) (fun x k w' => loopN k (ref33_Go_lp2 an a) (x.1, x.2.1) = some c5 ∧ Stp [27, 1007, 1008] p ac x.2.2.1 w' ∧ OwnSl 1008 rep_api_Pair 59 x.2.2.1 w' x.2.2.2 x.1) (fun x => [(0, v0), (3, pt l 0), (4, pt q 0), (5, vi j), (6, pt aj 0), (10, x.2.2.2), (11, vi x.2.1)]) ([], 0, p, sn) c6 (.cons z (.cons z (.cons z (.cons z (.cons z (.cons z (.cons z .nil))))))) ⟨h, (sr_ _ _ _), (OwnSl.nil 1008 rep_api_Pair 59)⟩ ?_
             rintro ⟨bw, bS, bT, bU⟩ c6 gP ⟨h, W, al⟩
             obtain ⟨i9, k3, rfl, h, cg⟩ := rnd1 h
             unfold ref33_Go_lp2 at h
             try dsimp only at h W al
             refine (show WC _ _ _ _ [(0, v0), (3, pt l 0), (4, pt q 0), (5, vi j), (6, pt aj 0), (10, bU), (11, vi bS)] _ from ?_)
             refine sq (sq (rg (wY (ym z) z (wY (yf fo41_1 z) z ?_))))
             have ch := ((t.st d z).st e z).st W z
             refine wY (yl ty33 z z (ch.cell 1 _ z)) z ?_
             have ci := ((((r.i m z z).i o z z).i d z z).i e z z).i W z z
             refine wY (Y.len ty33 z ci) z (wY (Y.lss_i z z) z (nl (th ?_)))
             rcases cnd h with ⟨bj, h⟩ | ⟨bj, h⟩
             ·refine WC.condT' z bj (sk (th (sq ?_)))
              obtain ⟨ja, h, gY⟩ := bnd h
              refine WC.join (σ := (List api_Pair × Own × Value)) (fun x w' => x.1 = ja ∧ Stp [1008] bT gP x.2.1 w' ∧ OwnSl 1007 rep_api_Pair 59 x.2.1 w' x.2.2 x.1) (fun x => [(0, v0), (3, pt l 0), (4, pt q 0), (5, vi j), (6, pt aj 0), (10, x.2.2), (11, vi bS)]) ?_ ?_
              ·refine WC.block (sq (WC.draw 7 bT fmix (by kernel_rfl) ?_))
               intro ke Q
               have g0 := (V.st W z).st Q z
               refine WS.y (yL ty28 z z (g0.cells 0 [vi a.Kind, vs a.Key, vs a.Glob, vs a.To, vs a.Val] z) z) z (WS.y (yf fo41_1 z) z ?_)
               have cj := ch.st Q z
               refine WS.y (yl ty33 z z (cj.cell 1 _ z)) z (WS.y (ym z) z ?_)
               obtain ⟨bk, g1, h⟩ := bnd h
               have ck := ci.i Q z z
               obtain ⟨k4, jG, jH, kf, g2, g3, g4, bl, c7, g5⟩ := Sl.at2 ck g1
               obtain ⟨_, _, rfl, rfl, rfl⟩ := c7
               replace bl : CellsAt _ _ _ [vs bk.Key, vs bk.Val] := bl
               have c8 := CAt.imm bl g5
               refine WS.y (Y.indexAddr ty33 ty59 z g2 z g3 g4) z (WS.y (yf fo59_0 z) z (WS.y (yl ty9 z z (c8.at_.sub 0 [vs bk.Key] z)) z (WS.tail ?_)))
               obtain ⟨k5, g6, h⟩ := bnd h
               refine WL.call (vals := [ag [vi a.Kind, vs a.Key, vs a.Glob, vs a.To, vs a.Val], vs bk.Key]) kok41 z z (c_ref33_matches (a0 := a) g6) ?_
               rintro kg kh ⟨rfl, g7⟩
               obtain ⟨jb, jA, jB, X⟩ := adoptE bT (fun k => 1) g7
               refine wY (Y.not z) z (nl (th ?_))
               rcases cnd h with ⟨bm, h⟩ | ⟨bm, h⟩
               ·refine WC.condT' z bm (rg (wY (ym z) z (wY (yf fo41_1 z) z ?_)))
                have g8 := cj.st X z
                refine wY (yl ty33 z z (g8.cell 1 _ z)) z (wY (ym z) z ?_)
                obtain ⟨S, g9, h⟩ := bnd h
                have ha := ck.i X z z
                obtain ⟨k6, jI, jJ, ki, hc, hd, he, bn, c9, hf⟩ := Sl.at2 ha g9
                obtain ⟨_, _, rfl, rfl, rfl⟩ := c9
                replace bn : CellsAt _ _ _ [vs S.Key, vs S.Val] := bn
                have da := CAt.imm bn hf
                refine wY (Y.indexAddr ty33 ty59 z hc z hd he) z (wY (yL ty59 z z da.at_ z) z (WL.buildSlice (O := jb) (R := rep_api_Pair) (vals := [(0, ag [vs S.Key, vs S.Val])]) 26 [vs S.Key, vs S.Val] (xs := [S]) (by decide) ty33 ty59 (by decide) (by decide) (fe_ z) (by kernel_rfl) z ⟨[vs S.Key, vs S.Val], [], z, ⟨[vs S.Key], [vs S.Val], z, z, z⟩, z⟩ z ?_))
                intro k7 k8 kj bx hg
                obtain ⟨hh, db, h⟩ := bnd h
                have hm := ((al.st Q z z z).st X z z z).st bx z z z
                refine WL.append (by decide) ty33 ty59 z (by decide) z z hm hg.src db z ?_
                intro jc k9 kk dc hn
                refine wY (ya z) z (nl (At.inBlock ?_))
                obtain ⟨jd, dd, ho⟩ := OwnSl.rlb 1007 rfl hn
                exact At.join (σ := (List api_Pair × Own × Value)) (hh, jd, jc) ⟨some1 h, (tr_ (su_ Q z) (tr_ (su_ X z) (tr_ (su_ bx z) (tr_ (su_ dc z) (su_ dd z))))), ho⟩ (.cons z (.cons z (.cons z (.cons z (.cons z (.cons z (.cons z .nil)))))))
               ·refine WC.condF' z bm (sk (At.inBlock ?_))
                have hq := (al.st Q z z z).st X z z z
                obtain ⟨je, de, hr⟩ := OwnSl.rlb 1007 rfl hq
                exact At.join (σ := (List api_Pair × Own × Value)) (bw, je, bU) ⟨some1 h, (tr_ (su_ Q z) (tr_ (su_ X z) (su_ de z))), hr⟩ (.cons z (.cons z (.cons z (.cons z (.cons z (.cons z (.cons z .nil)))))))
              ·rintro ⟨df, la, dg⟩ km ⟨rfl, bz, cl⟩
               replace h := gY
               try dsimp only at h bz cl
               refine (show At _ _ _ [(0, v0), (3, pt l 0), (4, pt q 0), (5, vi j), (6, pt aj 0), (10, dg), (11, vi bS)] _ from ?_)
               refine th (rg (wY (ym z) z (wY (Y.add_i z z) z ?_)))
               obtain ⟨jf, hs, h⟩ := lt1 h
               refine WL.yE (ya z) (congrArg vi hs.symm) z (nl ?_)
               obtain ⟨jg, dh, ht⟩ := OwnSl.rlb 1008 rfl cl
               exact At.round (df, jf, jg, dg) i9 (Nat.lt_succ_self _) ⟨next1 h cg, (tr_ (su_ W z) (tr_ (su_ bz z) (su_ dh z))), ht⟩ (.cons z (.cons z (.cons z (.cons z (.cons z (.cons z (.cons z .nil)))))))
             ·refine WC.condF' z bj (WC.exit (At.thenX (At.loopX ?_)))
              obtain ⟨jh, di, hu⟩ := OwnSl.rlb 1009 rfl al
              exact At.hitB (σ := (List api_Pair × Own × Value)) (bw, jh, bU) ⟨brk1 h cg, (tr_ (su_ W z) (su_ di z)), hu⟩ (.cons z (.cons z (.cons z (.cons z (.cons z .nil)))))
            ·rintro ⟨dj, lb, dk⟩ kn ⟨rfl, bA, cm⟩
             replace h := flowK_go gO
             try dsimp only at h bA cm
             refine (show At _ _ _ [(0, v0), (3, pt l 0), (4, pt q 0), (5, vi j), (10, dk)] _ from ?_)
             refine At.inBlockHit ?_
             obtain ⟨ji, dl, hv⟩ := OwnSl.rlb 1010 rfl cm
             exact At.join (σ := (List api_Pair × Own × Value)) (dj, ji, dk) ⟨some1 h, (tr_ (su_ bA z) (su_ dl z)), hv⟩ (.cons z (.cons z (.cons z (.cons z (.cons z .nil)))))
           ·rintro ⟨dm, lc, jj⟩ ko ⟨rfl, aT, bo⟩
            replace h := gM
            try dsimp only at h aT bo
            refine (show At _ _ _ [(0, v0), (3, pt l 0), (4, pt q 0), (5, vi j), (10, jj)] _ from ?_)
            refine th (rg (wY (ym z) z (wY (yf fo41_1 z) z ?_)))
            have hw := h
            obtain ⟨bW, bX, bY, rfl⟩ := bo.shape
            have h := hw
            have hz := ((t.st d z).st e z).st aT z
            refine WL.store (v := (vl bW bX bY)) (cells' := (cp a1 (vl bW bX bY) (vl G H I) (vl J K M))) ty33 z z hz z (le_ z) z z ?_
            intro kp bB hA
            refine nl (At.inBlock ?_)
            have hC := bo.st bB z z z
            obtain ⟨jk, bC, hD⟩ := OwnSl.giveF rfl flat_api_Pair hC
            have hE := hA.st bC z
            exact At.join (σ := (List api_Pair × Own × Value)) (dm, jk, (vl bW bX bY)) ⟨go2 h, (tr_ (su_ aT z) (tr_ (su_ bB z) (su_ bC z))), (Sl.mono hD frs_imm), hE⟩ (.cons z (.cons z (.cons z (.cons z .nil))))
          ·refine WC.condF' z bi (sk (At.inBlock ?_))
           have hI := (((r.i m z z).i o z z).i d z z).i e z z
           have hK := (t.st d z).st e z
           exact At.join (σ := (List api_Pair × Own × Value)) (an, p, aa) ⟨go2 h, (sr_ _ _ _), hI, hK⟩ (.cons z (.cons z (.cons z (.cons z .nil))))
     ·rintro ⟨jl, jm, jn⟩ kq ⟨rfl, bD, cn, co⟩
      replace h := flowK_go aY
      try dsimp only at h bD cn co
      refine (show At _ _ _ [(0, v0), (3, pt l 0), (4, pt q 0), (5, vi j)] _ from ?_)
      refine At.inBlock ?_
      exact At.join (σ := (List api_Pair × Own × Value)) (jl, jm, jn) ⟨go2 h, (tr_ (su_ m z) (tr_ (su_ o z) (tr_ (su_ d z) (tr_ (su_ e z) (su_ bD z))))), cn, co⟩ (.cons z (.cons z (.cons z (.cons z .nil))))
   ·rintro ⟨jK, jL, jM⟩ ld ⟨rfl, cq, dn, dp⟩
    replace h := flowK_go bI
    try dsimp only at h cq dn dp
    refine (show At _ _ _ [(0, v0), (3, pt l 0), (4, pt q 0), (5, vi j)] _ from ?_)
    refine th (rg (wY (ym z) z (wY (Y.add_i z z) z ?_)))
    obtain ⟨jo, hL, h⟩ := lt1 h
    refine WL.yE (ya z) (congrArg vi hL.symm) z (nl ?_)
    exact At.round (jK, jo, jL, jM) jD (Nat.lt_succ_self _) ⟨next1 h aU, (tr_ (su_ U z) (su_ cq z)), dn, dp⟩ (.cons z (.cons z (.cons z (.cons z .nil))))
  ·refine WC.condF' z bH (WC.exit (At.thenX (At.loopX ?_)))
   exact At.hitB (σ := (List api_Pair × Own × Value)) (an, cF, aa) ⟨brk1 h aU, (su_ U z), r, bG⟩ (.cons z (.cons z .nil))
 ·rintro ⟨li, jN, jO⟩ lf ⟨rfl, ad, bZ, dr⟩
  replace h := flowK_go bF
  try dsimp only at h ad bZ dr
  refine (show At _ _ _ [(3, pt l 0), (4, pt q 0)] _ from ?_)
  refine At.inBlockHit (th (sq (rg (wY (yL ty41 z z (dr.cells 0 (cp a1 jO (vl G H I) (vl J K M)) z) z) z ?_))))
  have hM := h
  obtain ⟨af, ah, ai, rfl⟩ := bZ.shape
  have h := hM
  refine wY (yb (vals := [(0, ag (cp a1 (vl af ah ai) (vl G H I) (vl J K M))), (1, vi (-1))]) (cells := [vs a1.Name, (vl af ah ai), vi a1.Kind, vi a1.Temp, vB a1.Mono, vi a1.Start, vi a1.Time, vi a1.Int_, vu a1.Re, vu a1.Im, vi a1.Hist.Scale, vu a1.Hist.Zero, vi a1.Hist.Pos.Offset, (vl G H I), vi a1.Hist.Neg.Offset, (vl J K M), vi a1.Flags, vi (-1)]) (fe_ z) (by kernel_rfl)) z ?_
  have hN := bE.st ad z
  refine WL.store (v := ag [vs a1.Name, (vl af ah ai), vi a1.Kind, vi a1.Temp, vB a1.Mono, vi a1.Start, vi a1.Time, vi a1.Int_, vu a1.Re, vu a1.Im, vi a1.Hist.Scale, vu a1.Hist.Zero, vi a1.Hist.Pos.Offset, (vl G H I), vi a1.Hist.Neg.Offset, (vl J K M), vi a1.Flags, vi (-1)]) (cells' := [vs a1.Name, (vl af ah ai), vi a1.Kind, vi a1.Temp, vB a1.Mono, vi a1.Start, vi a1.Time, vi a1.Int_, vu a1.Re, vu a1.Im, vi a1.Hist.Scale, vu a1.Hist.Zero, vi a1.Hist.Pos.Offset, (vl G H I), vi a1.Hist.Neg.Offset, (vl J K M), vi a1.Flags, vi (-1)]) ty52 z z hN z (le_ z) z z ?_
  intro hO ae hP
  refine nl (th (rt ?_))
  obtain rfl := some1 h
  have am : Stp [11, 12, 13, 14, 15, 16, 17, 19, 20, 21, 22, 23, 25, 27, 1001, 1003, 1004, 1005, 1007, 1008, 1009, 1010] (Lg.O0 A) w jN hO := (tr_ (su_ Z z) (tr_ (su_ T z) (tr_ (su_ ad z) (su_ ae z))))
  have hQ := bZ.i ae z z
  have hU := (((cA.i Z z z).i T z z).i ad z z).i ae z z
  have hY := (((cC.i Z z z).i T z z).i ad z z).i ae z z
  exact At.res (.inl z) z (.cell z (hP.runAg 0 [vs a1.Name, (vl af ah ai), vi a1.Kind, vi a1.Temp, vB a1.Mono, vi a1.Start, vi a1.Time, vi a1.Int_, vu a1.Re, vu a1.Im, vi a1.Hist.Scale, vu a1.Hist.Zero, vi a1.Hist.Pos.Offset, (vl G H I), vi a1.Hist.Neg.Offset, (vl J K M), vi a1.Flags, vi (-1)] ty52 z z z) .nil) ⟨(vl af ah ai), (vl G H I), (vl J K M), z, (se_ am z z), (Sl.outI hQ am low0 O0_A), (Sl.outI hU am low0 O0_A), (Sl.outI hY am low0 O0_A)⟩
end Go.Lg
