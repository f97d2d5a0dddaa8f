/- The walks of RollupRolls and of what it calls, printed by gen.py. -/
import Derived.Test.YtihlealbhlgikaaGreatRrLgRollWRollupRollsx2
set_option linter.unusedVariables false
namespace Go.Lg
open Go Go.Proofs
set_option maxRecDepth 100000
set_option maxHeartbeats 4000000
theorem c_ref12_Check {A : Nat → Prop} {v0_1 : Value} {v0_13 : Value} {v0_15 : Value} {a0 : api_Point} {w : World} (hs0_1 : Sl rep_api_Pair w A v0_1 a0.Attrs) (hs0_13 : Sl Rep.u w A v0_13 a0.Hist.Pos.Counts) (hs0_15 : Sl Rep.u w A v0_15 a0.Hist.Neg.Counts) {r0 : Int} (h : ref12_Check a0 = some r0) : Rets Tryz.prog 24 [ag (cp a0 v0_1 v0_13 v0_15)] w (fun v w' => v = vi r0 ∧ Ext w w') := by
 unfold ref12_Check at h
 refine Rets.enter Tryz.func24 z z ?_
 have aQ : Sl rep_api_Pair w (imm (Lg.O0 A)) v0_1 a0.Attrs := (Sl.start hs0_1)
 have af : Sl Rep.u w (imm (Lg.O0 A)) v0_13 a0.Hist.Pos.Counts := (Sl.start hs0_13)
 have ah : Sl Rep.u w (imm (Lg.O0 A)) v0_15 a0.Hist.Neg.Counts := (Sl.start hs0_15)
 refine (show WC _ _ _ _ [(0, ag (cp a0 v0_1 v0_13 v0_15))] _ from ?_)
 refine sq (rg ?_)
 have bq := h
 obtain ⟨bm, bn, bo, rfl⟩ := aQ.shape
 have h := bq
 have br := h
 obtain ⟨X, Z, aa, rfl⟩ := af.shape
 have h := br
 have bs := h
 obtain ⟨ab, ac, ad, rfl⟩ := ah.shape
 have h := bs
 refine WL.box (O := (Lg.O0 A)) 11 (cp a0 (vl bm bn bo) (vl X Z aa) (vl ab ac ad)) z z z ?_
 intro c b2 ci l ai
 refine wY (ya z) z (nl (th (sq (sq (rg (wY (yf fo40_0 z) z (wY (yl ty9 z z (ai.cell 0 _ z)) z (wY (yf fo40_1 z) z (wY (yl ty32 z z (ai.cell 1 _ z)) z ?_)))))))))
 have bt := aQ.i l z z
 obtain ⟨co, bu, h⟩ := bnd h
 refine WL.call (vals := [vs a0.Name, (vl bm bn bo)]) kok52 z z (c_ref11_Check (A := fun _ => True) (Sl.all bt) bu) ?_
 rintro cj j ⟨rfl, bw⟩
 obtain ⟨t, b3, b4, m⟩ := adoptE b2 (fun k => 1) bw
 refine wY (ya z) z (nl (th (sq (rg (wY (ym z) z (wY (Y.neq_i z z) z (nl (th ?_))))))))
 rcases cnd h with ⟨aj, h⟩ | ⟨aj, h⟩
 ·refine WC.condT' z aj (sq (rg (wY (ym z) z (wY (ya z) z (nl (th (rt (At.thenR ?_))))))))
  obtain rfl := some1 h
  have bx : Stp [] (Lg.O0 A) w t j := (tr_ (su_ l z) (su_ m z))
  exact At.res (.inl z) z (.tmp z .nil) ⟨z, (se_ bx z z)⟩
 ·refine WC.condF' z aj (sk (th (sq (sq (rg (wY (yf fo40_2 z) z ?_))))))
  have d := ai.st m z
  refine wY (yl ty3 z z (d.cell 2 _ z)) z (wY (Y.lss_i z z) z (wY (ym z) z ?_))
  refine WL.cut 4 (σ := Unit) (fun _ w' => j = w') (fun _ => [(1, pt c 0), (19, vB ((decide (a0.Kind < 1)) || (decide (5 < a0.Kind))))]) ?_ ?_
  ·refine WL.part 15 z (fun ak => ?_) (fun ak => ?_)
   ·refine WL.gS z z z z (WL.gS z z z z (WL.gS z z z z (wY (Y.pick (b := true) z z) z (WL.ren (v' := vB ((decide (a0.Kind < 1)) || (decide (5 < a0.Kind)))) 19 z (congrArg vB (orT ak)) ?_))))
    exact nl (At.join () z (.cons z (.cons z .nil)))
   ·refine ug z z (wY (yf fo40_2 z) z (ug z z (wY (yl ty3 z z (d.cell 2 _ z)) z (ug z z (wY (Y.gtr_i z z) z (wY (Y.pick (b := false) z z) z (WL.ren (v' := vB ((decide (a0.Kind < 1)) || (decide (5 < a0.Kind)))) 19 z (congrArg vB (orF ak)) ?_)))))))
    exact nl (At.join () z (.cons z (.cons z .nil)))
  ·rintro _ _ rfl
   refine (show WL _ _ _ _ _ [(1, pt c 0), (19, vB ((decide (a0.Kind < 1)) || (decide (5 < a0.Kind))))] _ from ?_)
   refine nl (th ?_)
   rcases cnd h with ⟨al, h⟩ | ⟨al, h⟩
   ·refine WC.condT' z al (sq (rg (wY (ya z) z (nl (th (rt (At.thenR ?_)))))))
    obtain rfl := some1 h
    have bz : Stp [] (Lg.O0 A) w t j := (tr_ (su_ l z) (su_ m z))
    exact At.res (.inl z) z (.tmp z .nil) ⟨z, (se_ bz z z)⟩
   ·refine WC.condF' z al (sk (th (sq (sq (rg (wY (yf fo40_2 z) z (wY (yl ty3 z z (d.cell 2 _ z)) z (wY (Y.eql_i z z) z (wY (ym z) z ?_)))))))))
    refine WL.cut 4 (σ := Unit) (fun _ w' => j = w') (fun _ => [(1, pt c 0), (27, vB ((decide (a0.Kind = 3)) && (!decide (a0.Temp = 0))))]) ?_ ?_
    ·refine WL.part 23 z (fun am => ?_) (fun am => ?_)
     ·refine ug z z (wY (yf fo40_3 z) z (ug z z (wY (yl ty3 z z (d.cell 3 _ z)) z (ug z z (wY (Y.neq_i z z) z (wY (Y.pick (b := true) z z) z (WL.ren (v' := vB ((decide (a0.Kind = 3)) && (!decide (a0.Temp = 0)))) 27 z (congrArg vB (andT am)) ?_)))))))
      exact nl (At.join () z (.cons z (.cons z .nil)))
     ·refine WL.gS z z z z (WL.gS z z z z (WL.gS z z z z (wY (Y.pick (b := false) z z) z (WL.ren (v' := vB ((decide (a0.Kind = 3)) && (!decide (a0.Temp = 0)))) 27 z (congrArg vB (andF am)) ?_))))
      exact nl (At.join () z (.cons z (.cons z .nil)))
    ·rintro _ _ rfl
     refine (show WL _ _ _ _ _ [(1, pt c 0), (27, vB ((decide (a0.Kind = 3)) && (!decide (a0.Temp = 0))))] _ from ?_)
     refine wY (ym z) z ?_
     refine WL.cut 14 (σ := Unit) (fun _ w' => j = w') (fun _ => [(1, pt c 0), (42, vB (((decide (a0.Kind = 3)) && (!decide (a0.Temp = 0))) || (((!decide (a0.Kind = 3)) && (!decide (a0.Temp = 1))) && (!decide (a0.Temp = 2)))))]) ?_ ?_
     ·refine WL.part 28 z (fun an => ?_) (fun an => ?_)
      ·refine WL.gS z z z z (WL.gS z z z z (WL.gS z z z z (WL.gS z z z z (WL.gS z z z z (WL.gS z z z z (WL.gS z z z z (WL.gS z z z z (WL.gS z z z z (WL.gS z z z z ?_)))))))))
       refine WL.gS z z z z (WL.gS z z z z (WL.gS z z z z (wY (Y.pick (b := true) z z) z (WL.ren (v' := vB (((decide (a0.Kind = 3)) && (!decide (a0.Temp = 0))) || (((!decide (a0.Kind = 3)) && (!decide (a0.Temp = 1))) && (!decide (a0.Temp = 2))))) 42 z (congrArg vB (orT an)) ?_))))
       exact nl (At.join () z (.cons z (.cons z .nil)))
      ·refine ug z z (wY (yf fo40_2 z) z (ug z z (wY (yl ty3 z z (d.cell 2 _ z)) z (ug z z (wY (Y.neq_i z z) z (ug z z (wY (ym z) z ?_)))))))
       refine WL.cut 4 (σ := Unit) (fun _ w' => j = w') (fun _ => [(1, pt c 0), (28, vB false), (36, vB ((!decide (a0.Kind = 3)) && (!decide (a0.Temp = 1))))]) ?_ ?_
       ·refine WL.part 32 z (fun ao => ?_) (fun ao => ?_)
        ·refine ug z z (wY (yf fo40_3 z) z (ug z z (wY (yl ty3 z z (d.cell 3 _ z)) z (ug z z (wY (Y.neq_i z z) z (ug z z (wY (Y.pick (b := true) z z) z (WL.ren (v' := vB ((!decide (a0.Kind = 3)) && (!decide (a0.Temp = 1)))) 36 z (congrArg vB (andT ao)) ?_))))))))
         exact nl (At.join () z (.cons z (.cons z (.cons z .nil))))
        ·refine WL.gS z z z z (WL.gS z z z z (WL.gS z z z z (ug z z (wY (Y.pick (b := false) z z) z (WL.ren (v' := vB ((!decide (a0.Kind = 3)) && (!decide (a0.Temp = 1)))) 36 z (congrArg vB (andF ao)) ?_)))))
         exact nl (At.join () z (.cons z (.cons z (.cons z .nil))))
       ·rintro _ _ rfl
        refine (show WL _ _ _ _ _ [(1, pt c 0), (28, vB false), (36, vB ((!decide (a0.Kind = 3)) && (!decide (a0.Temp = 1))))] _ from ?_)
        refine ug z z (wY (ym z) z ?_)
        refine WL.cut 4 (σ := Unit) (fun _ w' => j = w') (fun _ => [(1, pt c 0), (28, vB false), (41, vB (((!decide (a0.Kind = 3)) && (!decide (a0.Temp = 1))) && (!decide (a0.Temp = 2))))]) ?_ ?_
        ·refine WL.part 37 z (fun ap => ?_) (fun ap => ?_)
         ·refine ug z z (wY (yf fo40_3 z) z (ug z z (wY (yl ty3 z z (d.cell 3 _ z)) z (ug z z (wY (Y.neq_i z z) z (ug z z (wY (Y.pick (b := true) z z) z (WL.ren (v' := vB (((!decide (a0.Kind = 3)) && (!decide (a0.Temp = 1))) && (!decide (a0.Temp = 2)))) 41 z (congrArg vB (andT ap)) ?_))))))))
          exact nl (At.join () z (.cons z (.cons z (.cons z .nil))))
         ·refine WL.gS z z z z (WL.gS z z z z (WL.gS z z z z (ug z z (wY (Y.pick (b := false) z z) z (WL.ren (v' := vB (((!decide (a0.Kind = 3)) && (!decide (a0.Temp = 1))) && (!decide (a0.Temp = 2)))) 41 z (congrArg vB (andF ap)) ?_)))))
          exact nl (At.join () z (.cons z (.cons z (.cons z .nil))))
        ·rintro _ _ rfl
         refine (show WL _ _ _ _ _ [(1, pt c 0), (28, vB false), (41, vB (((!decide (a0.Kind = 3)) && (!decide (a0.Temp = 1))) && (!decide (a0.Temp = 2))))] _ from ?_)
         refine wY (Y.pick (b := false) z z) z (WL.ren (v' := vB (((decide (a0.Kind = 3)) && (!decide (a0.Temp = 0))) || (((!decide (a0.Kind = 3)) && (!decide (a0.Temp = 1))) && (!decide (a0.Temp = 2))))) 42 z (congrArg vB (orF an)) ?_)
         exact nl (At.join () z (.cons z (.cons z .nil)))
     ·rintro _ _ rfl
      refine (show WL _ _ _ _ _ [(1, pt c 0), (42, vB (((decide (a0.Kind = 3)) && (!decide (a0.Temp = 0))) || (((!decide (a0.Kind = 3)) && (!decide (a0.Temp = 1))) && (!decide (a0.Temp = 2)))))] _ from ?_)
      refine nl (th ?_)
      rcases cnd h with ⟨aq, h⟩ | ⟨aq, h⟩
      ·refine WC.condT' z aq (sq (rg (wY (ya z) z (nl (th (rt (At.thenR ?_)))))))
       obtain rfl := some1 h
       have bA : Stp [] (Lg.O0 A) w t j := (tr_ (su_ l z) (su_ m z))
       exact At.res (.inl z) z (.tmp z .nil) ⟨z, (se_ bA z z)⟩
      ·refine WC.condF' z aq (sk (th (sq (sq (rg (wY (yf fo40_4 z) z (wY (yl ty4 z z (d.cell 4 _ z)) z (wY (ym z) z ?_))))))))
       refine WL.cut 4 (σ := Unit) (fun _ w' => j = w') (fun _ => [(1, pt c 0), (49, vB (a0.Mono && (!decide (a0.Kind = 1))))]) ?_ ?_
       ·refine WL.part 45 z (fun ar => ?_) (fun ar => ?_)
        ·refine ug z z (wY (yf fo40_2 z) z (ug z z (wY (yl ty3 z z (d.cell 2 _ z)) z (ug z z (wY (Y.neq_i z z) z (wY (Y.pick (b := true) z z) z (WL.ren (v' := vB (a0.Mono && (!decide (a0.Kind = 1)))) 49 z (congrArg vB (andT ar)) ?_)))))))
         exact nl (At.join () z (.cons z (.cons z .nil)))
        ·refine WL.gS z z z z (WL.gS z z z z (WL.gS z z z z (wY (Y.pick (b := false) z z) z (WL.ren (v' := vB (a0.Mono && (!decide (a0.Kind = 1)))) 49 z (congrArg vB (andF ar)) ?_))))
         exact nl (At.join () z (.cons z (.cons z .nil)))
       ·rintro _ _ rfl
        refine (show WL _ _ _ _ _ [(1, pt c 0), (49, vB (a0.Mono && (!decide (a0.Kind = 1))))] _ from ?_)
        refine wY (ym z) z ?_
        refine WL.cut 4 (σ := Unit) (fun _ w' => j = w') (fun _ => [(1, pt c 0), (54, vB ((a0.Mono && (!decide (a0.Kind = 1))) && (!decide (a0.Kind = 2))))]) ?_ ?_
        ·refine WL.part 50 z (fun au => ?_) (fun au => ?_)
         ·refine ug z z (wY (yf fo40_2 z) z (ug z z (wY (yl ty3 z z (d.cell 2 _ z)) z (ug z z (wY (Y.neq_i z z) z (wY (Y.pick (b := true) z z) z (WL.ren (v' := vB ((a0.Mono && (!decide (a0.Kind = 1))) && (!decide (a0.Kind = 2)))) 54 z (congrArg vB (andT au)) ?_)))))))
          exact nl (At.join () z (.cons z (.cons z .nil)))
         ·refine WL.gS z z z z (WL.gS z z z z (WL.gS z z z z (wY (Y.pick (b := false) z z) z (WL.ren (v' := vB ((a0.Mono && (!decide (a0.Kind = 1))) && (!decide (a0.Kind = 2)))) 54 z (congrArg vB (andF au)) ?_))))
          exact nl (At.join () z (.cons z (.cons z .nil)))
        ·rintro _ _ rfl
         refine (show WL _ _ _ _ _ [(1, pt c 0), (54, vB ((a0.Mono && (!decide (a0.Kind = 1))) && (!decide (a0.Kind = 2))))] _ from ?_)
         refine nl (th ?_)
         rcases cnd h with ⟨av, h⟩ | ⟨av, h⟩
         ·refine WC.condT' z av (sq (rg (wY (ya z) z (nl (th (rt (At.thenR ?_)))))))
          obtain rfl := some1 h
          have bB : Stp [] (Lg.O0 A) w t j := (tr_ (su_ l z) (su_ m z))
          exact At.res (.inl z) z (.tmp z .nil) ⟨z, (se_ bB z z)⟩
         ·refine WC.condF' z av (sk (th (sq (sq (rg (wY (yf fo40_5 z) z (wY (yl ty3 z z (d.cell 5 _ z)) z (wY (Y.lss_i z z) z (wY (ym z) z ?_)))))))))
          refine WL.cut 4 (σ := Unit) (fun _ w' => j = w') (fun _ => [(1, pt c 0), (62, vB ((decide (a0.Start < 0)) || (decide (4503599627370496 < a0.Time))))]) ?_ ?_
          ·refine WL.part 58 z (fun ax => ?_) (fun ax => ?_)
           ·refine WL.gS z z z z (WL.gS z z z z (WL.gS z z z z (wY (Y.pick (b := true) z z) z (WL.ren (v' := vB ((decide (a0.Start < 0)) || (decide (4503599627370496 < a0.Time)))) 62 z (congrArg vB (orT ax)) ?_))))
            exact nl (At.join () z (.cons z (.cons z .nil)))
           ·refine ug z z (wY (yf fo40_6 z) z (ug z z (wY (yl ty3 z z (d.cell 6 _ z)) z (ug z z (wY (Y.gtr_i z z) z (wY (Y.pick (b := false) z z) z (WL.ren (v' := vB ((decide (a0.Start < 0)) || (decide (4503599627370496 < a0.Time)))) 62 z (congrArg vB (orF ax)) ?_)))))))
            exact nl (At.join () z (.cons z (.cons z .nil)))
          ·rintro _ _ rfl
           refine (show WL _ _ _ _ _ [(1, pt c 0), (62, vB ((decide (a0.Start < 0)) || (decide (4503599627370496 < a0.Time))))] _ from ?_)
           refine wY (ym z) z ?_
           refine WL.cut 11 (σ := Unit) (fun _ w' => j = w') (fun _ => [(1, pt c 0), (74, vB (((decide (a0.Start < 0)) || (decide (4503599627370496 < a0.Time))) || ((decide (a0.Kind = 3)) && (!decide (a0.Start = a0.Time)))))]) ?_ ?_
           ·refine WL.part 63 z (fun ay => ?_) (fun ay => ?_)
            ·refine WL.gS z z z z (WL.gS z z z z (WL.gS z z z z (WL.gS z z z z (WL.gS z z z z (WL.gS z z z z (WL.gS z z z z (WL.gS z z z z (WL.gS z z z z (WL.gS z z z z ?_)))))))))
             refine wY (Y.pick (b := true) z z) z (WL.ren (v' := vB (((decide (a0.Start < 0)) || (decide (4503599627370496 < a0.Time))) || ((decide (a0.Kind = 3)) && (!decide (a0.Start = a0.Time))))) 74 z (congrArg vB (orT ay)) ?_)
             exact nl (At.join () z (.cons z (.cons z .nil)))
            ·refine ug z z (wY (yf fo40_2 z) z (ug z z (wY (yl ty3 z z (d.cell 2 _ z)) z (ug z z (wY (Y.eql_i z z) z (ug z z (wY (ym z) z ?_)))))))
             refine WL.cut 6 (σ := Unit) (fun _ w' => j = w') (fun _ => [(1, pt c 0), (63, vB false), (73, vB ((decide (a0.Kind = 3)) && (!decide (a0.Start = a0.Time))))]) ?_ ?_
             ·refine WL.part 67 z (fun az => ?_) (fun az => ?_)
              ·refine ug z z (wY (yf fo40_5 z) z (ug z z (wY (yl ty3 z z (d.cell 5 _ z)) z (ug z z (wY (yf fo40_6 z) z (ug z z (wY (yl ty3 z z (d.cell 6 _ z)) z (ug z z (wY (Y.neq_i z z) z ?_)))))))))
               refine ug z z (wY (Y.pick (b := true) z z) z (WL.ren (v' := vB ((decide (a0.Kind = 3)) && (!decide (a0.Start = a0.Time)))) 73 z (congrArg vB (andT az)) ?_))
               exact nl (At.join () z (.cons z (.cons z (.cons z .nil))))
              ·refine WL.gS z z z z (WL.gS z z z z (WL.gS z z z z (WL.gS z z z z (WL.gS z z z z (ug z z (wY (Y.pick (b := false) z z) z (WL.ren (v' := vB ((decide (a0.Kind = 3)) && (!decide (a0.Start = a0.Time)))) 73 z (congrArg vB (andF az)) ?_)))))))
               exact nl (At.join () z (.cons z (.cons z (.cons z .nil))))
             ·rintro _ _ rfl
              refine (show WL _ _ _ _ _ [(1, pt c 0), (63, vB false), (73, vB ((decide (a0.Kind = 3)) && (!decide (a0.Start = a0.Time))))] _ from ?_)
              refine wY (Y.pick (b := false) z z) z (WL.ren (v' := vB (((decide (a0.Start < 0)) || (decide (4503599627370496 < a0.Time))) || ((decide (a0.Kind = 3)) && (!decide (a0.Start = a0.Time))))) 74 z (congrArg vB (orF ay)) ?_)
              exact nl (At.join () z (.cons z (.cons z .nil)))
           ·rintro _ _ rfl
            refine (show WL _ _ _ _ _ [(1, pt c 0), (74, vB (((decide (a0.Start < 0)) || (decide (4503599627370496 < a0.Time))) || ((decide (a0.Kind = 3)) && (!decide (a0.Start = a0.Time)))))] _ from ?_)
            refine wY (ym z) z ?_
            refine WL.cut 11 (σ := Unit) (fun _ w' => j = w') (fun _ => [(1, pt c 0), (86, vB ((((decide (a0.Start < 0)) || (decide (4503599627370496 < a0.Time))) || ((decide (a0.Kind = 3)) && (!decide (a0.Start = a0.Time)))) || ((!decide (a0.Kind = 3)) && (decide (a0.Time ≤ a0.Start)))))]) ?_ ?_
            ·refine WL.part 75 z (fun aA => ?_) (fun aA => ?_)
             ·refine WL.gS z z z z (WL.gS z z z z (WL.gS z z z z (WL.gS z z z z (WL.gS z z z z (WL.gS z z z z (WL.gS z z z z (WL.gS z z z z (WL.gS z z z z (WL.gS z z z z ?_)))))))))
              refine wY (Y.pick (b := true) z z) z (WL.ren (v' := vB ((((decide (a0.Start < 0)) || (decide (4503599627370496 < a0.Time))) || ((decide (a0.Kind = 3)) && (!decide (a0.Start = a0.Time)))) || ((!decide (a0.Kind = 3)) && (decide (a0.Time ≤ a0.Start))))) 86 z (congrArg vB (orT aA)) ?_)
              exact nl (At.join () z (.cons z (.cons z .nil)))
             ·refine ug z z (wY (yf fo40_2 z) z (ug z z (wY (yl ty3 z z (d.cell 2 _ z)) z (ug z z (wY (Y.neq_i z z) z (ug z z (wY (ym z) z ?_)))))))
              refine WL.cut 6 (σ := Unit) (fun _ w' => j = w') (fun _ => [(1, pt c 0), (75, vB false), (85, vB ((!decide (a0.Kind = 3)) && (decide (a0.Time ≤ a0.Start))))]) ?_ ?_
              ·refine WL.part 79 z (fun aC => ?_) (fun aC => ?_)
               ·refine ug z z (wY (yf fo40_5 z) z (ug z z (wY (yl ty3 z z (d.cell 5 _ z)) z (ug z z (wY (yf fo40_6 z) z (ug z z (wY (yl ty3 z z (d.cell 6 _ z)) z (ug z z (wY (Y.geq_i z z) z ?_)))))))))
                refine ug z z (wY (Y.pick (b := true) z z) z (WL.ren (v' := vB ((!decide (a0.Kind = 3)) && (decide (a0.Time ≤ a0.Start)))) 85 z (congrArg vB (andT aC)) ?_))
                exact nl (At.join () z (.cons z (.cons z (.cons z .nil))))
               ·refine WL.gS z z z z (WL.gS z z z z (WL.gS z z z z (WL.gS z z z z (WL.gS z z z z (ug z z (wY (Y.pick (b := false) z z) z (WL.ren (v' := vB ((!decide (a0.Kind = 3)) && (decide (a0.Time ≤ a0.Start)))) 85 z (congrArg vB (andF aC)) ?_)))))))
                exact nl (At.join () z (.cons z (.cons z (.cons z .nil))))
              ·rintro _ _ rfl
               refine (show WL _ _ _ _ _ [(1, pt c 0), (75, vB false), (85, vB ((!decide (a0.Kind = 3)) && (decide (a0.Time ≤ a0.Start))))] _ from ?_)
               refine wY (Y.pick (b := false) z z) z (WL.ren (v' := vB ((((decide (a0.Start < 0)) || (decide (4503599627370496 < a0.Time))) || ((decide (a0.Kind = 3)) && (!decide (a0.Start = a0.Time)))) || ((!decide (a0.Kind = 3)) && (decide (a0.Time ≤ a0.Start))))) 86 z (congrArg vB (orF aA)) ?_)
               exact nl (At.join () z (.cons z (.cons z .nil)))
            ·rintro _ _ rfl
             refine (show WL _ _ _ _ _ [(1, pt c 0), (86, vB ((((decide (a0.Start < 0)) || (decide (4503599627370496 < a0.Time))) || ((decide (a0.Kind = 3)) && (!decide (a0.Start = a0.Time)))) || ((!decide (a0.Kind = 3)) && (decide (a0.Time ≤ a0.Start)))))] _ from ?_)
             refine nl (th ?_)
             rcases cnd h with ⟨aD, h⟩ | ⟨aD, h⟩
             ·refine WC.condT' z aD (sq (rg (wY (ya z) z (nl (th (rt (At.thenR ?_)))))))
              obtain rfl := some1 h
              have bC : Stp [] (Lg.O0 A) w t j := (tr_ (su_ l z) (su_ m z))
              exact At.res (.inl z) z (.tmp z .nil) ⟨z, (se_ bC z z)⟩
             ·refine WC.condF' z aD (sk (th (sq (sq (rg (wY (yf fo40_2 z) z (wY (yl ty3 z z (d.cell 2 _ z)) z (wY (Y.neq_i z z) z (wY (ym z) z ?_)))))))))
              refine WL.cut 4 (σ := Unit) (fun _ w' => j = w') (fun _ => [(1, pt c 0), (94, vB ((!decide (a0.Kind = 1)) && (!decide (a0.Int_ = 0))))]) ?_ ?_
              ·refine WL.part 90 z (fun aE => ?_) (fun aE => ?_)
               ·refine ug z z (wY (yf fo40_7 z) z (ug z z (wY (yl ty3 z z (d.cell 7 _ z)) z (ug z z (wY (Y.neq_i z z) z (wY (Y.pick (b := true) z z) z (WL.ren (v' := vB ((!decide (a0.Kind = 1)) && (!decide (a0.Int_ = 0)))) 94 z (congrArg vB (andT aE)) ?_)))))))
                exact nl (At.join () z (.cons z (.cons z .nil)))
               ·refine WL.gS z z z z (WL.gS z z z z (WL.gS z z z z (wY (Y.pick (b := false) z z) z (WL.ren (v' := vB ((!decide (a0.Kind = 1)) && (!decide (a0.Int_ = 0)))) 94 z (congrArg vB (andF aE)) ?_))))
                exact nl (At.join () z (.cons z (.cons z .nil)))
              ·rintro _ _ rfl
               refine (show WL _ _ _ _ _ [(1, pt c 0), (94, vB ((!decide (a0.Kind = 1)) && (!decide (a0.Int_ = 0))))] _ from ?_)
               refine wY (ym z) z ?_
               refine WL.cut 9 (σ := Unit) (fun _ w' => j = w') (fun _ => [(1, pt c 0), (104, vB (((!decide (a0.Kind = 1)) && (!decide (a0.Int_ = 0))) || ((!decide (a0.Kind = 5)) && (!decide (a0.Im = 0)))))]) ?_ ?_
               ·refine WL.part 95 z (fun aF => ?_) (fun aF => ?_)
                ·refine WL.gS z z z z (WL.gS z z z z (WL.gS z z z z (WL.gS z z z z (WL.gS z z z z (WL.gS z z z z (WL.gS z z z z (WL.gS z z z z (wY (Y.pick (b := true) z z) z (WL.ren (v' := vB (((!decide (a0.Kind = 1)) && (!decide (a0.Int_ = 0))) || ((!decide (a0.Kind = 5)) && (!decide (a0.Im = 0))))) 104 z (congrArg vB (orT aF)) ?_)))))))))
                 exact nl (At.join () z (.cons z (.cons z .nil)))
                ·refine ug z z (wY (yf fo40_2 z) z (ug z z (wY (yl ty3 z z (d.cell 2 _ z)) z (ug z z (wY (Y.neq_i z z) z (ug z z (wY (ym z) z ?_)))))))
                 refine WL.cut 4 (σ := Unit) (fun _ w' => j = w') (fun _ => [(1, pt c 0), (95, vB false), (103, vB ((!decide (a0.Kind = 5)) && (!decide (a0.Im = 0))))]) ?_ ?_
                 ·refine WL.part 99 z (fun aG => ?_) (fun aG => ?_)
                  ·refine ug z z (wY (yf fo40_9 z) z (ug z z (wY (yl ty33 z z (d.cell 9 _ z)) z (ug z z (wY (Y.neq_u (b := 0) z z) z (ug z z (wY (Y.pick (b := true) z z) z (WL.ren (v' := vB ((!decide (a0.Kind = 5)) && (!decide (a0.Im = 0)))) 103 z (congrArg vB (andT aG)) ?_))))))))
                   exact nl (At.join () z (.cons z (.cons z (.cons z .nil))))
                  ·refine WL.gS z z z z (WL.gS z z z z (WL.gS z z z z (ug z z (wY (Y.pick (b := false) z z) z (WL.ren (v' := vB ((!decide (a0.Kind = 5)) && (!decide (a0.Im = 0)))) 103 z (congrArg vB (andF aG)) ?_)))))
                   exact nl (At.join () z (.cons z (.cons z (.cons z .nil))))
                 ·rintro _ _ rfl
                  refine (show WL _ _ _ _ _ [(1, pt c 0), (95, vB false), (103, vB ((!decide (a0.Kind = 5)) && (!decide (a0.Im = 0))))] _ from ?_)
                  refine wY (Y.pick (b := false) z z) z (WL.ren (v' := vB (((!decide (a0.Kind = 1)) && (!decide (a0.Int_ = 0))) || ((!decide (a0.Kind = 5)) && (!decide (a0.Im = 0))))) 104 z (congrArg vB (orF aF)) ?_)
                  exact nl (At.join () z (.cons z (.cons z .nil)))
               ·rintro _ _ rfl
                refine (show WL _ _ _ _ _ [(1, pt c 0), (104, vB (((!decide (a0.Kind = 1)) && (!decide (a0.Int_ = 0))) || ((!decide (a0.Kind = 5)) && (!decide (a0.Im = 0)))))] _ from ?_)
                refine wY (ym z) z ?_
                obtain ⟨b5, h, bD⟩ := bnd h
                refine WL.cut 10 (σ := (Bool × Own)) (fun x w' => x.1 = b5 ∧ Stp [] t j x.2 w') (fun x => [(1, pt c 0), (115, vB x.1)]) ?_ ?_
                ·rcases cnd h with ⟨aH, h⟩ | ⟨aH, h⟩
                 ·refine WL.ren 105 z (congrArg vB aH) (WL.gS z z z z (WL.gS z z z z (WL.gS z z z z (WL.gS z z z z (WL.gS z z z z (WL.gS z z z z (WL.gS z z z z (WL.gS z z z z (WL.gS z z z z ?_)))))))))
                  refine wY (Y.pick (b := true) z z) z ?_
                  exact nl (At.join (σ := (Bool × Own)) (true, t) ⟨some1 h, (sr_ _ _ _)⟩ (.cons z (.cons z .nil)))
                 ·refine WL.ren 105 z (congrArg vB aH) (ug z z (wY (yf fo40_2 z) z (ug z z (wY (yl ty3 z z (d.cell 2 _ z)) z (ug z z (wY (Y.neq_i z z) z (ug z z (wY (ym z) z ?_))))))))
                  obtain ⟨b6, h, bE⟩ := bnd h
                  refine WL.cut 5 (σ := (Bool × Own)) (fun x w' => x.1 = b6 ∧ Stp [] t j x.2 w') (fun x => [(1, pt c 0), (105, vB false), (114, vB x.1)]) ?_ ?_
                  ·rcases cnd h with ⟨aI, h⟩ | ⟨aI, h⟩
                   ·refine WL.ren 109 z (congrArg vB aI) (ug z z (wY (yf fo40_10 z) z (ug z z (wY (yL ty38 z z (d.cells 10 (hl a0.Hist (vl X Z aa) (vl ab ac ad)) z) z) z (ug z z ?_)))))
                    have bG := (af.i l z z).i m z z
                    have bI := (ah.i l z z).i m z z
                    obtain ⟨b7, bJ, h⟩ := bnd h
                    refine WL.call (vals := [ag (hl a0.Hist (vl X Z aa) (vl ab ac ad))]) kok53 z z (c_ref12_none (A := fun _ => True) (a0 := a0.Hist) (Sl.all bG) (Sl.all bI) bJ) ?_
                    rintro ck cl ⟨rfl, bK⟩
                    obtain ⟨b8, b9, ca, aU⟩ := adoptE t (fun k => 1) bK
                    refine ug z z (wY (Y.not z) z (ug z z (wY (Y.pick (b := true) z z) z ?_)))
                    exact nl (At.join (σ := (Bool × Own)) ((!b7), b8) ⟨some1 h, (su_ aU z)⟩ (.cons z (.cons z (.cons z .nil))))
                   ·refine WL.ren 109 z (congrArg vB aI) (WL.gS z z z z (WL.gS z z z z (WL.gS z z z z (WL.gS z z z z (ug z z (wY (Y.pick (b := false) z z) z ?_))))))
                    exact nl (At.join (σ := (Bool × Own)) (false, t) ⟨some1 h, (sr_ _ _ _)⟩ (.cons z (.cons z (.cons z .nil))))
                  ·rintro ⟨bp, cb⟩ cm ⟨rfl, aO⟩
                   replace h := bE
                   try dsimp only at h aO
                   refine (show WL _ _ _ _ _ [(1, pt c 0), (105, vB false), (114, vB bp)] _ from ?_)
                   refine wY (Y.pick (b := false) z z) z ?_
                   exact nl (At.join (σ := (Bool × Own)) (bp, cb) ⟨some1 h, (su_ aO z)⟩ (.cons z (.cons z .nil)))
                ·rintro ⟨cc, ae⟩ r ⟨rfl, n⟩
                 replace h := bD
                 try dsimp only at h n
                 refine (show WL _ _ _ _ _ [(1, pt c 0), (115, vB cc)] _ from ?_)
                 refine nl (th ?_)
                 rcases cnd h with ⟨aJ, h⟩ | ⟨aJ, h⟩
                 ·refine WC.condT' z aJ (sq (rg (wY (ya z) z (nl (th (rt (At.thenR ?_)))))))
                  obtain rfl := some1 h
                  have bL : Stp [] (Lg.O0 A) w ae r := (tr_ (su_ l z) (tr_ (su_ m z) (su_ n z)))
                  exact At.res (.inl z) z (.tmp z .nil) ⟨z, (se_ bL z z)⟩
                 ·refine WC.condF' z aJ (sk (th (sq (sq (rg (wY (yf fo40_2 z) z ?_))))))
                  have q := d.st n z
                  refine wY (yl ty3 z z (q.cell 2 _ z)) z (wY (Y.eql_i z z) z (wY (ym z) z ?_))
                  refine WL.cut 4 (σ := Unit) (fun _ w' => r = w') (fun _ => [(1, pt c 0), (123, vB ((decide (a0.Kind = 1)) || (decide (a0.Kind = 4))))]) ?_ ?_
                  ·refine WL.part 119 z (fun aK => ?_) (fun aK => ?_)
                   ·refine WL.gS z z z z (WL.gS z z z z (WL.gS z z z z (wY (Y.pick (b := true) z z) z (WL.ren (v' := vB ((decide (a0.Kind = 1)) || (decide (a0.Kind = 4)))) 123 z (congrArg vB (orT aK)) ?_))))
                    exact nl (At.join () z (.cons z (.cons z .nil)))
                   ·refine ug z z (wY (yf fo40_2 z) z (ug z z (wY (yl ty3 z z (q.cell 2 _ z)) z (ug z z (wY (Y.eql_i z z) z (wY (Y.pick (b := false) z z) z (WL.ren (v' := vB ((decide (a0.Kind = 1)) || (decide (a0.Kind = 4)))) 123 z (congrArg vB (orF aK)) ?_)))))))
                    exact nl (At.join () z (.cons z (.cons z .nil)))
                  ·rintro _ _ rfl
                   refine (show WL _ _ _ _ _ [(1, pt c 0), (123, vB ((decide (a0.Kind = 1)) || (decide (a0.Kind = 4))))] _ from ?_)
                   refine wY (ym z) z ?_
                   refine WL.cut 4 (σ := Unit) (fun _ w' => r = w') (fun _ => [(1, pt c 0), (128, vB (((decide (a0.Kind = 1)) || (decide (a0.Kind = 4))) && (!decide (a0.Re = 0))))]) ?_ ?_
                   ·refine WL.part 124 z (fun aL => ?_) (fun aL => ?_)
                    ·refine ug z z (wY (yf fo40_8 z) z (ug z z (wY (yl ty33 z z (q.cell 8 _ z)) z (ug z z (wY (Y.neq_u (b := 0) z z) z (wY (Y.pick (b := true) z z) z (WL.ren (v' := vB (((decide (a0.Kind = 1)) || (decide (a0.Kind = 4))) && (!decide (a0.Re = 0)))) 128 z (congrArg vB (andT aL)) ?_)))))))
                     exact nl (At.join () z (.cons z (.cons z .nil)))
                    ·refine WL.gS z z z z (WL.gS z z z z (WL.gS z z z z (wY (Y.pick (b := false) z z) z (WL.ren (v' := vB (((decide (a0.Kind = 1)) || (decide (a0.Kind = 4))) && (!decide (a0.Re = 0)))) 128 z (congrArg vB (andF aL)) ?_))))
                     exact nl (At.join () z (.cons z (.cons z .nil)))
                   ·rintro _ _ rfl
                    refine (show WL _ _ _ _ _ [(1, pt c 0), (128, vB (((decide (a0.Kind = 1)) || (decide (a0.Kind = 4))) && (!decide (a0.Re = 0))))] _ from ?_)
                    refine wY (ym z) z ?_
                    refine WL.cut 4 (σ := Unit) (fun _ w' => r = w') (fun _ => [(1, pt c 0), (133, vB ((((decide (a0.Kind = 1)) || (decide (a0.Kind = 4))) && (!decide (a0.Re = 0))) || (decide (a0.Flags < 0))))]) ?_ ?_
                    ·refine WL.part 129 z (fun aM => ?_) (fun aM => ?_)
                     ·refine WL.gS z z z z (WL.gS z z z z (WL.gS z z z z (wY (Y.pick (b := true) z z) z (WL.ren (v' := vB ((((decide (a0.Kind = 1)) || (decide (a0.Kind = 4))) && (!decide (a0.Re = 0))) || (decide (a0.Flags < 0)))) 133 z (congrArg vB (orT aM)) ?_))))
                      exact nl (At.join () z (.cons z (.cons z .nil)))
                     ·refine ug z z (wY (yf fo40_11 z) z (ug z z (wY (yl ty3 z z (q.cell 16 _ z)) z (ug z z (wY (Y.lss_i z z) z (wY (Y.pick (b := false) z z) z (WL.ren (v' := vB ((((decide (a0.Kind = 1)) || (decide (a0.Kind = 4))) && (!decide (a0.Re = 0))) || (decide (a0.Flags < 0)))) 133 z (congrArg vB (orF aM)) ?_)))))))
                      exact nl (At.join () z (.cons z (.cons z .nil)))
                    ·rintro _ _ rfl
                     refine (show WL _ _ _ _ _ [(1, pt c 0), (133, vB ((((decide (a0.Kind = 1)) || (decide (a0.Kind = 4))) && (!decide (a0.Re = 0))) || (decide (a0.Flags < 0))))] _ from ?_)
                     refine wY (ym z) z ?_
                     refine WL.cut 4 (σ := Unit) (fun _ w' => r = w') (fun _ => [(1, pt c 0), (138, vB (((((decide (a0.Kind = 1)) || (decide (a0.Kind = 4))) && (!decide (a0.Re = 0))) || (decide (a0.Flags < 0))) || (decide (31 < a0.Flags))))]) ?_ ?_
                     ·refine WL.part 134 z (fun F => ?_) (fun F => ?_)
                      ·refine WL.gS z z z z (WL.gS z z z z (WL.gS z z z z (wY (Y.pick (b := true) z z) z (WL.ren (v' := vB (((((decide (a0.Kind = 1)) || (decide (a0.Kind = 4))) && (!decide (a0.Re = 0))) || (decide (a0.Flags < 0))) || (decide (31 < a0.Flags)))) 138 z (congrArg vB (orT F)) ?_))))
                       exact nl (At.join () z (.cons z (.cons z .nil)))
                      ·refine ug z z (wY (yf fo40_11 z) z (ug z z (wY (yl ty3 z z (q.cell 16 _ z)) z (ug z z (wY (Y.gtr_i z z) z (wY (Y.pick (b := false) z z) z (WL.ren (v' := vB (((((decide (a0.Kind = 1)) || (decide (a0.Kind = 4))) && (!decide (a0.Re = 0))) || (decide (a0.Flags < 0))) || (decide (31 < a0.Flags)))) 138 z (congrArg vB (orF F)) ?_)))))))
                       exact nl (At.join () z (.cons z (.cons z .nil)))
                     ·rintro _ _ rfl
                      refine (show WL _ _ _ _ _ [(1, pt c 0), (138, vB (((((decide (a0.Kind = 1)) || (decide (a0.Kind = 4))) && (!decide (a0.Re = 0))) || (decide (a0.Flags < 0))) || (decide (31 < a0.Flags))))] _ from ?_)
                      refine nl (th ?_)
                      rcases cnd h with ⟨G, h⟩ | ⟨G, h⟩
                      ·refine WC.condT' z G (sq (rg (wY (ya z) z (nl (th (rt (At.thenR ?_)))))))
                       obtain rfl := some1 h
                       have aW : Stp [] (Lg.O0 A) w ae r := (tr_ (su_ l z) (tr_ (su_ m z) (su_ n z)))
                       exact At.res (.inl z) z (.tmp z .nil) ⟨z, (se_ aW z z)⟩
                      ·refine WC.condF' z G (sk (th (sq (sq (rg (wY (yf fo40_4 z) z (wY (yl ty4 z z (q.cell 4 _ z)) z (wY (ym z) z ?_))))))))
                       refine WL.cut 4 (σ := Unit) (fun _ w' => r = w') (fun _ => [(1, pt c 0), (145, vB (a0.Mono && (decide (a0.Kind = 2))))]) ?_ ?_
                       ·refine WL.part 141 z (fun H => ?_) (fun H => ?_)
                        ·refine ug z z (wY (yf fo40_2 z) z (ug z z (wY (yl ty3 z z (q.cell 2 _ z)) z (ug z z (wY (Y.eql_i z z) z (wY (Y.pick (b := true) z z) z (WL.ren (v' := vB (a0.Mono && (decide (a0.Kind = 2)))) 145 z (congrArg vB (andT H)) ?_)))))))
                         exact nl (At.join () z (.cons z (.cons z .nil)))
                        ·refine WL.gS z z z z (WL.gS z z z z (WL.gS z z z z (wY (Y.pick (b := false) z z) z (WL.ren (v' := vB (a0.Mono && (decide (a0.Kind = 2)))) 145 z (congrArg vB (andF H)) ?_))))
                         exact nl (At.join () z (.cons z (.cons z .nil)))
                       ·rintro _ _ rfl
                        refine (show WL _ _ _ _ _ [(1, pt c 0), (145, vB (a0.Mono && (decide (a0.Kind = 2))))] _ from ?_)
                        refine wY (ym z) z ?_
                        obtain ⟨bM, h, aX⟩ := bnd h
                        refine WL.cut 5 (σ := (Bool × Own)) (fun x w' => x.1 = bM ∧ Stp [] ae r x.2 w') (fun x => [(1, pt c 0), (151, vB x.1)]) ?_ ?_
                        ·rcases cnd h with ⟨I, h⟩ | ⟨I, h⟩
                         ·refine WL.ren 146 z (congrArg vB I) (ug z z (wY (yf fo40_8 z) z (ug z z (wY (yl ty33 z z (q.cell 8 _ z)) z (ug z z ?_)))))
                          obtain ⟨bO, aY, h⟩ := bnd h
                          refine WL.call (vals := [vu a0.Re]) kok54 z z (c_ref05_Finite aY) ?_
                          rintro cd ce ⟨rfl, aZ⟩
                          obtain ⟨bP, bW, bX, aR⟩ := adoptE ae (fun k => 1) aZ
                          refine ug z z (wY (Y.not z) z (wY (Y.pick (b := true) z z) z ?_))
                          exact nl (At.join (σ := (Bool × Own)) ((!bO), bP) ⟨some1 h, (su_ aR z)⟩ (.cons z (.cons z .nil)))
                         ·refine WL.ren 146 z (congrArg vB I) (WL.gS z z z z (WL.gS z z z z (WL.gS z z z z (WL.gS z z z z (wY (Y.pick (b := false) z z) z ?_)))))
                          exact nl (At.join (σ := (Bool × Own)) (false, ae) ⟨some1 h, (sr_ _ _ _)⟩ (.cons z (.cons z .nil)))
                        ·rintro ⟨bQ, J⟩ K ⟨rfl, o⟩
                         replace h := aX
                         try dsimp only at h o
                         refine (show WL _ _ _ _ _ [(1, pt c 0), (151, vB bQ)] _ from ?_)
                         refine nl (th ?_)
                         rcases cnd h with ⟨L, h⟩ | ⟨L, h⟩
                         ·refine WC.condT' z L (sq (rg (wY (ya z) z (nl (th (rt (At.thenR ?_)))))))
                          obtain rfl := some1 h
                          have a1 : Stp [] (Lg.O0 A) w J K := (tr_ (su_ l z) (tr_ (su_ m z) (tr_ (su_ n z) (su_ o z))))
                          exact At.res (.inl z) z (.tmp z .nil) ⟨z, (se_ a1 z z)⟩
                         ·refine WC.condF' z L (sk (th (sq (sq (rg (wY (yf fo40_4 z) z ?_))))))
                          have C := q.st o z
                          refine wY (yl ty4 z z (C.cell 4 _ z)) z (wY (ym z) z ?_)
                          refine WL.cut 4 (σ := Unit) (fun _ w' => K = w') (fun _ => [(1, pt c 0), (158, vB (a0.Mono && (decide (a0.Kind = 2))))]) ?_ ?_
                          ·refine WL.part 154 z (fun M => ?_) (fun M => ?_)
                           ·refine ug z z (wY (yf fo40_2 z) z (ug z z (wY (yl ty3 z z (C.cell 2 _ z)) z (ug z z (wY (Y.eql_i z z) z (wY (Y.pick (b := true) z z) z (WL.ren (v' := vB (a0.Mono && (decide (a0.Kind = 2)))) 158 z (congrArg vB (andT M)) ?_)))))))
                            exact nl (At.join () z (.cons z (.cons z .nil)))
                           ·refine WL.gS z z z z (WL.gS z z z z (WL.gS z z z z (wY (Y.pick (b := false) z z) z (WL.ren (v' := vB (a0.Mono && (decide (a0.Kind = 2)))) 158 z (congrArg vB (andF M)) ?_))))
                            exact nl (At.join () z (.cons z (.cons z .nil)))
                          ·rintro _ _ rfl
                           refine (show WL _ _ _ _ _ [(1, pt c 0), (158, vB (a0.Mono && (decide (a0.Kind = 2))))] _ from ?_)
                           refine wY (ym z) z ?_
                           obtain ⟨bR, h, a2⟩ := bnd h
                           refine WL.cut 4 (σ := (Bool × Own)) (fun x w' => x.1 = bR ∧ Stp [] J K x.2 w') (fun x => [(1, pt c 0), (163, vB x.1)]) ?_ ?_
                           ·rcases cnd h with ⟨P, h⟩ | ⟨P, h⟩
                            ·refine WL.ren 159 z (congrArg vB P) (ug z z (wY (yf fo40_8 z) z (ug z z (wY (yl ty33 z z (C.cell 8 _ z)) z (ug z z ?_)))))
                             obtain ⟨bS, a3, h⟩ := bnd h
                             refine WL.call (vals := [vu a0.Re, vu 0]) kok55 z z (c_ref05_Less a3) ?_
                             rintro cf cg ⟨rfl, a4⟩
                             obtain ⟨bT, bY, bZ, aS⟩ := adoptE J (fun k => 1) a4
                             refine wY (Y.pick (b := true) z z) z ?_
                             exact nl (At.join (σ := (Bool × Own)) (bS, bT) ⟨some1 h, (su_ aS z)⟩ (.cons z (.cons z .nil)))
                            ·refine WL.ren 159 z (congrArg vB P) (WL.gS z z z z (WL.gS z z z z (WL.gS z z z z (wY (Y.pick (b := false) z z) z ?_))))
                             exact nl (At.join (σ := (Bool × Own)) (false, J) ⟨some1 h, (sr_ _ _ _)⟩ (.cons z (.cons z .nil)))
                           ·rintro ⟨E, aN⟩ D ⟨rfl, p⟩
                            replace h := a2
                            try dsimp only at h p
                            refine (show WL _ _ _ _ _ [(1, pt c 0), (163, vB E)] _ from ?_)
                            refine wY (ym z) z ?_
                            refine WL.cut 13 (σ := Unit) (fun _ w' => D = w') (fun _ => [(1, pt c 0), (177, vB (E || ((a0.Mono && (decide (a0.Kind = 1))) && (decide (a0.Int_ < 0)))))]) ?_ ?_
                            ·refine WL.part 164 z (fun Q => ?_) (fun Q => ?_)
                             ·refine WL.gS z z z z (WL.gS z z z z (WL.gS z z z z (WL.gS z z z z (WL.gS z z z z (WL.gS z z z z (WL.gS z z z z (WL.gS z z z z (WL.gS z z z z (WL.gS z z z z ?_)))))))))
                              refine WL.gS z z z z (WL.gS z z z z (wY (Y.pick (b := true) z z) z (WL.ren (v' := vB (E || ((a0.Mono && (decide (a0.Kind = 1))) && (decide (a0.Int_ < 0))))) 177 z (congrArg vB (orT Q)) ?_)))
                              exact nl (At.join () z (.cons z (.cons z .nil)))
                             ·refine ug z z (wY (yf fo40_4 z) z (ug z z ?_))
                              have S := C.st p z
                              refine wY (yl ty4 z z (S.cell 4 _ z)) z (ug z z (wY (ym z) z ?_))
                              refine WL.cut 4 (σ := Unit) (fun _ w' => D = w') (fun _ => [(1, pt c 0), (164, vB false), (171, vB (a0.Mono && (decide (a0.Kind = 1))))]) ?_ ?_
                              ·refine WL.part 167 z (fun T => ?_) (fun T => ?_)
                               ·refine ug z z (wY (yf fo40_2 z) z (ug z z (wY (yl ty3 z z (S.cell 2 _ z)) z (ug z z (wY (Y.eql_i z z) z (ug z z (wY (Y.pick (b := true) z z) z (WL.ren (v' := vB (a0.Mono && (decide (a0.Kind = 1)))) 171 z (congrArg vB (andT T)) ?_))))))))
                                exact nl (At.join () z (.cons z (.cons z (.cons z .nil))))
                               ·refine WL.gS z z z z (WL.gS z z z z (WL.gS z z z z (ug z z (wY (Y.pick (b := false) z z) z (WL.ren (v' := vB (a0.Mono && (decide (a0.Kind = 1)))) 171 z (congrArg vB (andF T)) ?_)))))
                                exact nl (At.join () z (.cons z (.cons z (.cons z .nil))))
                              ·rintro _ _ rfl
                               refine (show WL _ _ _ _ _ [(1, pt c 0), (164, vB false), (171, vB (a0.Mono && (decide (a0.Kind = 1))))] _ from ?_)
                               refine ug z z (wY (ym z) z ?_)
                               refine WL.cut 4 (σ := Unit) (fun _ w' => D = w') (fun _ => [(1, pt c 0), (164, vB false), (176, vB ((a0.Mono && (decide (a0.Kind = 1))) && (decide (a0.Int_ < 0))))]) ?_ ?_
                               ·refine WL.part 172 z (fun U => ?_) (fun U => ?_)
                                ·refine ug z z (wY (yf fo40_7 z) z (ug z z (wY (yl ty3 z z (S.cell 7 _ z)) z (ug z z (wY (Y.lss_i z z) z (ug z z (wY (Y.pick (b := true) z z) z (WL.ren (v' := vB ((a0.Mono && (decide (a0.Kind = 1))) && (decide (a0.Int_ < 0)))) 176 z (congrArg vB (andT U)) ?_))))))))
                                 exact nl (At.join () z (.cons z (.cons z (.cons z .nil))))
                                ·refine WL.gS z z z z (WL.gS z z z z (WL.gS z z z z (ug z z (wY (Y.pick (b := false) z z) z (WL.ren (v' := vB ((a0.Mono && (decide (a0.Kind = 1))) && (decide (a0.Int_ < 0)))) 176 z (congrArg vB (andF U)) ?_)))))
                                 exact nl (At.join () z (.cons z (.cons z (.cons z .nil))))
                               ·rintro _ _ rfl
                                refine (show WL _ _ _ _ _ [(1, pt c 0), (164, vB false), (176, vB ((a0.Mono && (decide (a0.Kind = 1))) && (decide (a0.Int_ < 0))))] _ from ?_)
                                refine wY (Y.pick (b := false) z z) z (WL.ren (v' := vB (E || ((a0.Mono && (decide (a0.Kind = 1))) && (decide (a0.Int_ < 0))))) 177 z (congrArg vB (orF Q)) ?_)
                                exact nl (At.join () z (.cons z (.cons z .nil)))
                            ·rintro _ _ rfl
                             refine (show WL _ _ _ _ _ [(1, pt c 0), (177, vB (E || ((a0.Mono && (decide (a0.Kind = 1))) && (decide (a0.Int_ < 0)))))] _ from ?_)
                             refine nl (th ?_)
                             rcases cnd h with ⟨V, h⟩ | ⟨V, h⟩
                             ·refine WC.condT' z V (sq (rg (wY (ya z) z (nl (th (rt (At.thenR ?_)))))))
                              obtain rfl := some1 h
                              have a5 : Stp [] (Lg.O0 A) w aN D := (tr_ (su_ l z) (tr_ (su_ m z) (tr_ (su_ n z) (tr_ (su_ o z) (su_ p z)))))
                              exact At.res (.inl z) z (.tmp z .nil) ⟨z, (se_ a5 z z)⟩
                             ·refine WC.condF' z V (sk (th (sq (sq (rg (wY (yf fo40_2 z) z ?_))))))
                              have aP := C.st p z
                              refine wY (yl ty3 z z (aP.cell 2 _ z)) z (wY (Y.eql_i z z) z (nl (th ?_)))
                              rcases cnd h with ⟨W, h⟩ | ⟨W, h⟩
                              ·refine WC.condT' z W (sq (rg (wY (yf fo40_10 z) z (wY (yL ty38 z z (aP.cells 10 (hl a0.Hist (vl X Z aa) (vl ab ac ad)) z) z) z ?_))))
                               have ba := ((((af.i l z z).i m z z).i n z z).i o z z).i p z z
                               have bg := ((((ah.i l z z).i m z z).i n z z).i o z z).i p z z
                               obtain ⟨cn, bh, h⟩ := bnd h
                               refine WL.call (vals := [ag (hl a0.Hist (vl X Z aa) (vl ab ac ad))]) kok56 z z (c_ref08_Check (A := fun _ => True) (a0 := a0.Hist) (Sl.all ba) (Sl.all bg) bh) ?_
                               rintro ch bi ⟨rfl, bj⟩
                               obtain ⟨bU, b0, b1, aT⟩ := adoptE aN (fun k => 1) bj
                               refine wY (ya z) z (nl (th (rt (At.thenR ?_))))
                               obtain rfl := some1 h
                               have bk : Stp [] (Lg.O0 A) w bU bi := (tr_ (su_ l z) (tr_ (su_ m z) (tr_ (su_ n z) (tr_ (su_ o z) (tr_ (su_ p z) (su_ aT z))))))
                               exact At.res (.inl z) z (.tmp z .nil) ⟨z, (se_ bk z z)⟩
                              ·refine WC.condF' z W (sk (th (sq (rg (wY (ya z) z (nl (th (rt ?_))))))))
                               obtain rfl := some1 h
                               have bl : Stp [] (Lg.O0 A) w aN D := (tr_ (su_ l z) (tr_ (su_ m z) (tr_ (su_ n z) (tr_ (su_ o z) (su_ p z)))))
                               exact At.res (.inl z) z (.tmp z .nil) ⟨z, (se_ bl z z)⟩
theorem c_ref11_Sorted {A : Nat → Prop} {a0 : List api_Pair} {v0 : Value} {w : World} (hs0 : Sl rep_api_Pair w A v0 a0) {r0 : List api_Pair} (h : ref11_Sorted a0 = some r0) : Rets Tryz.prog 30 [v0] w (fun v w' => ∃ (u0 : Value), v = u0 ∧ Ext w w' ∧ RowF rep_api_Pair 67 w w' u0 r0) := by
 unfold ref11_Sorted at h
 refine Rets.enter Tryz.func30 z z ?_
 have bj : Sl rep_api_Pair w (imm (Lg.O0 A)) v0 a0 := (Sl.start hs0)
 refine (show WC _ _ _ _ [(0, v0)] _ from ?_)
 refine sq (rg (wY (ya z) z (nl (th (sq (rg (wY (ya z) z (nl (th ?_)))))))))
 refine sq (sq (rg (wY (ya z) z (nl (th (WC.block ?_))))))
 obtain ⟨bb, h, bk⟩ := flow1 h
 obtain ⟨bc, h⟩ := loop_some h
 refine WC.joinB 0 (σ := (List api_Pair × Own × Value)) (fun x w' => bb = .go x.1 ∧ Stp [11, 1001] (Lg.O0 A) w x.2.1 w' ∧ OwnSl 1002 rep_api_Pair 67 x.2.1 w' x.2.2 x.1) (fun x => [(3, x.2.2)]) ?_ ?_
 ·refine WC.loop (σ := (List api_Pair × Int × Own × Value)) (fun x k w' => loopN k (ref11_Sorted_lp1 a0) (x.1, x.2.1) = some bb ∧ Stp [11, 1001] (Lg.O0 A) w x.2.2.1 w' ∧ OwnSl 1001 rep_api_Pair 67 x.2.2.1 w' x.2.2.2 x.1) (fun x => [(0, v0), (3, x.2.2.2), (4, vi x.2.1)]) ([], 0, (Lg.O0 A), sn) bc (.cons z (.cons z (.cons z .nil))) ⟨h, (sr_ _ _ _), (OwnSl.nil 1001 rep_api_Pair 67)⟩ ?_
  rintro ⟨M, j, P, d⟩ bc I ⟨h, m, p⟩
  obtain ⟨bF, cn, rfl, h, Z⟩ := rnd1 h
  unfold ref11_Sorted_lp1 at h
  try dsimp only at h m p
  refine (show WC _ _ _ _ [(0, v0), (3, d), (4, vi j)] _ from ?_)
  refine sq (sq (rg (wY (ym z) z (wY (ym z) z ?_))))
  have J := bj.i m z z
  refine wY (Y.len ty32 z J) z (wY (Y.lss_i z z) z (nl (th ?_)))
  rcases cnd h with ⟨K, h⟩ | ⟨K, h⟩
  ·refine WC.condT' z K (sk (th (sq (WC.block (sq (rg (wY (ym z) z (wY (Y.len ty32 z p.src.sl) z ?_))))))))
   obtain ⟨bG, bl, h⟩ := lt1 h
   refine WL.yE (ya z) (congrArg vi bl.symm) z (nl (th (sq ?_)))
   obtain ⟨bH, h, bm⟩ := bnd h
   refine WC.join (σ := (Int × Own)) (fun x w' => x.1 = bH ∧ Stp [] P I x.2 w') (fun x => [(0, v0), (3, d), (4, vi j), (5, vi x.1)]) ?_ ?_
   ·refine WC.block ?_
    obtain ⟨bd, h, bn⟩ := flow1 h
    obtain ⟨bf, h⟩ := loop_some h
    refine WC.joinB 2 (σ := (Int × Own)) (fun x w' => bd = .go x.1 ∧ Stp [] P I x.2 w') (fun x => [(0, v0), (3, d), (4, vi j), (5, vi x.1)]) ?_ ?_
    ·refine WC.loop (σ := (Int × Own)) (fun x k w' => loopN k (ref11_Sorted_lp2 a0 M j) x.1 = some bd ∧ Stp [] P I x.2 w') (fun x => [(0, v0), (3, d), (4, vi j), (5, vi x.1)]) (bG, P) bf (.cons z (.cons z (.cons z (.cons z .nil)))) ⟨h, (sr_ _ _ _)⟩ ?_
     rintro ⟨Q, S⟩ bf b5 ⟨h, l⟩
     obtain ⟨bI, co, rfl, h, aa⟩ := rnd1 h
     unfold ref11_Sorted_lp2 at h
     try dsimp only at h l
     refine (show WC _ _ _ _ [(0, v0), (3, d), (4, vi j), (5, vi Q)] _ from ?_)
     refine sq (sq (WC.drawH [] [0, 1, 2, 3, 4, 5, 6, 7, 8, 9, 10, 11, 12, 13, 14, 15] S 16 fmix z (by kernel_rfl) ?_))
     intro bo n
     refine WD.y 0 z (by kernel_rfl) (fun _ _ _ => ym z) z (WD.y 1 z (by kernel_rfl) (fun _ _ _ => Y.gtr_i z z) z (WD.y 2 z (by kernel_rfl) (fun _ _ _ => ym z) z ?_))
     obtain ⟨bJ, h, bp⟩ := bnd h
     refine WD.join (σ := Bool) (f' := 0) [15, 14, 13, 12, 11, 10, 9, 8, 7, 6, 5, 4, 3, 2, 1, 0] (fun x O' w' => x = bJ ∧ bo = w' ∧ S = O') (fun x => [(0, v0), (3, d), (4, vi j), (5, vi Q), (30, vB x)]) (fun ab => ?_) ?_
     ·rcases cnd h with ⟨q, h⟩ | ⟨q, h⟩
      ·refine WD.ren 17 z (congrArg vB q) (WD.gT 3 z (by kernel_rfl) z z (fun _ _ _ => ym z) z (WD.gT 4 z (by kernel_rfl) z z (fun _ _ _ => ym z) z (WD.gT 5 z (by kernel_rfl) z z (fun _ _ _ => Y.sub_i z z) z ?_)))
       obtain ⟨T, bq, h⟩ := bnd h
       have ac := (p.st l z z z).st n z z z
       obtain ⟨cq, bT, b6, ad, bs, bt, L, ar⟩ := OwnSl.at ac bq
       obtain ⟨_, _, rfl, rfl, rfl⟩ := ar
       replace L : CellsAt _ _ _ [vs T.Key, vs T.Val] := L
       have au := CAt.own ac ad L
       refine WD.gT 6 z (by kernel_rfl) z z (fun _ _ _ => Y.indexAddr ty32 ty67 z ad z bs bt) z (WD.gT 7 z (by kernel_rfl) z z (fun _ _ _ => yf fo67_0 z) z (WD.gT 8 z (by kernel_rfl) z z (fun b7 cr av => have ax := au.st av z; yl ty9 z z (ax.at_.sub 0 [vs T.Key] z)) z (WD.gT 9 z (by kernel_rfl) z z (fun _ _ _ => ym z) z (WD.gT 10 z (by kernel_rfl) z z (fun _ _ _ => ym z) z ?_))))
       obtain ⟨C, ay, h⟩ := bnd h
       have aA := (J.i l z z).i n z z
       obtain ⟨b8, bK, bL, bU, aC, aD, aE, D, ae, aF⟩ := Sl.at2 aA ay
       obtain ⟨_, _, rfl, rfl, rfl⟩ := ae
       replace D : CellsAt _ _ _ [vs C.Key, vs C.Val] := D
       have af := CAt.imm D aF
       refine WD.gT 11 z (by kernel_rfl) z z (fun _ _ _ => Y.indexAddr ty32 ty67 z aC z aD aE) z (WD.gT 12 z (by kernel_rfl) z z (fun _ _ _ => yf fo67_0 z) z (WD.gT 13 z (by kernel_rfl) z z (fun bW b9 ah => have aG := af.st ah z; yl ty9 z z (aG.at_.sub 0 [vs C.Key] z)) z (WD.gT 14 z (by kernel_rfl) z z (fun _ _ _ => Y.gtr_s z z) z (WD.y 15 z (by kernel_rfl) (fun _ _ _ => Y.pick (b := true) z z) z (WD.ren 17 z (congrArg vB q.symm) ?_)))))
       exact ab (sLess C.Key T.Key) _ _ _ ⟨some1 h, z, z⟩ (.cons z (.cons z (.cons z (.cons z (.cons z .nil)))))
      ·refine WD.ren 17 z (congrArg vB q) (WD.gS 3 z (by kernel_rfl) z z z z (WD.gS 4 z (by kernel_rfl) z z z z (WD.gS 5 z (by kernel_rfl) z z z z (WD.gS 6 z (by kernel_rfl) z z z z (WD.gS 7 z (by kernel_rfl) z z z z (WD.gS 8 z (by kernel_rfl) z z z z (WD.gS 9 z (by kernel_rfl) z z z z (WD.gS 10 z (by kernel_rfl) z z z z (WD.gS 11 z (by kernel_rfl) z z z z ?_)))))))))
       refine WD.gS 12 z (by kernel_rfl) z z z z (WD.gS 13 z (by kernel_rfl) z z z z (WD.gS 14 z (by kernel_rfl) z z z z (WD.y 15 z (by kernel_rfl) (fun _ _ _ => Y.pick (b := false) z z) z (WD.ren 17 z (congrArg vB q.symm) ?_))))
       exact ab false _ _ _ ⟨some1 h, z, z⟩ (.cons z (.cons z (.cons z (.cons z (.cons z .nil)))))
     ·rintro bM _ _ ⟨rfl, rfl, rfl⟩
      replace h := bp
      try dsimp only at h
      refine (show WD _ _ _ _ _ _ _ _ [(0, v0), (3, d), (4, vi j), (5, vi Q), (30, vB bM)] _ _ from ?_)
      refine WD.done_ (by kernel_rfl) (th ?_)
      rcases cnd h with ⟨E, h⟩ | ⟨E, h⟩
      ·refine WC.condT' z E (sk (th (WC.block (rg (wY (ym z) z (wY (Y.sub_i z z) z ?_))))))
       obtain ⟨bu, aH, h⟩ := lt1 h
       refine WL.yE (ya z) (congrArg vi aH.symm) z (nl (At.inBlock ?_))
       exact At.round (bu, S) bI (Nat.lt_succ_self _) ⟨next1 h aa, (tr_ (su_ l z) (su_ n z))⟩ (.cons z (.cons z (.cons z (.cons z .nil))))
      ·refine WC.condF' z E (WC.exit (At.thenX (At.loopX ?_)))
       exact At.hitB (σ := (Int × Own)) (Q, S) ⟨brk1 h aa, (tr_ (su_ l z) (su_ n z))⟩ (.cons z (.cons z (.cons z (.cons z .nil))))
    ·rintro ⟨bg, bO⟩ ca ⟨rfl, U⟩
     replace h := flowK_go bn
     try dsimp only at h U
     refine (show At _ _ _ [(0, v0), (3, d), (4, vi j), (5, vi bg)] _ from ?_)
     refine At.inBlockHit ?_
     exact At.join (σ := (Int × Own)) (bg, bO) ⟨some1 h, (su_ U z)⟩ (.cons z (.cons z (.cons z (.cons z .nil))))
   ·rintro ⟨bh, bP⟩ bw ⟨rfl, o⟩
    replace h := bm
    try dsimp only at h o
    refine (show At _ _ _ [(0, v0), (3, d), (4, vi j), (5, vi bh)] _ from ?_)
    refine th (sq (rg (wY (ya z) z (nl (th (sq (rg (wY (ym z) z (wY (ym z) z ?_)))))))))
    refine wY (ym z) z ?_
    obtain ⟨cb, aI, h⟩ := bnd h
    have V := p.st o z z z
    refine WL.sliceOwn ty32 ty67 z z z V aI z ?_
    intro cc aJ
    obtain ⟨bX, ai, h⟩ := bnd h
    have aK := OwnSl.nil (O := bP) (w := bw) 11 rep_api_Pair 67
    refine WL.append (by decide) ty32 ty67 z (by decide) z z aK aJ.src ai z ?_
    intro cd bx bY r aL
    refine wY (ya z) z (nl (th (sq (rg (wY (ym z) z (wY (ym z) z (wY (ym z) z ?_)))))))
    obtain ⟨c, aM, h⟩ := bnd h
    have aO := (J.i o z z).i r z z
    obtain ⟨ce, bQ, bR, bZ, aP, aQ, aR, F, aj, aS⟩ := Sl.at2 aO aM
    obtain ⟨_, _, rfl, rfl, rfl⟩ := aj
    replace F : CellsAt _ _ _ [vs c.Key, vs c.Val] := F
    have ak := CAt.imm F aS
    refine wY (Y.indexAddr ty32 ty67 z aP z aQ aR) z (wY (yL ty67 z z ak.at_ z) z (WL.buildSlice (O := bx) (R := rep_api_Pair) (vals := [(0, ag [vs c.Key, vs c.Val])]) 12 [vs c.Key, vs c.Val] (xs := [c]) (by decide) ty32 ty67 (by decide) (by decide) (fe_ z) (by kernel_rfl) z ⟨[vs c.Key, vs c.Val], [], z, ⟨[vs c.Key], [vs c.Val], z, z, z⟩, z⟩ z ?_))
    intro cf cg b0 t aT
    obtain ⟨b1, al, h⟩ := bnd h
    have aU := aL.st t z z z
    refine WL.append (by decide) ty32 ty67 z (by decide) z z aU aT.src al z ?_
    intro ch ci b2 G aW
    refine wY (ya z) z (nl (th (rg (wY (ym z) z (wY (ym z) z (wY (ym z) z ?_))))))
    obtain ⟨cj, aX, h⟩ := bnd h
    have a1 := ((V.st r z z z).st t z z z).st G z z z
    obtain ⟨ck, H, a2⟩ := OwnSl.giveF rfl flat_api_Pair a1
    obtain ⟨cl, a3, a4⟩ := Sl.slice (ρ := [(46, d), (47, vi bh)]) (x := (.tmp 46)) (lo := (some (.tmp 47))) (hi := none) ty32 ty67 rfl rfl rfl a2 aX
    refine wY (Y.sub (.cons z (.cons z .nil)) (a3 _ _)) z ?_
    obtain ⟨a5, am, h⟩ := bnd h
    have a6 := aW.st H z z z
    refine WL.append (by decide) ty32 ty67 z (by decide) z z a6 (Sl.src (Sl.mono a4 frs_imm)) am z ?_
    intro bz cm b3 an a7
    refine wY (ya z) z (nl (At.inBlock (th (rg (wY (ym z) z (wY (Y.add_i z z) z ?_))))))
    obtain ⟨bA, a8, h⟩ := lt1 h
    refine WL.yE (ya z) (congrArg vi a8.symm) z (nl ?_)
    obtain ⟨bB, ao, a9⟩ := OwnSl.rlb 1001 rfl a7
    exact At.round (a5, bA, bB, bz) bF (Nat.lt_succ_self _) ⟨next1 h Z, (tr_ (su_ m z) (tr_ (su_ o z) (tr_ (su_ r z) (tr_ (su_ t z) (tr_ (su_ G z) (tr_ (su_ H z) (tr_ (su_ an z) (su_ ao z)))))))), a9⟩ (.cons z (.cons z (.cons z .nil)))
  ·refine WC.condF' z K (WC.exit (At.thenX (At.loopX ?_)))
   obtain ⟨bC, ap, ba⟩ := OwnSl.rlb 1002 rfl p
   exact At.hitB (σ := (List api_Pair × Own × Value)) (M, bC, d) ⟨brk1 h Z, (tr_ (su_ m z) (su_ ap z)), ba⟩ (.cons z .nil)
 ·rintro ⟨b4, bS, bi⟩ bD ⟨rfl, W, aq⟩
  replace h := flowK_go bk
  try dsimp only at h W aq
  refine (show At _ _ _ [(3, bi)] _ from ?_)
  refine At.inBlockHit (th (sq (rg (wY (ym z) z (wY (ya z) z (nl (th (rt ?_))))))))
  obtain rfl := some1 h
  have X : Stp [11, 1001] (Lg.O0 A) w bS bD := (su_ W z)
  exact At.res (.inl z) z (.tmp z .nil) ⟨bi, z, (se_ X z z), (OwnSl.outF aq X low0 z)⟩
theorem c_ref11_Text {A : Nat → Prop} {a0 : List UInt8} {a1 : List api_Pair} {v1 : Value} {w : World} (hs1 : Sl rep_api_Pair w A v1 a1) {r0 : List UInt8} {r1 : Int} (h : ref11_Text a0 a1 = some (r0, r1)) : Rets Tryz.prog 98 [vs a0, v1] w (fun v w' => v = tp [vs r0, vi r1] ∧ Ext w w') := by
 unfold ref11_Text at h
 refine Rets.enter Tryz.func98 z z ?_
 have D : Sl rep_api_Pair w (imm (Lg.O0 A)) v1 a1 := (Sl.start hs1)
 refine (show WC _ _ _ _ [(0, vs a0), (1, v1)] _ from ?_)
 refine sq (rg (wY (ya (v := vs []) z) z (wY (ya z) z (nl (th (sq (sq (rg (wY (ym z) z ?_)))))))))
 refine wY (ym z) z ?_
 obtain ⟨aS, aa, h⟩ := bnd h
 refine WL.call (vals := [vs a0, v1]) kok52 z z (c_ref11_Check (A := fun _ => True) (Sl.all D) aa) ?_
 rintro aN ab ⟨rfl, ac⟩
 obtain ⟨U, aA, aC, d⟩ := adoptE (Lg.O0 A) (fun k => 1) ac
 refine wY (ya z) z (nl (th (sq (rg (wY (ym z) z (wY (Y.neq_i z z) z (nl (th ?_))))))))
 rcases cnd h with ⟨m, h⟩ | ⟨m, h⟩
 ·refine WC.condT' z m (sq (rg (wY (ym z) z (wY (ya (v := vs []) z) z (wY (ya z) z (nl (th (rt (At.thenR ?_)))))))))
  obtain ⟨rfl, rfl⟩ := tup2 h
  have ad : Stp [] (Lg.O0 A) w U ab := (su_ d z)
  exact At.res (.inl z) z (.tmp z (.tmp z .nil)) ⟨z, (se_ ad z z)⟩
 ·refine WC.condF' z m (sk (th (sq (rg (wY (ym z) z ?_)))))
  have ae := D.i d z z
  obtain ⟨V, af, h⟩ := bnd h
  refine WL.call (vals := [v1]) kok30 z z (c_ref11_Sorted (A := fun _ => True) (Sl.all ae) af) ?_
  rintro j n ⟨_, rfl, ah, aD⟩
  obtain ⟨r, aE, E, M⟩ := adoptE U (fun k => if ob j = some k then 11 else 1) ah
  have ai : OwnSl 11 rep_api_Pair 67 r n j V := RowF.adopt 11 flat_api_Pair aD E (fun k hk => if_pos hk)
  refine wY (ya z) z (nl (th (sq (rg (wY (ym z) z (wY (ya z) z (nl (th (sq ?_)))))))))
  refine sq (rg (wY (ya z) z (nl (th (WC.block ?_)))))
  obtain ⟨W, h, aj⟩ := flow1 h
  obtain ⟨X, h⟩ := loop_some h
  refine WC.joinB 0 (σ := (List UInt8 × Own)) (fun x w' => W = .go x.1 ∧ Stp [] r n x.2 w') (fun x => [(8, vs x.1)]) ?_ ?_
  ·refine WC.loop (σ := (List UInt8 × Int × Own)) (fun x k w' => loopN k (ref11_Text_lp1 V) (x.1, x.2.1) = some W ∧ Stp [] r n x.2.2 w') (fun x => [(7, j), (8, vs x.1), (9, vi x.2.1)]) (a0, 0, r) X (.cons z (.cons z (.cons z .nil))) ⟨h, (sr_ _ _ _)⟩ ?_
   rintro ⟨Z, aF, F⟩ X aO ⟨h, c⟩
   obtain ⟨aG, aT, rfl, h, G⟩ := rnd1 h
   unfold ref11_Text_lp1 at h
   try dsimp only at h c
   refine (show WC _ _ _ _ [(7, j), (8, vs Z), (9, vi aF)] _ from ?_)
   refine sq (sq (rg (wY (ym z) z (wY (ym z) z ?_))))
   have H := ai.st c z z z
   refine wY (Y.len ty32 z H.src.sl) z (wY (Y.lss_i z z) z (nl (th ?_)))
   rcases cnd h with ⟨o, h⟩ | ⟨o, h⟩
   ·refine WC.condT' z o (sk (th (sq (WC.block (WC.draw 15 F fmix (by kernel_rfl) ?_)))))
    intro aP t
    refine WS.y (ym z) z ?_
    obtain ⟨aU, ak, h⟩ := bnd h
    refine WS.y (Y.add_s (b := [59]) ak z z) z (WS.y (ym z) z (WS.y (ym z) z ?_))
    obtain ⟨I, al, h⟩ := bnd h
    have l := H.st t z z z
    obtain ⟨aW, aL, aQ, J, am, an, p, P⟩ := OwnSl.at l al
    obtain ⟨_, _, rfl, rfl, rfl⟩ := P
    replace p : CellsAt _ _ _ [vs I.Key, vs I.Val] := p
    have Q := CAt.own l J p
    refine WS.y (Y.indexAddr ty32 ty67 z J z am an) z (WS.y (yf fo67_0 z) z (WS.y (yl ty9 z z (Q.at_.sub 0 [vs I.Key] z)) z ?_))
    obtain ⟨aX, ao, h⟩ := bnd h
    refine WS.y (Y.add_s ao z z) z ?_
    obtain ⟨aY, ap, h⟩ := bnd h
    refine WS.y (Y.add_s (b := [61]) ap z z) z (WS.y (ym z) z (WS.y (ym z) z ?_))
    obtain ⟨K, aq, h⟩ := bnd h
    obtain ⟨aZ, aM, aR, L, ar, au, q, S⟩ := OwnSl.at l aq
    obtain ⟨_, _, rfl, rfl, rfl⟩ := S
    replace q : CellsAt _ _ _ [vs K.Key, vs K.Val] := q
    have T := CAt.own l L q
    refine WS.y (Y.indexAddr ty32 ty67 z L z ar au) z (WS.y (yf fo67_1 z) z (WS.y (yl ty9 z z (T.at_.sub 1 [vs K.Val] z)) z ?_))
    obtain ⟨aH, av, h⟩ := bnd h
    refine WS.y (Y.add_s av z z) z (WS.tail (wY (ya z) z (nl (At.inBlock (th (rg (wY (ym z) z (wY (Y.add_i z z) z ?_))))))))
    obtain ⟨aI, ax, h⟩ := lt1 h
    refine WL.yE (ya z) (congrArg vi ax.symm) z (nl ?_)
    exact At.round (aH, aI, F) aG (Nat.lt_succ_self _) ⟨next1 h G, (tr_ (su_ c z) (su_ t z))⟩ (.cons z (.cons z (.cons z .nil)))
   ·refine WC.condF' z o (WC.exit (At.thenX (At.loopX ?_)))
    exact At.hitB (σ := (List UInt8 × Own)) (Z, F) ⟨brk1 h G, (su_ c z)⟩ (.cons z .nil)
  ·rintro ⟨aJ, aK⟩ ay ⟨rfl, C⟩
   replace h := flowK_go aj
   try dsimp only at h C
   refine (show At _ _ _ [(8, vs aJ)] _ from ?_)
   refine At.inBlockHit (th (sq (rg (wY (ym z) z (wY (ya z) z (wY (ya z) z (nl (th (rt ?_)))))))))
   obtain ⟨rfl, rfl⟩ := tup2 h
   have az : Stp [] (Lg.O0 A) w aK ay := (tr_ (su_ d z) (tr_ (su_ M z) (su_ C z)))
   exact At.res (.inl z) z (.tmp z (.tmp z .nil)) ⟨z, (se_ az z z)⟩
theorem c_ref12_digit {a0 : Int} {w : World} {r0 : List UInt8} (h : ref12_digit a0 = some r0) : Rets Tryz.prog 99 [vi a0] w (fun v w' => v = vs r0 ∧ Ext w w') := by
 unfold ref12_digit at h
 refine Rets.enter Tryz.func99 z z ?_
 refine (show WC _ _ _ _ [(0, vi a0)] _ from ?_)
 refine sq (rg (wY (ya (v := vs []) z) z (nl (th (sq (rg (wY (ym z) z (wY (Y.add_i z z) z (wY (Y.conv_ib ty3.u ty5.u z) z ?_)))))))))
 refine WL.buildSlice (O := (Lg.O0 (fun _ => False))) (R := Rep.b) (vals := [(0, vb (toU8 (w64 (48 + a0))))]) 11 [vb (toU8 (w64 (48 + a0)))] (xs := [toU8 (w64 (48 + a0))]) (by decide) ty51 ty5 (by decide) (by decide) (fe_ z) (by kernel_rfl) z ⟨[vb (toU8 (w64 (48 + a0)))], [], z, z, z⟩ z ?_
 intro o n d c j
 refine wY (Y.b2s ty51 ty5 ty9 z j.src.sl) z ?_
 obtain ⟨p, l, h⟩ := lt1 h
 refine WL.yE (ya z) (congrArg vs l.symm) z (nl (th (rt ?_)))
 obtain rfl := some1 h
 have m : Stp [] (Lg.O0 (fun _ => False)) w n d := (su_ c z)
 exact At.res (.inl z) z (.tmp z .nil) ⟨z, (se_ m z z)⟩
theorem c_ref12_one {a0 : Bool} {w : World} {r0 : Int} (h : ref12_one a0 = some r0) : Rets Tryz.prog 100 [vB a0] w (fun v w' => v = vi r0 ∧ Ext w w') := by
 unfold ref12_one at h
 refine Rets.enter Tryz.func100 z z ?_
 refine (show WC _ _ _ _ [(0, vB a0)] _ from ?_)
 refine sq (rg (wY (ya z) z (nl (th (sq (sq (rg (wY (ym z) z (nl ?_)))))))))
 refine th ?_
 rcases cnd h with ⟨c, h⟩ | ⟨c, h⟩
 ·refine WC.condT' z c (sq (rg (wY (ya z) z (nl (th (rt (At.thenR ?_)))))))
  obtain rfl := some1 h
  have d : Stp [] (Lg.O0 (fun _ => False)) w (Lg.O0 (fun _ => False)) w := (sr_ _ _ _)
  exact At.res (.inl z) z (.tmp z .nil) ⟨z, (se_ d z z)⟩
 ·refine WC.condF' z c (sk (th (sq (rg (wY (ya z) z (nl (th (rt ?_))))))))
  obtain rfl := some1 h
  have j : Stp [] (Lg.O0 (fun _ => False)) w (Lg.O0 (fun _ => False)) w := (sr_ _ _ _)
  exact At.res (.inl z) z (.tmp z .nil) ⟨z, (se_ j z z)⟩
theorem c_ref12_Key {A : Nat → Prop} {v0_1 : Value} {v0_13 : Value} {v0_15 : Value} {a0 : api_Point} {w : World} (hs0_1 : Sl rep_api_Pair w A v0_1 a0.Attrs) (hs0_13 : Sl Rep.u w A v0_13 a0.Hist.Pos.Counts) (hs0_15 : Sl Rep.u w A v0_15 a0.Hist.Neg.Counts) {r0 : List UInt8} {r1 : Int} (h : ref12_Key a0 = some (r0, r1)) : Rets Tryz.prog 57 [ag (cp a0 v0_1 v0_13 v0_15)] w (fun v w' => v = tp [vs r0, vi r1] ∧ Ext w w') := by
 unfold ref12_Key at h
 refine Rets.enter Tryz.func57 z z ?_
 have E : Sl rep_api_Pair w (imm (Lg.O0 A)) v0_1 a0.Attrs := (Sl.start hs0_1)
 have F : Sl Rep.u w (imm (Lg.O0 A)) v0_13 a0.Hist.Pos.Counts := (Sl.start hs0_13)
 have G : Sl Rep.u w (imm (Lg.O0 A)) v0_15 a0.Hist.Neg.Counts := (Sl.start hs0_15)
 refine (show WC _ _ _ _ [(0, ag (cp a0 v0_1 v0_13 v0_15))] _ from ?_)
 refine sq (rg ?_)
 have ak := h
 obtain ⟨t, C, D, rfl⟩ := E.shape
 have h := ak
 have al := h
 obtain ⟨H, I, J, rfl⟩ := F.shape
 have h := al
 have am := h
 obtain ⟨K, L, M, rfl⟩ := G.shape
 have h := am
 refine WL.box (O := (Lg.O0 A)) 11 (cp a0 (vl t C D) (vl H I J) (vl K L M)) z z z ?_
 intro br aY bb c P
 refine wY (ya (v := vs []) z) z (wY (ya z) z (nl (th (sq (sq (rg (wY (yL ty40 z z (P.cells 0 (cp a0 (vl t C D) (vl H I J) (vl K L M)) z) z) z ?_)))))))
 have Q := E.i c z z
 have an := F.i c z z
 have ao := G.i c z z
 obtain ⟨bs, ap, h⟩ := bnd h
 refine WL.call (vals := [ag (cp a0 (vl t C D) (vl H I J) (vl K L M))]) kok24 z z (c_ref12_Check (A := fun _ => True) (a0 := a0) (Sl.all Q) (Sl.all an) (Sl.all ao) ap) ?_
 rintro bc aq ⟨rfl, ar⟩
 obtain ⟨ai, aZ, a1, d⟩ := adoptE aY (fun k => 1) ar
 refine wY (ya z) z (nl (th (sq (rg (wY (ym z) z (wY (Y.neq_i z z) z (nl (th ?_))))))))
 rcases cnd h with ⟨r, h⟩ | ⟨r, h⟩
 ·refine WC.condT' z r (sq (rg (wY (ym z) z (wY (ya (v := vs []) z) z (wY (ya z) z (nl (th (rt (At.thenR ?_)))))))))
  obtain ⟨rfl, rfl⟩ := tup2 h
  have au : Stp [] (Lg.O0 A) w ai aq := (tr_ (su_ c z) (su_ d z))
  exact At.res (.inl z) z (.tmp z (.tmp z .nil)) ⟨z, (se_ au z z)⟩
 ·refine WC.condF' z r (sk (th (sq (rg (wY (yf fo40_0 z) z ?_)))))
  have m := P.st d z
  refine wY (yl ty9 z z (m.cell 0 _ z)) z (wY (yf fo40_1 z) z (wY (yl ty32 z z (m.cell 1 _ z)) z ?_))
  have av := Q.i d z z
  obtain ⟨⟨bt, bu⟩, ax, h⟩ := bnd h
  refine WL.call (vals := [vs a0.Name, (vl t C D)]) kok98 z z (c_ref11_Text (A := fun _ => True) (Sl.all av) ax) ?_
  rintro bd bf ⟨rfl, ay⟩
  obtain ⟨aj, a2, a3, j⟩ := adoptE ai (fun k => 1) ay
  refine wY (ym z) z (wY (yx z z) z (wY (yx z z) z (wY (ya z) z (wY (ya z) z (nl (th (sq (WC.drawH [] [0, 1, 2, 3, 4, 5, 6, 7, 8, 9, 10, 11, 12, 13, 14, 15, 16] aj 17 fmix z (by kernel_rfl) ?_))))))))
  intro bg l
  refine WD.y 0 z (by kernel_rfl) (fun _ _ _ => ym z) z ?_
  obtain ⟨bw, az, h⟩ := bnd h
  refine WD.y 1 z (by kernel_rfl) (fun _ _ _ => Y.add_s (b := [32]) az z z) z (WD.y 2 z (by kernel_rfl) (fun _ _ _ => yf fo40_2 z) z (WD.y 3 z (by kernel_rfl) (fun bh bx S => have aA := m.st j z; have aC := aA.st l z; have aD := aC.st S z; yl ty3 z z (aD.cell 2 _ z)) z (WD.y 6 z (by kernel_rfl) (fun _ _ _ => yf fo40_3 z) z (WD.y 7 z (by kernel_rfl) (fun bi bz T => have aE := m.st j z; have aF := aE.st l z; have aG := aF.st T z; yl ty3 z z (aG.cell 3 _ z)) z (WD.y 10 z (by kernel_rfl) (fun _ _ _ => yf fo40_4 z) z (WD.y 11 z (by kernel_rfl) (fun bj bA U => have aH := m.st j z; have aI := aH.st l z; have aJ := aI.st U z; yl ty4 z z (aJ.cell 4 _ z)) z (WD.heavy 4 z (by kernel_rfl) ?_)))))))
  obtain ⟨bB, aK, h⟩ := bnd h
  refine WL.call (vals := [vi a0.Kind]) kok99 z z (c_ref12_digit aK) ?_
  rintro bk bl ⟨rfl, aL⟩
  obtain ⟨a4, a5, aQ, n⟩ := adoptE aj (fun k => 1) aL
  refine nl (At.dq (su_ n z) ?_)
  obtain ⟨bm, V, h⟩ := bnd h
  refine WD.y 5 z (by kernel_rfl) (fun _ _ _ => Y.add_s V z z) z (WD.heavy 8 z (by kernel_rfl) ?_)
  obtain ⟨bn, W, h⟩ := bnd h
  refine WL.call (vals := [vi a0.Temp]) kok99 z z (c_ref12_digit W) ?_
  rintro a6 a7 ⟨rfl, X⟩
  obtain ⟨aM, aR, aS, o⟩ := adoptE a4 (fun k => 1) X
  refine nl (At.dq (su_ o z) ?_)
  obtain ⟨bo, Z, h⟩ := bnd h
  refine WD.y 9 z (by kernel_rfl) (fun _ _ _ => Y.add_s Z z z) z (WD.heavy 12 z (by kernel_rfl) ?_)
  obtain ⟨aN, aa, h⟩ := bnd h
  refine WL.call (vals := [vB a0.Mono]) kok100 z z (c_ref12_one aa) ?_
  rintro a8 a9 ⟨rfl, ab⟩
  obtain ⟨aO, aT, aU, p⟩ := adoptE aM (fun k => 1) ab
  refine nl (At.dq (su_ p z) (WD.heavy 13 z (by kernel_rfl) ?_))
  obtain ⟨bp, ac, h⟩ := bnd h
  refine WL.call (vals := [vi aN]) kok99 z z (c_ref12_digit ac) ?_
  rintro ba ad ⟨rfl, ae⟩
  obtain ⟨aP, aW, aX, q⟩ := adoptE aO (fun k => 1) ae
  refine nl (At.dq (su_ q z) ?_)
  obtain ⟨bq, af, h⟩ := bnd h
  refine WD.y 14 z (by kernel_rfl) (fun _ _ _ => Y.add_s af z z) z (WD.y 15 z (by kernel_rfl) (fun _ _ _ => ya z) z (WD.y 16 z (by kernel_rfl) (fun _ _ _ => ya z) z (WD.done_ (by kernel_rfl) (th (rt ?_)))))
  obtain ⟨rfl, rfl⟩ := tup2 h
  have ah : Stp [] (Lg.O0 A) w aP ad := (tr_ (su_ c z) (tr_ (su_ d z) (tr_ (su_ j z) (tr_ (su_ l z) (tr_ (su_ n z) (tr_ (su_ o z) (tr_ (su_ p z) (su_ q z))))))))
  exact At.res (.inl z) z (.tmp z (.tmp z .nil)) ⟨z, (se_ ah z z)⟩
theorem c_ref36_behind {A : Nat → Prop} {v0_1 : Value} {v0_13 : Value} {v0_15 : Value} {a0 : api_Point} {v1_1 : Value} {v1_13 : Value} {v1_15 : Value} {a1 : api_Point} {w : World} (hs0_1 : Sl rep_api_Pair w A v0_1 a0.Attrs) (hs0_13 : Sl Rep.u w A v0_13 a0.Hist.Pos.Counts) (hs0_15 : Sl Rep.u w A v0_15 a0.Hist.Neg.Counts) (hs1_1 : Sl rep_api_Pair w A v1_1 a1.Attrs) (hs1_13 : Sl Rep.u w A v1_13 a1.Hist.Pos.Counts) (hs1_15 : Sl Rep.u w A v1_15 a1.Hist.Neg.Counts) {r0 : Int} (h : ref36_behind a0 a1 = some r0) : Rets Tryz.prog 25 [ag (cp a0 v0_1 v0_13 v0_15), ag (cp a1 v1_1 v1_13 v1_15)] w (fun v w' => v = vi r0 ∧ Ext w w') := by
 unfold ref36_behind at h
 refine Rets.enter Tryz.func25 z z ?_
 have C : Sl rep_api_Pair w (imm (Lg.O0 A)) v0_1 a0.Attrs := (Sl.start hs0_1)
 have D : Sl Rep.u w (imm (Lg.O0 A)) v0_13 a0.Hist.Pos.Counts := (Sl.start hs0_13)
 have E : Sl Rep.u w (imm (Lg.O0 A)) v0_15 a0.Hist.Neg.Counts := (Sl.start hs0_15)
 have ai : Sl rep_api_Pair w (imm (Lg.O0 A)) v1_1 a1.Attrs := (Sl.start hs1_1)
 have aj : Sl Rep.u w (imm (Lg.O0 A)) v1_13 a1.Hist.Pos.Counts := (Sl.start hs1_13)
 have ak : Sl Rep.u w (imm (Lg.O0 A)) v1_15 a1.Hist.Neg.Counts := (Sl.start hs1_15)
 refine (show WC _ _ _ _ [(0, ag (cp a0 v0_1 v0_13 v0_15)), (1, ag (cp a1 v1_1 v1_13 v1_15))] _ from ?_)
 refine sq (rg ?_)
 have al := h
 obtain ⟨F, G, H, rfl⟩ := C.shape
 have h := al
 have am := h
 obtain ⟨I, J, K, rfl⟩ := D.shape
 have h := am
 have an := h
 obtain ⟨L, M, P, rfl⟩ := E.shape
 have h := an
 refine WL.box (O := (Lg.O0 A)) 11 (cp a0 (vl F G H) (vl I J K) (vl L M P)) z z z ?_
 intro a7 aS a2 d ao
 have Q := ai.i d z z
 have ap := h
 obtain ⟨S, T, U, rfl⟩ := Q.shape
 have h := ap
 have V := aj.i d z z
 have aq := h
 obtain ⟨W, X, Z, rfl⟩ := V.shape
 have h := aq
 have aa := ak.i d z z
 have ar := h
 obtain ⟨ab, ac, ad, rfl⟩ := aa.shape
 have h := ar
 refine WL.box (O := aS) 12 (cp a1 (vl S T U) (vl W X Z) (vl ab ac ad)) z z z ?_
 intro a8 aT a3 c au
 refine wY (ya z) z (nl (th (sq (rg ?_))))
 have ae := ao.st c z
 refine wY (yL ty40 z z (ae.cells 0 (cp a0 (vl F G H) (vl I J K) (vl L M P)) z) z) z ?_
 have ax := (C.i d z z).i c z z
 have az := (D.i d z z).i c z z
 have aC := (E.i d z z).i c z z
 obtain ⟨⟨a9, ba⟩, aD, h⟩ := bnd h
 refine WL.call (vals := [ag (cp a0 (vl F G H) (vl I J K) (vl L M P))]) kok57 z z (c_ref12_Key (A := fun _ => True) (a0 := a0) (Sl.all ax) (Sl.all az) (Sl.all aC) aD) ?_
 rintro a4 a5 ⟨rfl, aE⟩
 obtain ⟨aU, aW, aX, j⟩ := adoptE aT (fun k => 1) aE
 refine wY (ym z) z (wY (yx z z) z (wY (yx z z) z (wY (ya z) z (wY (ya z) z (nl (th (sq (rg ?_))))))))
 have af := au.st j z
 refine wY (yL ty40 z z (af.cells 0 (cp a1 (vl S T U) (vl W X Z) (vl ab ac ad)) z) z) z ?_
 have aG := (Q.i c z z).i j z z
 have aI := (V.i c z z).i j z z
 have aK := (aa.i c z z).i j z z
 obtain ⟨⟨bb, bc⟩, aL, h⟩ := bnd h
 refine WL.call (vals := [ag (cp a1 (vl S T U) (vl W X Z) (vl ab ac ad))]) kok57 z z (c_ref12_Key (A := fun _ => True) (a0 := a1) (Sl.all aG) (Sl.all aI) (Sl.all aK) aL) ?_
 rintro a6 m ⟨rfl, aM⟩
 obtain ⟨t, aY, aZ, l⟩ := adoptE aU (fun k => 1) aM
 refine wY (ym z) z (wY (yx z z) z (wY (yx z z) z (wY (ya z) z (wY (ya z) z (nl (th (sq (sq (rg ?_)))))))))
 refine wY (ym z) z (wY (ym z) z (wY (Y.neq_s z z) z (nl (th ?_))))
 rcases cnd h with ⟨n, h⟩ | ⟨n, h⟩
 ·refine WC.condT' z n (sq (rg (wY (ya z) z (nl (th (rt (At.thenR ?_)))))))
  obtain rfl := some1 h
  have aN : Stp [] (Lg.O0 A) w t m := (tr_ (su_ d z) (tr_ (su_ c z) (tr_ (su_ j z) (su_ l z))))
  exact At.res (.inl z) z (.tmp z .nil) ⟨z, (se_ aN z z)⟩
 ·refine WC.condF' z n (sk (th (sq (sq (rg (wY (yf fo40_6 z) z ?_))))))
  have ah := af.st l z
  refine wY (yl ty3 z z (ah.cell 6 _ z)) z (wY (yf fo40_6 z) z ?_)
  have o := (ae.st j z).st l z
  refine wY (yl ty3 z z (o.cell 6 _ z)) z (wY (Y.leq_i z z) z (nl (th ?_)))
  rcases cnd h with ⟨p, h⟩ | ⟨p, h⟩
  ·refine WC.condT' z p (sq (rg (wY (ya z) z (nl (th (rt (At.thenR ?_)))))))
   obtain rfl := some1 h
   have aP : Stp [] (Lg.O0 A) w t m := (tr_ (su_ d z) (tr_ (su_ c z) (tr_ (su_ j z) (su_ l z))))
   exact At.res (.inl z) z (.tmp z .nil) ⟨z, (se_ aP z z)⟩
  ·refine WC.condF' z p (sk (th (sq (sq (rg (wY (yf fo40_3 z) z (wY (yl ty3 z z (o.cell 3 _ z)) z (wY (Y.eql_i z z) z (wY (ym z) z ?_)))))))))
   refine WL.cut 6 (σ := Unit) (fun _ w' => m = w') (fun _ => [(36, vB ((decide (a0.Temp = 2)) && (decide (a1.Start < a0.Time))))]) ?_ ?_
   ·refine WL.part 30 z (fun q => ?_) (fun q => ?_)
    ·refine ug z z (wY (yf fo40_5 z) z (ug z z (wY (yl ty3 z z (ah.cell 5 _ z)) z (ug z z (wY (yf fo40_6 z) z (ug z z (wY (yl ty3 z z (o.cell 6 _ z)) z (ug z z (wY (Y.lss_i z z) z ?_)))))))))
     refine wY (Y.pick (b := true) z z) z (WL.ren (v' := vB ((decide (a0.Temp = 2)) && (decide (a1.Start < a0.Time)))) 36 z (congrArg vB (andT q)) ?_)
     exact nl (At.join () z (.cons z .nil))
    ·refine WL.gS z z z z (WL.gS z z z z (WL.gS z z z z (WL.gS z z z z (WL.gS z z z z (wY (Y.pick (b := false) z z) z (WL.ren (v' := vB ((decide (a0.Temp = 2)) && (decide (a1.Start < a0.Time)))) 36 z (congrArg vB (andF q)) ?_))))))
     exact nl (At.join () z (.cons z .nil))
   ·rintro _ _ rfl
    refine (show WL _ _ _ _ _ [(36, vB ((decide (a0.Temp = 2)) && (decide (a1.Start < a0.Time))))] _ from ?_)
    refine nl (th ?_)
    rcases cnd h with ⟨r, h⟩ | ⟨r, h⟩
    ·refine WC.condT' z r (sq (rg (wY (ya z) z (nl (th (rt (At.thenR ?_)))))))
     obtain rfl := some1 h
     have aQ : Stp [] (Lg.O0 A) w t m := (tr_ (su_ d z) (tr_ (su_ c z) (tr_ (su_ j z) (su_ l z))))
     exact At.res (.inl z) z (.tmp z .nil) ⟨z, (se_ aQ z z)⟩
    ·refine WC.condF' z r (sk (th (sq (rg (wY (ya z) z (nl (th (rt ?_))))))))
     obtain rfl := some1 h
     have aR : Stp [] (Lg.O0 A) w t m := (tr_ (su_ d z) (tr_ (su_ c z) (tr_ (su_ j z) (su_ l z))))
     exact At.res (.inl z) z (.tmp z .nil) ⟨z, (se_ aR z z)⟩
theorem c_ref36_flags {a0 : Int} {a1 : Int} {w : World} {r0 : Int} (h : ref36_flags a0 a1 = some r0) : Rets Tryz.prog 58 [vi a0, vi a1] w (fun v w' => v = vi r0 ∧ Ext w w') := by
 unfold ref36_flags at h
 refine Rets.enter Tryz.func58 z z ?_
 refine (show WC _ _ _ _ [(0, vi a0), (1, vi a1)] _ from ?_)
 refine sq (rg (wY (ya z) z (nl (th (sq (rg (wY (ya z) z (nl (th ?_)))))))))
 refine sq (sq (rg (wY (ya z) z (nl (th (WC.block ?_))))))
 obtain ⟨D, h, F⟩ := flow1 h
 obtain ⟨E, h⟩ := loop_some h
 refine WC.joinB 0 (σ := Int) (fun x w' => D = .go x ∧ w = w') (fun x => [(5, vi x)]) ?_ ?_
 ·refine WC.loop (σ := (Int × Int)) (fun x k w' => loopN k (ref36_flags_lp1 a0 a1) (x.1, x.2) = some D ∧ w = w') (fun x => [(0, vi a0), (1, vi a1), (5, vi x.1), (6, vi x.2)]) (0, 1) E (.cons z (.cons z (.cons z (.cons z .nil)))) ⟨h, z⟩ ?_
  rintro ⟨d, c⟩ E _ ⟨h, rfl⟩
  obtain ⟨L, S, rfl, h, o⟩ := rnd1 h
  unfold ref36_flags_lp1 at h
  try dsimp only at h
  refine (show WC _ _ _ _ [(0, vi a0), (1, vi a1), (5, vi d), (6, vi c)] _ from ?_)
  refine sq (sq (rg (wY (ym z) z (wY (Y.leq_i z z) z (nl (th ?_))))))
  rcases cnd h with ⟨j, h⟩ | ⟨j, h⟩
  ·refine WC.condT' z j (sk (th (sq ?_)))
   obtain ⟨M, h, G⟩ := bnd h
   refine WC.join (σ := Int) (fun x w' => x = M ∧ w = w') (fun x => [(0, vi a0), (1, vi a1), (5, vi x), (6, vi c)]) ?_ ?_
   ·refine WC.block (sq (rg (wY (ym z) z (wY (ym z) z ?_))))
    obtain ⟨H, h⟩ := chk1 h
    refine wY (Y.quo_i (ne_of_chk H) z z) z (wY (Y.rem_i (by decide) z z) z (wY (Y.eql_i z z) z (wY (ym z) z ?_)))
    obtain ⟨P, h, I⟩ := bnd h
    refine WL.cut 6 (σ := Bool) (fun x w' => x = P ∧ w = w') (fun x => [(0, vi a0), (1, vi a1), (5, vi d), (6, vi c), (22, vB x)]) ?_ ?_
    ·rcases cnd h with ⟨l, h⟩ | ⟨l, h⟩
     ·refine WL.ren 16 z (congrArg vB l) (WL.gS z z z z (WL.gS z z z z (WL.gS z z z z (WL.gS z z z z (WL.gS z z z z (wY (Y.pick (b := true) z z) z ?_))))))
      exact nl (At.join (σ := Bool) true ⟨some1 h, z⟩ (.cons z (.cons z (.cons z (.cons z (.cons z .nil))))))
     ·refine WL.ren 16 z (congrArg vB l) (ug z z (wY (ym z) z (ug z z (wY (ym z) z (ug z z ?_)))))
      obtain ⟨J, h⟩ := chk1 h
      refine wY (Y.quo_i (ne_of_chk J) z z) z (ug z z (wY (Y.rem_i (by decide) z z) z (ug z z (wY (Y.eql_i z z) z (wY (Y.pick (b := false) z z) z ?_)))))
      exact nl (At.join (σ := Bool) (decide ((w64 (a1.tdiv c)).tmod 2 = 1)) ⟨some1 h, z⟩ (.cons z (.cons z (.cons z (.cons z (.cons z .nil))))))
    ·rintro Q _ ⟨rfl, rfl⟩
     replace h := I
     try dsimp only at h
     refine (show WL _ _ _ _ _ [(0, vi a0), (1, vi a1), (5, vi d), (6, vi c), (22, vB Q)] _ from ?_)
     refine nl (th ?_)
     rcases cnd h with ⟨m, h⟩ | ⟨m, h⟩
     ·refine WC.condT' z m (rg (wY (ym z) z (wY (ym z) z (wY (Y.add_i z z) z ?_))))
      obtain ⟨r, p, h⟩ := lt1 h
      refine WL.yE (ya z) (congrArg vi p.symm) z (nl (At.inBlock ?_))
      exact At.join (σ := Int) r ⟨some1 h, z⟩ (.cons z (.cons z (.cons z (.cons z .nil))))
     ·refine WC.condF' z m (sk (At.inBlock ?_))
      exact At.join (σ := Int) d ⟨some1 h, z⟩ (.cons z (.cons z (.cons z (.cons z .nil))))
   ·rintro n _ ⟨rfl, rfl⟩
    replace h := G
    try dsimp only at h
    refine (show At _ _ _ [(0, vi a0), (1, vi a1), (5, vi n), (6, vi c)] _ from ?_)
    refine th (rg (wY (ym z) z (wY (Y.mul_i z z) z ?_)))
    obtain ⟨t, q, h⟩ := lt1 h
    refine WL.yE (ya z) (congrArg vi q.symm) z (nl ?_)
    exact At.round (n, t) L (Nat.lt_succ_self _) ⟨next1 h o, z⟩ (.cons z (.cons z (.cons z (.cons z .nil))))
  ·refine WC.condF' z j (WC.exit (At.thenX (At.loopX ?_)))
   exact At.hitB (σ := Int) d ⟨brk1 h o, z⟩ (.cons z .nil)
 ·rintro C _ ⟨rfl, rfl⟩
  replace h := flowK_go F
  try dsimp only at h
  refine (show At _ _ _ [(5, vi C)] _ from ?_)
  refine At.inBlockHit (th (sq (rg (wY (ym z) z (wY (ya z) z (nl (th (rt ?_))))))))
  obtain rfl := some1 h
  have K : Stp [] (Lg.O0 (fun _ => False)) w (Lg.O0 (fun _ => False)) w := (sr_ _ _ _)
  exact At.res (.inl z) z (.tmp z .nil) ⟨z, (se_ K z z)⟩
theorem c_ref15_Wide {a0 : Int} {a1 : Int} {a2 : Bool} {w : World} {r0 : Bool} (h : ref15_Wide a0 a1 a2 = some r0) : Rets Tryz.prog 59 [vi a0, vi a1, vB a2] w (fun v w' => v = vB r0 ∧ Ext w w') := by
 unfold ref15_Wide at h
 refine Rets.enter Tryz.func59 z z ?_
 refine (show WC _ _ _ _ [(0, vi a0), (1, vi a1), (2, vB a2)] _ from ?_)
 refine sq (rg (wY (ya z) z (nl (th (sq (rg (wY (ym z) z (wY (Y.quo_i (by decide) z z) z (wY (ym z) z ?_)))))))))
 refine wY (Y.rem_i (by decide) z z) z ?_
 obtain ⟨I, S, h⟩ := lt1 h
 refine WL.yE (ya z) (congrArg vi S.symm) z ?_
 obtain ⟨T, U, h⟩ := lt1 h
 refine WL.yE (ya z) (congrArg vi U.symm) z (nl (th (sq (rg (wY (ym z) z (wY (Y.quo_i (by decide) z z) z (wY (ym z) z (wY (Y.rem_i (by decide) z z) z ?_))))))))
 obtain ⟨aj, V, h⟩ := lt1 h
 refine WL.yE (ya z) (congrArg vi V.symm) z ?_
 obtain ⟨ak, W, h⟩ := lt1 h
 refine WL.yE (ya z) (congrArg vi W.symm) z (nl (th (sq ?_)))
 obtain ⟨al, h, X⟩ := bnd h
 refine WC.join (σ := (Int × Int)) (fun x w' => (x.1, x.2) = al ∧ w = w') (fun x => [(7, vi I), (8, vi T), (9, vi x.1), (10, vi x.2)]) ?_ ?_
 ·refine sq (rg (wY (ym z) z (nl (th ?_))))
  rcases cnd h with ⟨m, h⟩ | ⟨m, h⟩
  ·refine WC.condT' z m (sq (rg (wY (ym z) z (wY (Y.sub_i z z) z ?_))))
   obtain ⟨am, Z, h⟩ := lt1 h
   refine WL.yE (ya z) (congrArg vi Z.symm) z (nl (th (rg (wY (ym z) z (wY (Y.sub_i z z) z ?_)))))
   obtain ⟨an, aa, h⟩ := lt1 h
   refine WL.yE (ya z) (congrArg vi aa.symm) z (nl ?_)
   exact At.join (σ := (Int × Int)) (am, an) ⟨some1 h, z⟩ (.cons z (.cons z (.cons z (.cons z .nil))))
  ·refine WC.condF' z m (sk ?_)
   exact At.join (σ := (Int × Int)) (aj, ak) ⟨some1 h, z⟩ (.cons z (.cons z (.cons z (.cons z .nil))))
 ·rintro ⟨ao, ap⟩ _ ⟨rfl, rfl⟩
  replace h := X
  try dsimp only at h
  refine (show At _ _ _ [(7, vi I), (8, vi T), (9, vi ao), (10, vi ap)] _ from ?_)
  refine th (sq (rg (wY (ym z) z (wY (ym z) z (wY (Y.add_i z z) z ?_)))))
  obtain ⟨J, C, h⟩ := lt1 h
  refine WL.yE (ya z) (congrArg vi C.symm) z (nl (th (sq (rg (wY (ym z) z (wY (ym z) z (wY (Y.add_i z z) z ?_)))))))
  obtain ⟨K, D, h⟩ := lt1 h
  refine WL.yE (ya z) (congrArg vi D.symm) z (nl (th (sq ?_)))
  obtain ⟨aq, h, ab⟩ := bnd h
  refine WC.join (σ := (Int × Int)) (fun x w' => (x.1, x.2) = aq ∧ w = w') (fun x => [(11, vi x.1), (12, vi x.2)]) ?_ ?_
  ·refine sq (rg (wY (ym z) z (wY (Y.gtr_i z z) z (nl (th ?_)))))
   rcases cnd h with ⟨n, h⟩ | ⟨n, h⟩
   ·refine WC.condT' z n (sq (rg (wY (ym z) z (wY (Y.add_i z z) z ?_))))
    obtain ⟨L, E, h⟩ := lt1 h
    refine WL.yE (ya z) (congrArg vi E.symm) z (nl (th (rg (wY (ym z) z (wY (Y.sub_i z z) z ?_)))))
    obtain ⟨M, F, h⟩ := lt1 h
    refine WL.yE (ya z) (congrArg vi F.symm) z (nl ?_)
    exact At.join (σ := (Int × Int)) (L, M) ⟨some1 h, z⟩ (.cons z (.cons z .nil))
   ·refine WC.condF' z n (sk ?_)
    exact At.join (σ := (Int × Int)) (J, K) ⟨some1 h, z⟩ (.cons z (.cons z .nil))
  ·rintro ⟨j, l⟩ _ ⟨rfl, rfl⟩
   replace h := ab
   try dsimp only at h
   refine (show At _ _ _ [(11, vi j), (12, vi l)] _ from ?_)
   refine th (sq ?_)
   obtain ⟨ar, h, ac⟩ := bnd h
   refine WC.join (σ := (Int × Int)) (fun x w' => (x.1, x.2) = ar ∧ w = w') (fun x => [(11, vi x.1), (12, vi x.2)]) ?_ ?_
   ·refine sq (rg (wY (ym z) z (wY (Y.lss_i z z) z (nl (th ?_)))))
    rcases cnd h with ⟨o, h⟩ | ⟨o, h⟩
    ·refine WC.condT' z o (sq (rg (wY (ym z) z (wY (Y.sub_i z z) z ?_))))
     obtain ⟨P, G, h⟩ := lt1 h
     refine WL.yE (ya z) (congrArg vi G.symm) z (nl (th (rg (wY (ym z) z (wY (Y.add_i z z) z ?_)))))
     obtain ⟨Q, H, h⟩ := lt1 h
     refine WL.yE (ya z) (congrArg vi H.symm) z (nl ?_)
     exact At.join (σ := (Int × Int)) (P, Q) ⟨some1 h, z⟩ (.cons z (.cons z .nil))
    ·refine WC.condF' z o (sk ?_)
     exact At.join (σ := (Int × Int)) (j, l) ⟨some1 h, z⟩ (.cons z (.cons z .nil))
   ·rintro ⟨c, d⟩ _ ⟨rfl, rfl⟩
    replace h := ac
    try dsimp only at h
    refine (show At _ _ _ [(11, vi c), (12, vi d)] _ from ?_)
    refine th (sq (sq (rg (wY (ym z) z (wY (Y.gtr_i z z) z (wY (ym z) z ?_))))))
    refine WL.cut 3 (σ := Unit) (fun _ w' => w = w') (fun _ => [(11, vi c), (12, vi d), (49, vB ((decide (4611686018427387904 < c)) || (decide (c < (-4611686018427387904)))))]) ?_ ?_
    ·refine WL.part 46 z (fun p => ?_) (fun p => ?_)
     ·refine WL.gS z z z z (WL.gS z z z z (wY (Y.pick (b := true) z z) z (WL.ren (v' := vB ((decide (4611686018427387904 < c)) || (decide (c < (-4611686018427387904))))) 49 z (congrArg vB (orT p)) ?_)))
      exact nl (At.join () z (.cons z (.cons z (.cons z .nil))))
     ·refine ug z z (wY (ym z) z (ug z z (wY (Y.lss_i z z) z (wY (Y.pick (b := false) z z) z (WL.ren (v' := vB ((decide (4611686018427387904 < c)) || (decide (c < (-4611686018427387904))))) 49 z (congrArg vB (orF p)) ?_)))))
      exact nl (At.join () z (.cons z (.cons z (.cons z .nil))))
    ·rintro _ _ rfl
     refine (show WL _ _ _ _ _ [(11, vi c), (12, vi d), (49, vB ((decide (4611686018427387904 < c)) || (decide (c < (-4611686018427387904)))))] _ from ?_)
     refine nl (th ?_)
     rcases cnd h with ⟨q, h⟩ | ⟨q, h⟩
     ·refine WC.condT' z q (sq (rg (wY (ya z) z (nl (th (rt (At.thenR ?_)))))))
      obtain rfl := some1 h
      have ad : Stp [] (Lg.O0 (fun _ => False)) w (Lg.O0 (fun _ => False)) w := (sr_ _ _ _)
      exact At.res (.inl z) z (.tmp z .nil) ⟨z, (se_ ad z z)⟩
     ·refine WC.condF' z q (sk (th (sq (sq (rg (wY (ym z) z (wY (Y.eql_i z z) z (nl (th ?_)))))))))
      rcases cnd h with ⟨r, h⟩ | ⟨r, h⟩
      ·refine WC.condT' z r (sq (rg (wY (ym z) z (wY (Y.geq_i z z) z ?_))))
       obtain ⟨au, ae, h⟩ := lt1 h
       refine WL.yE (ya z) (congrArg vB ae.symm) z (nl (th (rt (At.thenR ?_))))
       obtain rfl := some1 h
       have af : Stp [] (Lg.O0 (fun _ => False)) w (Lg.O0 (fun _ => False)) w := (sr_ _ _ _)
       exact At.res (.inl z) z (.tmp z .nil) ⟨z, (se_ af z z)⟩
      ·refine WC.condF' z r (sk (th (sq (rg (wY (ym z) z (wY (Y.eql_i z z) z (wY (ym z) z ?_)))))))
       refine WL.cut 3 (σ := Unit) (fun _ w' => w = w') (fun _ => [(59, vB ((decide (c = (-4611686018427387904))) && (decide (d < 0))))]) ?_ ?_
       ·refine WL.part 56 z (fun t => ?_) (fun t => ?_)
        ·refine ug z z (wY (ym z) z (ug z z (wY (Y.lss_i z z) z (wY (Y.pick (b := true) z z) z (WL.ren (v' := vB ((decide (c = (-4611686018427387904))) && (decide (d < 0)))) 59 z (congrArg vB (andT t)) ?_)))))
         exact nl (At.join () z (.cons z .nil))
        ·refine WL.gS z z z z (WL.gS z z z z (wY (Y.pick (b := false) z z) z (WL.ren (v' := vB ((decide (c = (-4611686018427387904))) && (decide (d < 0)))) 59 z (congrArg vB (andF t)) ?_)))
         exact nl (At.join () z (.cons z .nil))
       ·rintro _ _ rfl
        refine (show WL _ _ _ _ _ [(59, vB ((decide (c = (-4611686018427387904))) && (decide (d < 0))))] _ from ?_)
        obtain ⟨av, ah, h⟩ := lt1 h
        refine WL.yE (ya z) (congrArg vB ah.symm) z (nl (th (rt ?_)))
        obtain rfl := some1 h
        have ai : Stp [] (Lg.O0 (fun _ => False)) w (Lg.O0 (fun _ => False)) w := (sr_ _ _ _)
        exact At.res (.inl z) z (.tmp z .nil) ⟨z, (se_ ai z z)⟩
theorem c_ref05_wide {a0 : UInt64} {w : World} {r0 : UInt64} {r1 : Int} (h : ref05_wide a0 = some (r0, r1)) : Rets Tryz.prog 101 [vu a0] w (fun v w' => v = tp [vu r0, vi r1] ∧ Ext w w') := by
 unfold ref05_wide at h
 refine Rets.enter Tryz.func101 z z ?_
 refine (show WC _ _ _ _ [(0, vu a0)] _ from ?_)
 refine sq (rg (wY (ya (v := vu 0) z) z (wY (ya z) z (nl (th (sq (rg (wY (ym z) z (wY (Y.quo_u (b := 4503599627370496) (by decide) z z) z ?_)))))))))
 refine wY (Y.rem_u (b := 2048) (by decide) z z) z (wY (Y.conv_ui ty33.u ty3.u z) z ?_)
 obtain ⟨o, d, h⟩ := lt1 h
 refine WL.yE (ya z) (congrArg vi d.symm) z (nl (th (sq (rg (wY (ym z) z (wY (Y.rem_u (b := 4503599627370496) (by decide) z z) z ?_))))))
 obtain ⟨p, j, h⟩ := lt1 h
 refine WL.yE (ya z) (congrArg vu j.symm) z (nl (th (sq (sq (rg (wY (ym z) z (wY (Y.eql_i z z) z (nl (th ?_)))))))))
 rcases cnd h with ⟨c, h⟩ | ⟨c, h⟩
 ·refine WC.condT' z c (sq (rg (wY (ym z) z (wY (ya z) z (wY (ya z) z (nl (th (rt (At.thenR ?_)))))))))
  obtain ⟨rfl, rfl⟩ := tup2 h
  have l : Stp [] (Lg.O0 (fun _ => False)) w (Lg.O0 (fun _ => False)) w := (sr_ _ _ _)
  exact At.res (.inl z) z (.tmp z (.tmp z .nil)) ⟨z, (se_ l z z)⟩
 ·refine WC.condF' z c (sk (th (sq (rg (wY (ym z) z (wY (Y.add_u (b := 4503599627370496) z z) z (wY (ym z) z ?_)))))))
  obtain ⟨q, m, h⟩ := lt1 h
  refine WL.yE (ya z) (congrArg vu m.symm) z (wY (ya z) z (nl (th (rt ?_))))
  obtain ⟨rfl, rfl⟩ := tup2 h
  have n : Stp [] (Lg.O0 (fun _ => False)) w (Lg.O0 (fun _ => False)) w := (sr_ _ _ _)
  exact At.res (.inl z) z (.tmp z (.tmp z .nil)) ⟨z, (se_ n z z)⟩
theorem c_ref05_shifted {a0 : UInt64} {a1 : Int} {w : World} {r0 : UInt64} (h : ref05_shifted a0 a1 = some r0) : Rets Tryz.prog 102 [vu a0, vi a1] w (fun v w' => v = vu r0 ∧ Ext w w') := by
 unfold ref05_shifted at h
 refine Rets.enter Tryz.func102 z z ?_
 refine (show WC _ _ _ _ [(0, vu a0), (1, vi a1)] _ from ?_)
 refine sq (rg (wY (ya (v := vu 0) z) z (nl (th (sq (sq (rg (wY (ya z) z (nl ?_)))))))))
 refine th (WC.block ?_)
 obtain ⟨m, h, l⟩ := flow1 h
 obtain ⟨n, h⟩ := loop_some h
 refine WC.joinB 0 (σ := UInt64) (fun x w' => m = .go x ∧ w = w') (fun x => [(0, vu x)]) ?_ ?_
 ·refine WC.loop (σ := (UInt64 × Int)) (fun x k w' => loopN k (ref05_shifted_lp1 a1) (x.1, x.2) = some m ∧ w = w') (fun x => [(0, vu x.1), (1, vi a1), (5, vi x.2)]) (a0, 0) n (.cons z (.cons z (.cons z .nil))) ⟨h, z⟩ ?_
  rintro ⟨o, C⟩ n _ ⟨h, rfl⟩
  obtain ⟨D, H, rfl, h, c⟩ := rnd1 h
  unfold ref05_shifted_lp1 at h
  try dsimp only at h
  refine (show WC _ _ _ _ [(0, vu o), (1, vi a1), (5, vi C)] _ from ?_)
  refine sq (sq (rg (wY (ym z) z (wY (ym z) z (wY (Y.lss_i z z) z (nl (th ?_)))))))
  rcases cnd h with ⟨d, h⟩ | ⟨d, h⟩
  ·refine WC.condT' z d (sk (th (sq (WC.block (sq (sq (rg (wY (ym z) z (wY (Y.lss_u (b := 2) z z) z ?_)))))))))
   refine nl (th ?_)
   rcases cnd h with ⟨j, h⟩ | ⟨j, h⟩
   ·refine WC.condT' z j (sq (rg (wY (ym z) z (wY (ya z) z (nl (th (rt (At.thenR (At.inBlockR ?_)))))))))
    refine At.thenR (At.loopR ?_)
    have h := outr1 h c l
    refine At.joinBR (At.inBlockR (At.thenR ?_))
    obtain rfl := some1 h
    have p : Stp [] (Lg.O0 (fun _ => False)) w (Lg.O0 (fun _ => False)) w := (sr_ _ _ _)
    exact At.res (.inl z) z (.tmp z .nil) ⟨z, (se_ p z z)⟩
   ·refine WC.condF' z j (sk (th (rg (wY (ym z) z (wY (Y.quo_u (b := 2) (by decide) z z) z (wY (ym z) z (wY (Y.rem_u (b := 2) (by decide) z z) z (wY (Y.or_u z z) z ?_))))))))
    obtain ⟨E, q, h⟩ := lt1 h
    refine WL.yE (ya z) (congrArg vu q.symm) z (nl (At.inBlock (th (rg (wY (ym z) z (wY (Y.add_i z z) z ?_))))))
    obtain ⟨F, r, h⟩ := lt1 h
    refine WL.yE (ya z) (congrArg vi r.symm) z (nl ?_)
    exact At.round (E, F) D (Nat.lt_succ_self _) ⟨next1 h c, z⟩ (.cons z (.cons z (.cons z .nil)))
  ·refine WC.condF' z d (WC.exit (At.thenX (At.loopX ?_)))
   exact At.hitB (σ := UInt64) o ⟨brk1 h c, z⟩ (.cons z .nil)
 ·rintro G _ ⟨rfl, rfl⟩
  replace h := flowK_go l
  try dsimp only at h
  refine (show At _ _ _ [(0, vu G)] _ from ?_)
  refine At.inBlockHit (th (sq (rg (wY (ym z) z (wY (ya z) z (nl (th (rt ?_))))))))
  obtain rfl := some1 h
  have t : Stp [] (Lg.O0 (fun _ => False)) w (Lg.O0 (fun _ => False)) w := (sr_ _ _ _)
  exact At.res (.inl z) z (.tmp z .nil) ⟨z, (se_ t z z)⟩
theorem c_ref05_round {a0 : UInt64} {a1 : Int} {a2 : Bool} {w : World} {r0 : UInt64} (h : ref05_round a0 a1 a2 = some r0) : Rets Tryz.prog 103 [vu a0, vi a1, vB a2] w (fun v w' => v = vu r0 ∧ Ext w w') := by
 unfold ref05_round at h
 refine Rets.enter Tryz.func103 z z ?_
 refine (show WC _ _ _ _ [(0, vu a0), (1, vi a1), (2, vB a2)] _ from ?_)
 refine sq (rg (wY (ya (v := vu 0) z) z (nl (th (sq (sq (rg (wY (ym z) z (wY (Y.eql_u (b := 0) z z) z ?_)))))))))
 refine nl (th ?_)
 rcases cnd h with ⟨q, h⟩ | ⟨q, h⟩
 ·refine WC.condT' z q (sq (rg (wY (ya (v := vu 0) z) z (nl (th (rt (At.thenR ?_)))))))
  obtain rfl := some1 h
  have an : Stp [] (Lg.O0 (fun _ => False)) w (Lg.O0 (fun _ => False)) w := (sr_ _ _ _)
  exact At.res (.inl z) z (.tmp z .nil) ⟨z, (se_ an z z)⟩
 ·refine WC.condF' z q (sk (th (sq ?_)))
  obtain ⟨aL, h, ao⟩ := bnd h
  refine WC.join (σ := (UInt64 × Int × Own)) (fun x w' => (x.1, x.2.1) = aL ∧ Stp [] (Lg.O0 (fun _ => False)) w x.2.2 w') (fun x => [(0, vu x.1), (1, vi x.2.1), (2, vB a2)]) ?_ ?_
  ·refine WC.block ?_
   obtain ⟨W, h, ap⟩ := flow1 h
   obtain ⟨X, h⟩ := loop_some h
   refine WC.joinB 0 (σ := (UInt64 × Int × Own)) (fun x w' => W = .go (x.1, x.2.1) ∧ Stp [] (Lg.O0 (fun _ => False)) w x.2.2 w') (fun x => [(0, vu x.1), (1, vi x.2.1), (2, vB a2)]) ?_ ?_
   ·refine WC.loop (σ := (UInt64 × Int × Own)) (fun x k w' => loopN k (ref05_round_lp1) (x.1, x.2.1) = some W ∧ Stp [] (Lg.O0 (fun _ => False)) w x.2.2 w') (fun x => [(0, vu x.1), (1, vi x.2.1), (2, vB a2)]) (a0, a1, (Lg.O0 (fun _ => False))) X (.cons z (.cons z (.cons z .nil))) ⟨h, (sr_ _ _ _)⟩ ?_
    rintro ⟨M, Z, aa⟩ X a9 ⟨h, o⟩
    obtain ⟨aM, bd, rfl, h, P⟩ := rnd1 h
    unfold ref05_round_lp1 at h
    try dsimp only at h o
    refine (show WC _ _ _ _ [(0, vu M), (1, vi Z), (2, vB a2)] _ from ?_)
    refine sq (sq (rg (wY (ym z) z (wY (Y.geq_u (b := 72057594037927936) z z) z (nl (th ?_))))))
    rcases cnd h with ⟨r, h⟩ | ⟨r, h⟩
    ·refine WC.condT' z r (sk (th (WC.block (sq (rg (wY (ym z) z ?_))))))
     obtain ⟨aN, aq, h⟩ := bnd h
     refine WL.call (vals := [vu M, vi 1]) kok102 z z (c_ref05_shifted aq) ?_
     rintro ba bb ⟨rfl, ar⟩
     obtain ⟨aO, aP, aQ, T⟩ := adoptE aa (fun k => 1) ar
     refine wY (ya z) z (nl (th (rg (wY (ym z) z (wY (Y.add_i z z) z ?_)))))
     obtain ⟨aR, au, h⟩ := lt1 h
     refine WL.yE (ya z) (congrArg vi au.symm) z (nl (At.inBlock ?_))
     exact At.round (aN, aR, aO) aM (Nat.lt_succ_self _) ⟨next1 h P, (tr_ (su_ o z) (su_ T z))⟩ (.cons z (.cons z (.cons z .nil)))
    ·refine WC.condF' z r (WC.exit (At.thenX (At.loopX ?_)))
     exact At.hitB (σ := (UInt64 × Int × Own)) (M, Z, aa) ⟨brk1 h P, (su_ o z)⟩ (.cons z (.cons z (.cons z .nil)))
   ·rintro ⟨ab, ac, aS⟩ bc ⟨rfl, K⟩
    replace h := flowK_go ap
    try dsimp only at h K
    refine (show At _ _ _ [(0, vu ab), (1, vi ac), (2, vB a2)] _ from ?_)
    refine At.inBlockHit ?_
    exact At.join (σ := (UInt64 × Int × Own)) (ab, ac, aS) ⟨some1 h, (su_ K z)⟩ (.cons z (.cons z (.cons z .nil)))
  ·rintro ⟨ad, ae, af⟩ d ⟨rfl, p⟩
   replace h := ao
   try dsimp only at h p
   refine (show At _ _ _ [(0, vu ad), (1, vi ae), (2, vB a2)] _ from ?_)
   refine th (sq ?_)
   obtain ⟨aT, h, av⟩ := bnd h
   refine WC.join (σ := (UInt64 × Int)) (fun x w' => (x.1, x.2) = aT ∧ d = w') (fun x => [(0, vu x.1), (1, vi x.2), (2, vB a2)]) ?_ ?_
   ·refine WC.block ?_
    obtain ⟨ah, h, ax⟩ := flow1 h
    obtain ⟨ai, h⟩ := loop_some h
    refine WC.joinB 2 (σ := (UInt64 × Int)) (fun x w' => ah = .go (x.1, x.2) ∧ d = w') (fun x => [(0, vu x.1), (1, vi x.2), (2, vB a2)]) ?_ ?_
    ·refine WC.loop (σ := (UInt64 × Int)) (fun x k w' => loopN k (ref05_round_lp2) (x.1, x.2) = some ah ∧ d = w') (fun x => [(0, vu x.1), (1, vi x.2), (2, vB a2)]) (ad, ae) ai (.cons z (.cons z (.cons z .nil))) ⟨h, z⟩ ?_
     rintro ⟨l, m⟩ ai _ ⟨h, rfl⟩
     obtain ⟨aU, bf, rfl, h, Q⟩ := rnd1 h
     unfold ref05_round_lp2 at h
     try dsimp only at h
     refine (show WC _ _ _ _ [(0, vu l), (1, vi m), (2, vB a2)] _ from ?_)
     refine sq (sq (rg (wY (ym z) z (wY (Y.lss_u (b := 36028797018963968) z z) z (wY (ym z) z ?_)))))
     refine WL.cut 3 (σ := Unit) (fun _ w' => d = w') (fun _ => [(0, vu l), (1, vi m), (2, vB a2), (22, vB ((decide (l < 36028797018963968)) && (decide (1 < m))))]) ?_ ?_
     ·refine WL.part 19 z (fun t => ?_) (fun t => ?_)
      ·refine ug z z (wY (ym z) z (ug z z (wY (Y.gtr_i z z) z (wY (Y.pick (b := true) z z) z (WL.ren (v' := vB ((decide (l < 36028797018963968)) && (decide (1 < m)))) 22 z (congrArg vB (andT t)) ?_)))))
       exact nl (At.join () z (.cons z (.cons z (.cons z (.cons z .nil)))))
      ·refine WL.gS z z z z (WL.gS z z z z (wY (Y.pick (b := false) z z) z (WL.ren (v' := vB ((decide (l < 36028797018963968)) && (decide (1 < m)))) 22 z (congrArg vB (andF t)) ?_)))
       exact nl (At.join () z (.cons z (.cons z (.cons z (.cons z .nil)))))
     ·rintro _ _ rfl
      refine (show WL _ _ _ _ _ [(0, vu l), (1, vi m), (2, vB a2), (22, vB ((decide (l < 36028797018963968)) && (decide (1 < m))))] _ from ?_)
      refine nl (th ?_)
      rcases cnd h with ⟨C, h⟩ | ⟨C, h⟩
      ·refine WC.condT' z C (sk (th (WC.block (sq (rg (wY (ym z) z (wY (Y.mul_u (a := 2) z z) z ?_)))))))
       obtain ⟨aW, ay, h⟩ := lt1 h
       refine WL.yE (ya z) (congrArg vu ay.symm) z (nl (th (rg (wY (ym z) z (wY (Y.sub_i z z) z ?_)))))
       obtain ⟨aX, az, h⟩ := lt1 h
       refine WL.yE (ya z) (congrArg vi az.symm) z (nl (At.inBlock ?_))
       exact At.round (aW, aX) aU (Nat.lt_succ_self _) ⟨next1 h Q, z⟩ (.cons z (.cons z (.cons z .nil)))
      ·refine WC.condF' z C (WC.exit (At.thenX (At.loopX ?_)))
       exact At.hitB (σ := (UInt64 × Int)) (l, m) ⟨brk1 h Q, z⟩ (.cons z (.cons z (.cons z .nil)))
    ·rintro ⟨aj, ak⟩ _ ⟨rfl, rfl⟩
     replace h := flowK_go ax
     try dsimp only at h
     refine (show At _ _ _ [(0, vu aj), (1, vi ak), (2, vB a2)] _ from ?_)
     refine At.inBlockHit ?_
     exact At.join (σ := (UInt64 × Int)) (aj, ak) ⟨some1 h, z⟩ (.cons z (.cons z (.cons z .nil)))
   ·rintro ⟨aY, n⟩ _ ⟨rfl, rfl⟩
    replace h := av
    try dsimp only at h
    refine (show At _ _ _ [(0, vu aY), (1, vi n), (2, vB a2)] _ from ?_)
    refine th (sq (rg (wY (ym z) z (wY (Y.rem_u (b := 8) (by decide) z z) z ?_))))
    obtain ⟨c, L, h⟩ := lt1 h
    refine WL.yE (ya z) (congrArg vu L.symm) z (nl (th (sq (rg (wY (ym z) z (wY (Y.quo_u (b := 8) (by decide) z z) z ?_))))))
    obtain ⟨j, aA, h⟩ := lt1 h
    refine WL.yE (ya z) (congrArg vu aA.symm) z (nl (th (sq ?_)))
    obtain ⟨aZ, h, aC⟩ := bnd h
    refine WC.join (σ := UInt64) (fun x w' => x = aZ ∧ d = w') (fun x => [(0, vu x), (1, vi n), (2, vB a2)]) ?_ ?_
    ·refine sq (rg (wY (ym z) z (wY (Y.gtr_u (b := 4) z z) z (wY (ym z) z ?_))))
     refine WL.cut 8 (σ := Unit) (fun _ w' => d = w') (fun _ => [(0, vu j), (1, vi n), (2, vB a2), (41, vB ((decide (4 < c)) || ((decide (c = 4)) && (decide ((j % 2) = 1)))))]) ?_ ?_
     ·refine WL.part 33 z (fun D => ?_) (fun D => ?_)
      ·refine WL.gS z z z z (WL.gS z z z z (WL.gS z z z z (WL.gS z z z z (WL.gS z z z z (WL.gS z z z z (WL.gS z z z z (wY (Y.pick (b := true) z z) z (WL.ren (v' := vB ((decide (4 < c)) || ((decide (c = 4)) && (decide ((j % 2) = 1))))) 41 z (congrArg vB (orT D)) ?_))))))))
       exact nl (At.join () z (.cons z (.cons z (.cons z (.cons z .nil)))))
      ·refine ug z z (wY (ym z) z (ug z z (wY (Y.eql_u (b := 4) z z) z (ug z z (wY (ym z) z ?_)))))
       refine WL.cut 4 (σ := Unit) (fun _ w' => d = w') (fun _ => [(0, vu j), (1, vi n), (2, vB a2), (33, vB false), (40, vB ((decide (c = 4)) && (decide ((j % 2) = 1))))]) ?_ ?_
       ·refine WL.part 36 z (fun E => ?_) (fun E => ?_)
        ·refine ug z z (wY (ym z) z (ug z z (wY (Y.rem_u (b := 2) (by decide) z z) z (ug z z (wY (Y.eql_u (b := 1) z z) z (ug z z (wY (Y.pick (b := true) z z) z (WL.ren (v' := vB ((decide (c = 4)) && (decide ((j % 2) = 1)))) 40 z (congrArg vB (andT E)) ?_))))))))
         exact nl (At.join () z (.cons z (.cons z (.cons z (.cons z (.cons z .nil))))))
        ·refine WL.gS z z z z (WL.gS z z z z (WL.gS z z z z (ug z z (wY (Y.pick (b := false) z z) z (WL.ren (v' := vB ((decide (c = 4)) && (decide ((j % 2) = 1)))) 40 z (congrArg vB (andF E)) ?_)))))
         exact nl (At.join () z (.cons z (.cons z (.cons z (.cons z (.cons z .nil))))))
       ·rintro _ _ rfl
        refine (show WL _ _ _ _ _ [(0, vu j), (1, vi n), (2, vB a2), (33, vB false), (40, vB ((decide (c = 4)) && (decide ((j % 2) = 1))))] _ from ?_)
        refine wY (Y.pick (b := false) z z) z (WL.ren (v' := vB ((decide (4 < c)) || ((decide (c = 4)) && (decide ((j % 2) = 1))))) 41 z (congrArg vB (orF D)) ?_)
        exact nl (At.join () z (.cons z (.cons z (.cons z (.cons z .nil)))))
     ·rintro _ _ rfl
      refine (show WL _ _ _ _ _ [(0, vu j), (1, vi n), (2, vB a2), (41, vB ((decide (4 < c)) || ((decide (c = 4)) && (decide ((j % 2) = 1)))))] _ from ?_)
      refine nl (th ?_)
      rcases cnd h with ⟨F, h⟩ | ⟨F, h⟩
      ·refine WC.condT' z F (rg (wY (ym z) z (wY (Y.add_u (b := 1) z z) z ?_)))
       obtain ⟨a3, aD, h⟩ := lt1 h
       refine WL.yE (ya z) (congrArg vu aD.symm) z (nl ?_)
       exact At.join (σ := UInt64) a3 ⟨some1 h, z⟩ (.cons z (.cons z (.cons z .nil)))
      ·refine WC.condF' z F (sk ?_)
       exact At.join (σ := UInt64) j ⟨some1 h, z⟩ (.cons z (.cons z (.cons z .nil)))
    ·rintro al _ ⟨rfl, rfl⟩
     replace h := aC
     try dsimp only at h
     refine (show At _ _ _ [(0, vu al), (1, vi n), (2, vB a2)] _ from ?_)
     refine th (sq ?_)
     obtain ⟨a4, h, aE⟩ := bnd h
     refine WC.join (σ := (UInt64 × Int)) (fun x w' => (x.1, x.2) = a4 ∧ d = w') (fun x => [(0, vu x.1), (1, vi x.2), (2, vB a2)]) ?_ ?_
     ·refine sq (rg (wY (ym z) z (wY (Y.geq_u (b := 9007199254740992) z z) z (nl (th ?_)))))
      rcases cnd h with ⟨G, h⟩ | ⟨G, h⟩
      ·refine WC.condT' z G (sq (rg (wY (ym z) z (wY (Y.quo_u (b := 2) (by decide) z z) z ?_))))
       obtain ⟨a5, aF, h⟩ := lt1 h
       refine WL.yE (ya z) (congrArg vu aF.symm) z (nl (th (rg (wY (ym z) z (wY (Y.add_i z z) z ?_)))))
       obtain ⟨a6, aG, h⟩ := lt1 h
       refine WL.yE (ya z) (congrArg vi aG.symm) z (nl ?_)
       exact At.join (σ := (UInt64 × Int)) (a5, a6) ⟨some1 h, z⟩ (.cons z (.cons z (.cons z .nil)))
      ·refine WC.condF' z G (sk ?_)
       exact At.join (σ := (UInt64 × Int)) (al, n) ⟨some1 h, z⟩ (.cons z (.cons z (.cons z .nil)))
     ·rintro ⟨am, a7⟩ _ ⟨rfl, rfl⟩
      replace h := aE
      try dsimp only at h
      refine (show At _ _ _ [(0, vu am), (1, vi a7), (2, vB a2)] _ from ?_)
      refine th (sq (rg (wY (ya (v := vu 9218868437227405312) z) z (nl (th (sq ?_))))))
      obtain ⟨a8, h, aH⟩ := bnd h
      refine WC.join (σ := UInt64) (fun x w' => x = a8 ∧ d = w') (fun x => [(2, vB a2), (8, vu x)]) ?_ ?_
      ·refine sq (rg (wY (ym z) z (wY (Y.lss_i z z) z (nl (th ?_)))))
       rcases cnd h with ⟨H, h⟩ | ⟨H, h⟩
       ·refine WC.condT' z H (sq (rg (wY (ym z) z (wY (ya z) z (nl (th (sq (rg (wY (ym z) z ?_)))))))))
        refine wY (Y.geq_u (b := 4503599627370496) z z) z (nl (th ?_))
        rcases cnd h with ⟨I, h⟩ | ⟨I, h⟩
        ·refine WC.condT' z I (rg (wY (ym z) z (wY (Y.sub_u (b := 4503599627370496) z z) z (wY (ym z) z (wY (Y.conv_iu ty3.u ty33.u z) z (wY (Y.mul_u (b := 4503599627370496) z z) z (wY (Y.add_u z z) z ?_)))))))
         obtain ⟨U, S, h⟩ := lt1 h
         refine WL.yE (ya z) (congrArg vu S.symm) z (nl ?_)
         exact At.join (σ := UInt64) U ⟨some1 h, z⟩ (.cons z (.cons z .nil))
        ·refine WC.condF' z I (sk ?_)
         exact At.join (σ := UInt64) am ⟨some1 h, z⟩ (.cons z (.cons z .nil))
       ·refine WC.condF' z H (sk ?_)
        exact At.join (σ := UInt64) 9218868437227405312 ⟨some1 h, z⟩ (.cons z (.cons z .nil))
      ·rintro V _ ⟨rfl, rfl⟩
       replace h := aH
       try dsimp only at h
       refine (show At _ _ _ [(2, vB a2), (8, vu V)] _ from ?_)
       refine th (sq (sq (rg (wY (ym z) z (nl (th ?_))))))
       rcases cnd h with ⟨J, h⟩ | ⟨J, h⟩
       ·refine WC.condT' z J (sq (rg (wY (ym z) z (wY (Y.add_u (b := 9223372036854775808) z z) z ?_))))
        obtain ⟨bg, aI, h⟩ := lt1 h
        refine WL.yE (ya z) (congrArg vu aI.symm) z (nl (th (rt (At.thenR ?_))))
        obtain rfl := some1 h
        have aJ : Stp [] (Lg.O0 (fun _ => False)) w af d := (su_ p z)
        exact At.res (.inl z) z (.tmp z .nil) ⟨z, (se_ aJ z z)⟩
       ·refine WC.condF' z J (sk (th (sq (rg (wY (ym z) z (wY (ya z) z (nl (th (rt ?_)))))))))
        obtain rfl := some1 h
        have aK : Stp [] (Lg.O0 (fun _ => False)) w af d := (su_ p z)
        exact At.res (.inl z) z (.tmp z .nil) ⟨z, (se_ aK z z)⟩
theorem c_ref05_Add {a0 : UInt64} {a1 : UInt64} {w : World} {r0 : UInt64} (h : ref05_Add a0 a1 = some r0) : Rets Tryz.prog 60 [vu a0, vu a1] w (fun v w' => v = vu r0 ∧ Ext w w') := by
 unfold ref05_Add at h
 refine Rets.enter Tryz.func60 z z ?_
 refine (show WC _ _ _ _ [(0, vu a0), (1, vu a1)] _ from ?_)
 refine sq (rg (wY (ya (v := vu 0) z) z (nl (th (sq (sq (rg (wY (ym z) z ?_))))))))
 obtain ⟨cv, aX, h⟩ := bnd h
 refine WL.call (vals := [vu a0]) kok95 z z (c_ref05_Odd aX) ?_
 rintro ch aY ⟨rfl, aZ⟩
 obtain ⟨aa, bL, bM, l⟩ := adoptE (Lg.O0 (fun _ => False)) (fun k => 1) aZ
 refine wY (ym z) z ?_
 obtain ⟨bO, h, a2⟩ := bnd h
 refine WL.cut 3 (σ := (Bool × Own)) (fun x w' => x.1 = bO ∧ Stp [] aa aY x.2 w') (fun x => [(0, vu a0), (1, vu a1), (16, vB x.1)]) ?_ ?_
 ·rcases cnd h with ⟨P, h⟩ | ⟨P, h⟩
  ·refine WL.ren 13 z (congrArg vB P) (WL.gS z z z z (WL.gS z z z z (wY (Y.pick (b := true) z z) z ?_)))
   exact nl (At.join (σ := (Bool × Own)) (true, aa) ⟨some1 h, (sr_ _ _ _)⟩ (.cons z (.cons z (.cons z .nil))))
  ·refine WL.ren 13 z (congrArg vB P) (ug z z (wY (ym z) z (ug z z ?_)))
   obtain ⟨bP, a3, h⟩ := bnd h
   refine WL.call (vals := [vu a1]) kok95 z z (c_ref05_Odd a3) ?_
   rintro ci cj ⟨rfl, a4⟩
   obtain ⟨bQ, bR, bS, ap⟩ := adoptE aa (fun k => 1) a4
   refine wY (Y.pick (b := false) z z) z ?_
   exact nl (At.join (σ := (Bool × Own)) (bP, bQ) ⟨some1 h, (su_ ap z)⟩ (.cons z (.cons z (.cons z .nil))))
 ·rintro ⟨bT, aS⟩ a5 ⟨rfl, j⟩
  replace h := a2
  try dsimp only at h j
  refine (show WL _ _ _ _ _ [(0, vu a0), (1, vu a1), (16, vB bT)] _ from ?_)
  refine nl (th ?_)
  rcases cnd h with ⟨Q, h⟩ | ⟨Q, h⟩
  ·refine WC.condT' z Q (sq (rg (wY (ya (v := vu 9221120237041090561) z) z (nl (th (rt (At.thenR ?_)))))))
   obtain rfl := some1 h
   have a6 : Stp [] (Lg.O0 (fun _ => False)) w aS a5 := (tr_ (su_ l z) (su_ j z))
   exact At.res (.inl z) z (.tmp z .nil) ⟨z, (se_ a6 z z)⟩
  ·refine WC.condF' z Q (sk (th (sq (sq (rg (wY (ym z) z ?_))))))
   obtain ⟨cw, a7, h⟩ := bnd h
   refine WL.call (vals := [vu a0]) kok54 z z (c_ref05_Finite a7) ?_
   rintro ck a8 ⟨rfl, a9⟩
   obtain ⟨ab, bU, bW, o⟩ := adoptE aS (fun k => 1) a9
   refine wY (Y.not z) z (wY (ym z) z ?_)
   obtain ⟨bX, h, ba⟩ := bnd h
   refine WL.cut 4 (σ := (Bool × Own)) (fun x w' => x.1 = bX ∧ Stp [] ab a8 x.2 w') (fun x => [(0, vu a0), (1, vu a1), (24, vB x.1)]) ?_ ?_
   ·rcases cnd h with ⟨S, h⟩ | ⟨S, h⟩
    ·refine WL.ren 20 z (congrArg vB S) (ug z z (wY (ym z) z (ug z z ?_)))
     obtain ⟨bY, bb, h⟩ := bnd h
     refine WL.call (vals := [vu a1]) kok54 z z (c_ref05_Finite bb) ?_
     rintro cl cm ⟨rfl, bc⟩
     obtain ⟨bZ, b0, b1, aq⟩ := adoptE ab (fun k => 1) bc
     refine ug z z (wY (Y.not z) z (wY (Y.pick (b := true) z z) z ?_))
     exact nl (At.join (σ := (Bool × Own)) ((!bY), bZ) ⟨some1 h, (su_ aq z)⟩ (.cons z (.cons z (.cons z .nil))))
    ·refine WL.ren 20 z (congrArg vB S) (WL.gS z z z z (WL.gS z z z z (WL.gS z z z z (wY (Y.pick (b := false) z z) z ?_))))
     exact nl (At.join (σ := (Bool × Own)) (false, ab) ⟨some1 h, (sr_ _ _ _)⟩ (.cons z (.cons z (.cons z .nil))))
   ·rintro ⟨M, aT⟩ ac ⟨rfl, m⟩
    replace h := ba
    try dsimp only at h m
    refine (show WL _ _ _ _ _ [(0, vu a0), (1, vu a1), (24, vB M)] _ from ?_)
    refine wY (ym z) z ?_
    refine WL.cut 4 (σ := Unit) (fun _ w' => ac = w') (fun _ => [(0, vu a0), (1, vu a1), (29, vB (M && (!decide (a0 = a1))))]) ?_ ?_
    ·refine WL.part 25 z (fun T => ?_) (fun T => ?_)
     ·refine ug z z (wY (ym z) z (ug z z (wY (ym z) z (ug z z (wY (Y.neq_u z z) z (wY (Y.pick (b := true) z z) z (WL.ren (v' := vB (M && (!decide (a0 = a1)))) 29 z (congrArg vB (andT T)) ?_)))))))
      exact nl (At.join () z (.cons z (.cons z (.cons z .nil))))
     ·refine WL.gS z z z z (WL.gS z z z z (WL.gS z z z z (wY (Y.pick (b := false) z z) z (WL.ren (v' := vB (M && (!decide (a0 = a1)))) 29 z (congrArg vB (andF T)) ?_))))
      exact nl (At.join () z (.cons z (.cons z (.cons z .nil))))
    ·rintro _ _ rfl
     refine (show WL _ _ _ _ _ [(0, vu a0), (1, vu a1), (29, vB (M && (!decide (a0 = a1))))] _ from ?_)
     refine nl (th ?_)
     rcases cnd h with ⟨U, h⟩ | ⟨U, h⟩
     ·refine WC.condT' z U (sq (rg (wY (ya (v := vu 9221120237041090561) z) z (nl (th (rt (At.thenR ?_)))))))
      obtain rfl := some1 h
      have bd : Stp [] (Lg.O0 (fun _ => False)) w aT ac := (tr_ (su_ l z) (tr_ (su_ j z) (tr_ (su_ o z) (su_ m z))))
      exact At.res (.inl z) z (.tmp z .nil) ⟨z, (se_ bd z z)⟩
     ·refine WC.condF' z U (sk (th (sq (sq (rg (wY (ym z) z ?_))))))
      obtain ⟨cx, bf, h⟩ := bnd h
      refine WL.call (vals := [vu a0]) kok54 z z (c_ref05_Finite bf) ?_
      rintro cn bg ⟨rfl, bh⟩
      obtain ⟨aU, b2, b3, r⟩ := adoptE aT (fun k => 1) bh
      refine wY (Y.not z) z (nl (th ?_))
      rcases cnd h with ⟨V, h⟩ | ⟨V, h⟩
      ·refine WC.condT' z V (sq (rg (wY (ym z) z (wY (ya z) z (nl (th (rt (At.thenR ?_))))))))
       obtain rfl := some1 h
       have bi : Stp [] (Lg.O0 (fun _ => False)) w aU bg := (tr_ (su_ l z) (tr_ (su_ j z) (tr_ (su_ o z) (tr_ (su_ m z) (su_ r z)))))
       exact At.res (.inl z) z (.tmp z .nil) ⟨z, (se_ bi z z)⟩
      ·refine WC.condF' z V (sk (th (sq (sq (rg (wY (ym z) z ?_))))))
       obtain ⟨cy, bj, h⟩ := bnd h
       refine WL.call (vals := [vu a1]) kok54 z z (c_ref05_Finite bj) ?_
       rintro co bk ⟨rfl, bl⟩
       obtain ⟨aW, b4, b5, t⟩ := adoptE aU (fun k => 1) bl
       refine wY (Y.not z) z (nl (th ?_))
       rcases cnd h with ⟨W, h⟩ | ⟨W, h⟩
       ·refine WC.condT' z W (sq (rg (wY (ym z) z (wY (ya z) z (nl (th (rt (At.thenR ?_))))))))
        obtain rfl := some1 h
        have bm : Stp [] (Lg.O0 (fun _ => False)) w aW bk := (tr_ (su_ l z) (tr_ (su_ j z) (tr_ (su_ o z) (tr_ (su_ m z) (tr_ (su_ r z) (su_ t z))))))
        exact At.res (.inl z) z (.tmp z .nil) ⟨z, (se_ bm z z)⟩
       ·refine WC.condF' z W (sk (th (sq (rg (wY (ym z) z ?_)))))
        obtain ⟨⟨cz, ad⟩, bn, h⟩ := bnd h
        refine WL.call (vals := [vu a0]) kok101 z z (c_ref05_wide bn) ?_
        rintro cq cr ⟨rfl, bo⟩
        obtain ⟨b6, b7, b8, D⟩ := adoptE aW (fun k => 1) bo
        refine wY (ym z) z (wY (yx z z) z (wY (yx z z) z (wY (ya z) z (wY (ya z) z (nl (th (sq (rg (wY (ym z) z ?_)))))))))
        obtain ⟨⟨cA, ae⟩, ar, h⟩ := bnd h
        refine WL.call (vals := [vu a1]) kok101 z z (c_ref05_wide ar) ?_
        rintro b9 au ⟨rfl, av⟩
        obtain ⟨X, bz, bA, C⟩ := adoptE b6 (fun k => 1) av
        refine wY (ym z) z (wY (yx z z) z (wY (yx z z) z (wY (ya z) z (wY (ya z) z (nl (th (sq (rg (wY (ym z) z ?_)))))))))
        refine wY (Y.mul_u (a := 8) z z) z ?_
        obtain ⟨af, ax, h⟩ := lt1 h
        refine WL.yE (ya z) (congrArg vu ax.symm) z (nl (th (sq (rg (wY (ym z) z (wY (Y.mul_u (a := 8) z z) z ?_))))))
        obtain ⟨Z, ah, h⟩ := lt1 h
        refine WL.yE (ya z) (congrArg vu ah.symm) z (nl (th (sq ?_)))
        obtain ⟨bp, h, ay⟩ := bnd h
        refine WC.join (σ := (UInt64 × Int × UInt64 × Own)) (fun x w' => (x.1, x.2.1, x.2.2.1) = bp ∧ Stp [] X au x.2.2.2 w') (fun x => [(0, vu a0), (1, vu a1), (5, vu x.1), (6, vi x.2.1), (7, vu x.2.2.1)]) ?_ ?_
        ·refine sq (rg (wY (ym z) z (wY (ym z) z (wY (Y.lss_i z z) z (nl (th ?_))))))
         rcases cnd h with ⟨E, h⟩ | ⟨E, h⟩
         ·refine WC.condT' z E (sq (rg (wY (ym z) z (wY (ym z) z (wY (ym z) z (wY (Y.sub_i z z) z ?_))))))
          obtain ⟨bq, az, h⟩ := bnd h
          refine WL.call (vals := [vu af, vi (w64 (ae - ad))]) kok102 z z (c_ref05_shifted az) ?_
          rintro ca cb ⟨rfl, aA⟩
          obtain ⟨br, bB, bC, ai⟩ := adoptE X (fun k => 1) aA
          refine wY (ya z) z (nl (th (rg (wY (ym z) z (wY (ya z) z (nl ?_))))))
          exact At.join (σ := (UInt64 × Int × UInt64 × Own)) (bq, ae, Z, br) ⟨some1 h, (su_ ai z)⟩ (.cons z (.cons z (.cons z (.cons z (.cons z .nil)))))
         ·refine WC.condF' z E (rg (wY (ym z) z (wY (ym z) z (wY (ym z) z (wY (Y.sub_i z z) z ?_)))))
          obtain ⟨bs, aC, h⟩ := bnd h
          refine WL.call (vals := [vu Z, vi (w64 (ad - ae))]) kok102 z z (c_ref05_shifted aC) ?_
          rintro cc cd ⟨rfl, aD⟩
          obtain ⟨bt, bD, bE, aj⟩ := adoptE X (fun k => 1) aD
          refine wY (ya z) z (nl ?_)
          exact At.join (σ := (UInt64 × Int × UInt64 × Own)) (af, ad, bs, bt) ⟨some1 h, (su_ aj z)⟩ (.cons z (.cons z (.cons z (.cons z (.cons z .nil)))))
        ·rintro ⟨d, p, c, F⟩ G ⟨rfl, q⟩
         replace h := ay
         try dsimp only at h q
         refine (show At _ _ _ [(0, vu a0), (1, vu a1), (5, vu d), (6, vi p), (7, vu c)] _ from ?_)
         refine th (sq (rg (wY (ym z) z (wY (Y.geq_u (b := 9223372036854775808) z z) z (wY (ym z) z (wY (Y.geq_u (b := 9223372036854775808) z z) z ?_))))))
         obtain ⟨n, ak, h⟩ := lt1 h
         refine WL.yE (ya z) (congrArg vB ak.symm) z ?_
         obtain ⟨aE, al, h⟩ := lt1 h
         refine WL.yE (ya z) (congrArg vB al.symm) z (nl (th (sq (sq (rg (wY (ym z) z (wY (ym z) z (wY (Y.eqlB z z ty4.u) z (nl ?_)))))))))
         refine th ?_
         rcases cnd h with ⟨H, h⟩ | ⟨H, h⟩
         ·refine WC.condT' z H (sq (sq (rg (wY (ym z) z (wY (Y.eql_u (b := 0) z z) z (wY (ym z) z ?_))))))
          refine WL.cut 3 (σ := Unit) (fun _ w' => G = w') (fun _ => [(0, vu a0), (5, vu d), (6, vi p), (7, vu c), (9, vB n), (78, vB ((decide (d = 0)) && (decide (c = 0))))]) ?_ ?_
          ·refine WL.part 75 z (fun I => ?_) (fun I => ?_)
           ·refine ug z z (wY (ym z) z (ug z z (wY (Y.eql_u (b := 0) z z) z (wY (Y.pick (b := true) z z) z (WL.ren (v' := vB ((decide (d = 0)) && (decide (c = 0)))) 78 z (congrArg vB (andT I)) ?_)))))
            exact nl (At.join () z (.cons z (.cons z (.cons z (.cons z (.cons z (.cons z .nil)))))))
           ·refine WL.gS z z z z (WL.gS z z z z (wY (Y.pick (b := false) z z) z (WL.ren (v' := vB ((decide (d = 0)) && (decide (c = 0)))) 78 z (congrArg vB (andF I)) ?_)))
            exact nl (At.join () z (.cons z (.cons z (.cons z (.cons z (.cons z (.cons z .nil)))))))
          ·rintro _ _ rfl
           refine (show WL _ _ _ _ _ [(0, vu a0), (5, vu d), (6, vi p), (7, vu c), (9, vB n), (78, vB ((decide (d = 0)) && (decide (c = 0))))] _ from ?_)
           refine nl (th ?_)
           rcases cnd h with ⟨J, h⟩ | ⟨J, h⟩
           ·refine WC.condT' z J (sq (rg (wY (ym z) z (wY (ya z) z (nl (th (rt (At.thenR (At.thenR ?_)))))))))
            obtain rfl := some1 h
            have aF : Stp [] (Lg.O0 (fun _ => False)) w F G := (tr_ (su_ l z) (tr_ (su_ j z) (tr_ (su_ o z) (tr_ (su_ m z) (tr_ (su_ r z) (tr_ (su_ t z) (tr_ (su_ D z) (tr_ (su_ C z) (su_ q z)))))))))
            exact At.res (.inl z) z (.tmp z .nil) ⟨z, (se_ aF z z)⟩
           ·refine WC.condF' z J (sk (th (sq (rg (wY (ym z) z (wY (ym z) z (wY (Y.add_u z z) z (wY (ym z) z (wY (ym z) z ?_)))))))))
            obtain ⟨cs, aG, h⟩ := bnd h
            refine WL.call (vals := [vu (d + c), vi p, vB n]) kok103 z z (c_ref05_round aG) ?_
            rintro ce aH ⟨rfl, aI⟩
            obtain ⟨bu, bF, bG, am⟩ := adoptE F (fun k => 1) aI
            refine wY (ya z) z (nl (th (rt (At.thenR ?_))))
            obtain rfl := some1 h
            have aJ : Stp [] (Lg.O0 (fun _ => False)) w bu aH := (tr_ (su_ l z) (tr_ (su_ j z) (tr_ (su_ o z) (tr_ (su_ m z) (tr_ (su_ r z) (tr_ (su_ t z) (tr_ (su_ D z) (tr_ (su_ C z) (tr_ (su_ q z) (su_ am z))))))))))
            exact At.res (.inl z) z (.tmp z .nil) ⟨z, (se_ aJ z z)⟩
         ·refine WC.condF' z H (sk (th (sq (sq (rg (wY (ym z) z (wY (ym z) z (wY (Y.geq_u z z) z (nl ?_)))))))))
          refine th ?_
          rcases cnd h with ⟨K, h⟩ | ⟨K, h⟩
          ·refine WC.condT' z K (sq (rg (wY (ym z) z (wY (ym z) z (wY (Y.sub_u z z) z (wY (ym z) z (wY (ym z) z (wY (ym z) z ?_))))))))
           refine WL.cut 4 (σ := Unit) (fun _ w' => G = w') (fun _ => [(91, vu (d - c)), (92, vi p), (98, vB (n && (decide (c < d))))]) ?_ ?_
           ·refine WL.part 94 z (fun L => ?_) (fun L => ?_)
            ·refine ug z z (wY (ym z) z (ug z z (wY (ym z) z (ug z z (wY (Y.gtr_u z z) z (wY (Y.pick (b := true) z z) z (WL.ren (v' := vB (n && (decide (c < d)))) 98 z (congrArg vB (andT L)) ?_)))))))
             exact nl (At.join () z (.cons z (.cons z (.cons z .nil))))
            ·refine WL.gS z z z z (WL.gS z z z z (WL.gS z z z z (wY (Y.pick (b := false) z z) z (WL.ren (v' := vB (n && (decide (c < d)))) 98 z (congrArg vB (andF L)) ?_))))
             exact nl (At.join () z (.cons z (.cons z (.cons z .nil))))
           ·rintro _ _ rfl
            refine (show WL _ _ _ _ _ [(91, vu (d - c)), (92, vi p), (98, vB (n && (decide (c < d))))] _ from ?_)
            obtain ⟨ct, aK, h⟩ := bnd h
            refine WL.call (vals := [vu (d - c), vi p, vB (n && (decide (c < d)))]) kok103 z z (c_ref05_round aK) ?_
            rintro cf aL ⟨rfl, aM⟩
            obtain ⟨bw, bH, bI, an⟩ := adoptE F (fun k => 1) aM
            refine wY (ya z) z (nl (th (rt (At.thenR ?_))))
            obtain rfl := some1 h
            have aN : Stp [] (Lg.O0 (fun _ => False)) w bw aL := (tr_ (su_ l z) (tr_ (su_ j z) (tr_ (su_ o z) (tr_ (su_ m z) (tr_ (su_ r z) (tr_ (su_ t z) (tr_ (su_ D z) (tr_ (su_ C z) (tr_ (su_ q z) (su_ an z))))))))))
            exact At.res (.inl z) z (.tmp z .nil) ⟨z, (se_ aN z z)⟩
          ·refine WC.condF' z K (sk (th (sq (rg (wY (ym z) z (wY (ym z) z (wY (Y.sub_u z z) z (wY (ym z) z (wY (ym z) z ?_)))))))))
           obtain ⟨cu, aO, h⟩ := bnd h
           refine WL.call (vals := [vu (c - d), vi p, vB aE]) kok103 z z (c_ref05_round aO) ?_
           rintro cg aP ⟨rfl, aQ⟩
           obtain ⟨bx, bJ, bK, ao⟩ := adoptE F (fun k => 1) aQ
           refine wY (ya z) z (nl (th (rt ?_)))
           obtain rfl := some1 h
           have aR : Stp [] (Lg.O0 (fun _ => False)) w bx aP := (tr_ (su_ l z) (tr_ (su_ j z) (tr_ (su_ o z) (tr_ (su_ m z) (tr_ (su_ r z) (tr_ (su_ t z) (tr_ (su_ D z) (tr_ (su_ C z) (tr_ (su_ q z) (su_ ao z))))))))))
           exact At.res (.inl z) z (.tmp z .nil) ⟨z, (se_ aR z z)⟩
theorem c_ref08_Trim {A : Nat → Prop} {v0_1 : Value} {a0 : api_Side} {w : World} (hs0_1 : Sl Rep.u w A v0_1 a0.Counts) {r0 : api_Side} (h : ref08_Trim a0 = some r0) : Rets Tryz.prog 130 [ag [vi a0.Offset, v0_1]] w (fun v w' => ∃ (ae : Value), v = ag [vi r0.Offset, ae] ∧ Ext w w' ∧ RowF Rep.u 33 w w' ae r0.Counts) := by
 unfold ref08_Trim at h
 refine Rets.enter Tryz.func130 z z ?_
 have af : Sl Rep.u w (imm (Lg.O0 A)) v0_1 a0.Counts := (Sl.start hs0_1)
 refine (show WC _ _ _ _ [(0, ag [vi a0.Offset, v0_1])] _ from ?_)
 refine sq (rg ?_)
 have bf := h
 obtain ⟨a1, a2, a3, rfl⟩ := af.shape
 have h := bf
 refine WL.box (O := (Lg.O0 A)) 11 [vi a0.Offset, (vl a1 a2 a3)] z z z ?_
 intro cc bH b5 t bg
 refine WL.alloc (O := bH) 12 [vi 0, sn] ty36 z z ?_
 intro d W P q ah
 refine nl (th (sq (rg (wY (yf fo36_1 z) z ?_))))
 have ai := bg.st q z
 refine wY (yl ty34 z z (ai.cell 1 _ z)) z (wY (ya z) z (nl (th (sq (rg (wY (yf fo36_0 z) z (wY (yl ty3 z z (ai.cell 0 _ z)) z (wY (ya z) z (nl ?_)))))))))
 refine th (sq ?_)
 obtain ⟨bI, h, bh⟩ := bnd h
 refine WC.join (σ := (List UInt64 × Int × Own × Value)) (fun x w' => (x.1, x.2.1) = bI ∧ Stp [] W P x.2.2.1 w' ∧ Sl Rep.u w' (imm x.2.2.1) x.2.2.2 x.1) (fun x => [(2, pt d 0), (3, x.2.2.2), (4, vi x.2.1)]) ?_ ?_
 ·refine WC.block ?_
  obtain ⟨a4, h, bi⟩ := flow1 h
  obtain ⟨a5, h⟩ := loop_some h
  refine WC.joinB 0 (σ := (List UInt64 × Int × Own × Value)) (fun x w' => a4 = .go (x.1, x.2.1) ∧ Stp [] W P x.2.2.1 w' ∧ Sl Rep.u w' (imm x.2.2.1) x.2.2.2 x.1) (fun x => [(2, pt d 0), (3, x.2.2.2), (4, vi x.2.1)]) ?_ ?_
  ·have bk := (af.i t z z).i q z z
   refine WC.loop (σ := (List UInt64 × Int × Own × Value)) (fun x k w' => loopN k (ref08_Trim_lp1) (x.1, x.2.1) = some a4 ∧ Stp [] W P x.2.2.1 w' ∧ Sl Rep.u w' (imm x.2.2.1) x.2.2.2 x.1) (fun x => [(2, pt d 0), (3, x.2.2.2), (4, vi x.2.1)]) (a0.Counts, a0.Offset, W, (vl a1 a2 a3)) a5 (.cons z (.cons z (.cons z .nil))) ⟨h, (sr_ _ _ _), bk⟩ ?_
   rintro ⟨bJ, C, a6, J⟩ a5 bl ⟨h, D, r⟩
   obtain ⟨bK, cd, rfl, h, aj⟩ := rnd1 h
   unfold ref08_Trim_lp1 at h
   try dsimp only at h D r
   refine (show WC _ _ _ _ [(2, pt d 0), (3, J), (4, vi C)] _ from ?_)
   refine sq (sq (rg (wY (ym z) z (wY (Y.len ty34 z r) z (wY (Y.gtr_i z z) z (wY (ym z) z ?_))))))
   obtain ⟨bL, h, bm⟩ := bnd h
   refine WL.cut 5 (σ := Bool) (fun x w' => x = bL ∧ bl = w') (fun x => [(2, pt d 0), (3, J), (4, vi C), (18, vB x)]) ?_ ?_
   ·rcases cnd h with ⟨Q, h⟩ | ⟨Q, h⟩
    ·refine WL.ren 13 z (congrArg vB Q) (ug z z (wY (ym z) z (ug z z ?_)))
     obtain ⟨a7, bn, h⟩ := bnd h
     obtain ⟨ce, b0, b1, b6, bo, bp, bq, S, ay, br⟩ := Sl.at2 r bn
     obtain rfl := ay
     replace S : CellsAt _ _ _ [vu a7] := S
     have az := CAt.imm S br
     refine wY (Y.indexAddr ty34 ty33 z bo z bp bq) z (ug z z (wY (yl ty33 z z az.at_) z (ug z z (wY (Y.eql_u (b := 0) z z) z (wY (Y.pick (b := true) z z) z ?_)))))
     exact nl (At.join (σ := Bool) (decide (a7 = 0)) ⟨some1 h, z⟩ (.cons z (.cons z (.cons z (.cons z .nil)))))
    ·refine WL.ren 13 z (congrArg vB Q) (WL.gS z z z z (WL.gS z z z z (WL.gS z z z z (WL.gS z z z z (wY (Y.pick (b := false) z z) z ?_)))))
     exact nl (At.join (σ := Bool) false ⟨some1 h, z⟩ (.cons z (.cons z (.cons z (.cons z .nil)))))
   ·rintro bM _ ⟨rfl, rfl⟩
    replace h := bm
    try dsimp only at h
    refine (show WL _ _ _ _ _ [(2, pt d 0), (3, J), (4, vi C), (18, vB bM)] _ from ?_)
    refine nl (th ?_)
    rcases cnd h with ⟨T, h⟩ | ⟨T, h⟩
    ·refine WC.condT' z T (sk (th (WC.block (sq (rg (wY (ym z) z ?_))))))
     obtain ⟨bO, bs, h⟩ := bnd h
     obtain ⟨bP, bt, bu⟩ := Sl.slice (ρ := [(19, J)]) (x := (.tmp 19)) (lo := (some (.const (.int .i64 1)))) (hi := none) ty34 ty33 rfl rfl rfl r bs
     refine wY (Y.sub (.cons z .nil) (bt _ _)) z (wY (ya z) z (nl (th (rg (wY (ym z) z (wY (Y.add_i z z) z ?_))))))
     obtain ⟨bw, aA, h⟩ := lt1 h
     refine WL.yE (ya z) (congrArg vi aA.symm) z (nl (At.inBlock ?_))
     exact At.round (bO, bw, a6, bP) bK (Nat.lt_succ_self _) ⟨next1 h aj, (su_ D z), bu⟩ (.cons z (.cons z (.cons z .nil)))
    ·refine WC.condF' z T (WC.exit (At.thenX (At.loopX ?_)))
     exact At.hitB (σ := (List UInt64 × Int × Own × Value)) (bJ, C, a6, J) ⟨brk1 h aj, (su_ D z), r⟩ (.cons z (.cons z (.cons z .nil)))
  ·rintro ⟨bQ, ak, bR, a8⟩ b7 ⟨rfl, X, al⟩
   replace h := flowK_go bi
   try dsimp only at h X al
   refine (show At _ _ _ [(2, pt d 0), (3, a8), (4, vi ak)] _ from ?_)
   refine At.inBlockHit ?_
   exact At.join (σ := (List UInt64 × Int × Own × Value)) (bQ, ak, bR, a8) ⟨some1 h, (su_ X z), al⟩ (.cons z (.cons z (.cons z .nil)))
 ·rintro ⟨bS, c, Z, a9⟩ U ⟨rfl, l, am⟩
  replace h := bh
  try dsimp only at h l am
  refine (show At _ _ _ [(2, pt d 0), (3, a9), (4, vi c)] _ from ?_)
  refine th (sq ?_)
  obtain ⟨bT, h, bx⟩ := bnd h
  refine WC.join (σ := (List UInt64 × Own × Value)) (fun x w' => x.1 = bT ∧ Stp [] Z U x.2.1 w' ∧ Sl Rep.u w' (imm x.2.1) x.2.2 x.1) (fun x => [(2, pt d 0), (3, x.2.2), (4, vi c)]) ?_ ?_
  ·refine WC.block ?_
   obtain ⟨an, h, aC⟩ := flow1 h
   obtain ⟨ao, h⟩ := loop_some h
   refine WC.joinB 2 (σ := (List UInt64 × Own × Value)) (fun x w' => an = .go x.1 ∧ Stp [] Z U x.2.1 w' ∧ Sl Rep.u w' (imm x.2.1) x.2.2 x.1) (fun x => [(2, pt d 0), (3, x.2.2), (4, vi c)]) ?_ ?_
   ·refine WC.loop (σ := (List UInt64 × Own × Value)) (fun x k w' => loopN k (ref08_Trim_lp2) x.1 = some an ∧ Stp [] Z U x.2.1 w' ∧ Sl Rep.u w' (imm x.2.1) x.2.2 x.1) (fun x => [(2, pt d 0), (3, x.2.2), (4, vi c)]) (bS, Z, a9) ao (.cons z (.cons z (.cons z .nil))) ⟨h, (sr_ _ _ _), am⟩ ?_
    rintro ⟨ba, bb, K⟩ ao bz ⟨h, E, j⟩
    obtain ⟨bA, b8, rfl, h, aa⟩ := rnd1 h
    unfold ref08_Trim_lp2 at h
    try dsimp only at h E j
    refine (show WC _ _ _ _ [(2, pt d 0), (3, K), (4, vi c)] _ from ?_)
    refine sq (sq (rg (wY (ym z) z (wY (Y.len ty34 z j) z (wY (Y.gtr_i z z) z (wY (ym z) z ?_))))))
    obtain ⟨bB, h, aD⟩ := bnd h
    refine WL.cut 8 (σ := Bool) (fun x w' => x = bB ∧ bz = w') (fun x => [(2, pt d 0), (3, K), (4, vi c), (34, vB x)]) ?_ ?_
    ·rcases cnd h with ⟨F, h⟩ | ⟨F, h⟩
     ·refine WL.ren 26 z (congrArg vB F) (ug z z (wY (ym z) z (ug z z (wY (ym z) z (ug z z (wY (Y.len ty34 z j) z (ug z z (wY (Y.sub_i z z) z (ug z z ?_)))))))))
      obtain ⟨ap, aE, h⟩ := bnd h
      obtain ⟨b9, bU, bW, b2, aF, aG, aH, G, aq, aI⟩ := Sl.at2 j aE
      obtain rfl := aq
      replace G : CellsAt _ _ _ [vu ap] := G
      have ar := CAt.imm G aI
      refine wY (Y.indexAddr ty34 ty33 z aF z aG aH) z (ug z z (wY (yl ty33 z z ar.at_) z (ug z z (wY (Y.eql_u (b := 0) z z) z (wY (Y.pick (b := true) z z) z ?_)))))
      exact nl (At.join (σ := Bool) (decide (ap = 0)) ⟨some1 h, z⟩ (.cons z (.cons z (.cons z (.cons z .nil)))))
     ·refine WL.ren 26 z (congrArg vB F) (WL.gS z z z z (WL.gS z z z z (WL.gS z z z z (WL.gS z z z z (WL.gS z z z z (WL.gS z z z z (WL.gS z z z z (wY (Y.pick (b := false) z z) z ?_))))))))
      exact nl (At.join (σ := Bool) false ⟨some1 h, z⟩ (.cons z (.cons z (.cons z (.cons z .nil)))))
    ·rintro bC _ ⟨rfl, rfl⟩
     replace h := aD
     try dsimp only at h
     refine (show WL _ _ _ _ _ [(2, pt d 0), (3, K), (4, vi c), (34, vB bC)] _ from ?_)
     refine nl (th ?_)
     rcases cnd h with ⟨H, h⟩ | ⟨H, h⟩
     ·refine WC.condT' z H (sk (th (WC.block (rg (wY (ym z) z (wY (ym z) z (wY (Y.len ty34 z j) z (wY (Y.sub_i z z) z ?_))))))))
      obtain ⟨bD, aJ, h⟩ := bnd h
      obtain ⟨bE, aK, aL⟩ := Sl.slice (ρ := [(35, K), (38, vi (w64 ((ba.length : Int) - 1)))]) (x := (.tmp 35)) (lo := none) (hi := (some (.tmp 38))) ty34 ty33 rfl rfl rfl j aJ
      refine wY (Y.sub (.cons z (.cons z .nil)) (aK _ _)) z (wY (ya z) z (nl (At.inBlock ?_)))
      exact At.round (bD, bb, bE) bA (Nat.lt_succ_self _) ⟨next1 h aa, (su_ E z), aL⟩ (.cons z (.cons z (.cons z .nil)))
     ·refine WC.condF' z H (WC.exit (At.thenX (At.loopX ?_)))
      exact At.hitB (σ := (List UInt64 × Own × Value)) (ba, bb, K) ⟨brk1 h aa, (su_ E z), j⟩ (.cons z (.cons z (.cons z .nil)))
   ·rintro ⟨bX, bY, bc⟩ ca ⟨rfl, ab, au⟩
    replace h := flowK_go aC
    try dsimp only at h ab au
    refine (show At _ _ _ [(2, pt d 0), (3, bc), (4, vi c)] _ from ?_)
    refine At.inBlockHit ?_
    exact At.join (σ := (List UInt64 × Own × Value)) (bX, bY, bc) ⟨some1 h, (su_ ab z), au⟩ (.cons z (.cons z (.cons z .nil)))
  ·rintro ⟨cf, bd, bZ⟩ bF ⟨rfl, m, V⟩
   replace h := bx
   try dsimp only at h m V
   refine (show At _ _ _ [(2, pt d 0), (3, bZ), (4, vi c)] _ from ?_)
   refine th (sq (sq (rg (wY (ym z) z (wY (Y.len ty34 z V) z (wY (Y.eql_i z z) z (nl (th ?_))))))))
   rcases cnd h with ⟨I, h⟩ | ⟨I, h⟩
   ·refine WC.condT' z I (sq (rg (wY (yb (vals := []) (cells := [vi 0, sn]) (fe_ z) (by kernel_rfl)) z ?_)))
    have aN := (ah.st l z).st m z
    refine WL.store (v := ag [vi 0, sn]) (cells' := [vi 0, sn]) ty36 z z aN z (le_ z) z z ?_
    intro aO av aP
    refine nl (th (rt (At.thenR ?_)))
    obtain rfl := some1 h
    have aQ : Stp [12] (Lg.O0 A) w bd aO := (tr_ (su_ t z) (tr_ (su_ q z) (tr_ (su_ l z) (tr_ (su_ m z) (su_ av z)))))
    exact At.res (.inl z) z (.cell z (aP.runAg 0 [vi 0, sn] ty36 z z z) .nil) ⟨sn, z, (se_ aQ z z), RowF.nil⟩
   ·refine WC.condF' z I (sk (th (sq (rg (wY (ya z) z (nl (th (sq (rg ?_)))))))))
    refine wY (ym z) z (wY (ym z) z ?_)
    obtain ⟨b3, ax, h⟩ := bnd h
    have aR := OwnSl.nil (O := bd) (w := bF) 13 Rep.u 33
    refine WL.append (by decide) ty34 ty33 z (by decide) z z aR (Sl.src V) ax z ?_
    intro cb bG b4 L ac
    refine wY (ya z) z (nl (th (sq (rg (wY (ym z) z (wY (ym z) z ?_))))))
    have aS := h
    obtain ⟨n, o, p, rfl⟩ := ac.shape
    have h := aS
    refine wY (yb (vals := [(0, vi c), (1, (vl n o p))]) (cells := [vi c, (vl n o p)]) (fe_ z) (by kernel_rfl)) z ?_
    have aW := ((ah.st l z).st m z).st L z
    refine WL.store (v := ag [vi c, (vl n o p)]) (cells' := [vi c, (vl n o p)]) ty36 z z aW z (le_ z) z z ?_
    intro aX M aY
    refine nl (th (rt ?_))
    obtain rfl := some1 h
    have ad : Stp [12, 13] (Lg.O0 A) w bG aX := (tr_ (su_ t z) (tr_ (su_ q z) (tr_ (su_ l z) (tr_ (su_ m z) (tr_ (su_ L z) (su_ M z))))))
    have aZ := ac.st M z z z
    exact At.res (.inl z) z (.cell z (aY.runAg 0 [vi c, (vl n o p)] ty36 z z z) .nil) ⟨(vl n o p), z, (se_ ad z z), (OwnSl.outF aZ ad low0 z)⟩
theorem c_ref08_half {a0 : Int} {w : World} {r0 : Int} (h : ref08_half a0 = some r0) : Rets Tryz.prog 150 [vi a0] w (fun v w' => v = vi r0 ∧ Ext w w') := by
 unfold ref08_half at h
 refine Rets.enter Tryz.func150 z z ?_
 refine (show WC _ _ _ _ [(0, vi a0)] _ from ?_)
 refine sq (rg (wY (ya z) z (nl (th (sq (sq (rg (wY (ym z) z (wY (Y.lss_i z z) z ?_)))))))))
 refine nl (th ?_)
 rcases cnd h with ⟨c, h⟩ | ⟨c, h⟩
 ·refine WC.condT' z c (sq (rg (wY (ym z) z (wY (Y.sub_i z z) z (wY (Y.quo_i (by decide) z z) z (wY (Y.sub_i z z) z ?_))))))
  obtain ⟨n, d, h⟩ := lt1 h
  refine WL.yE (ya z) (congrArg vi d.symm) z (nl (th (rt (At.thenR ?_))))
  obtain rfl := some1 h
  have j : Stp [] (Lg.O0 (fun _ => False)) w (Lg.O0 (fun _ => False)) w := (sr_ _ _ _)
  exact At.res (.inl z) z (.tmp z .nil) ⟨z, (se_ j z z)⟩
 ·refine WC.condF' z c (sk (th (sq (rg (wY (ym z) z (wY (Y.quo_i (by decide) z z) z ?_))))))
  obtain ⟨o, l, h⟩ := lt1 h
  refine WL.yE (ya z) (congrArg vi l.symm) z (nl (th (rt ?_)))
  obtain rfl := some1 h
  have m : Stp [] (Lg.O0 (fun _ => False)) w (Lg.O0 (fun _ => False)) w := (sr_ _ _ _)
  exact At.res (.inl z) z (.tmp z .nil) ⟨z, (se_ m z z)⟩
theorem c_ref08_once {A : Nat → Prop} {v0_1 : Value} {a0 : api_Side} {w : World} (hs0_1 : Sl Rep.u w A v0_1 a0.Counts) {r0 : api_Side} (h : ref08_once a0 = some r0) : Rets Tryz.prog 131 [ag [vi a0.Offset, v0_1]] w (fun v w' => ∃ (aT : Value), v = ag [vi r0.Offset, aT] ∧ Ext w w' ∧ RowF Rep.u 33 w w' aT r0.Counts) := by
 unfold ref08_once at h
 refine Rets.enter Tryz.func131 z z ?_
 have aU : Sl Rep.u w (imm (Lg.O0 A)) v0_1 a0.Counts := (Sl.start hs0_1)
 refine (show WC _ _ _ _ [(0, ag [vi a0.Offset, v0_1])] _ from ?_)
 refine sq (rg ?_)
 have cC := h
 obtain ⟨c8, c9, da, rfl⟩ := aU.shape
 have h := cC
 refine WL.box (O := (Lg.O0 A)) 11 [vi a0.Offset, (vl c8 c9 da)] z z z ?_
 intro aG db dR aH cD
 refine WL.alloc (O := db) 12 [vi 0, sn] ty36 z z ?_
 intro H dc dS J cE
 refine nl (th (sq (rg (WL.alloc (O := dc) 13 [vi 0, sn] ty36 z z ?_))))
 intro n aW aX q cF
 refine nl (th (sq (sq (rg (wY (ya z) z (nl (th (WC.block ?_))))))))
 obtain ⟨cx, h, cG⟩ := flow1 h
 obtain ⟨cy, h⟩ := loop_some h
 refine WC.joinB 0 (σ := (Int × List UInt64 × Own × Value)) (fun x w' => cx = .go (x.1, x.2.1) ∧ Stp [13, 14, 15, 16, 1001, 1002] aW aX x.2.2.1 w' ∧ OwnSl 1003 Rep.u 33 x.2.2.1 w' x.2.2.2 x.2.1 ∧ Blk 13 x.2.2.1 w' n 36 [vi x.1, x.2.2.2]) (fun x => [(2, pt H 0), (3, pt n 0)]) ?_ ?_
 ·refine WC.loop (σ := (Int × List UInt64 × Int × Own × Value)) (fun x k w' => loopN k (ref08_once_lp1 a0) (x.1, x.2.1, x.2.2.1) = some cx ∧ Stp [13, 14, 15, 16, 1001, 1002] aW aX x.2.2.2.1 w' ∧ OwnSl 1002 Rep.u 33 x.2.2.2.1 w' x.2.2.2.2 x.2.1 ∧ Blk 13 x.2.2.2.1 w' n 36 [vi x.1, x.2.2.2.2]) (fun x => [(1, pt aG 0), (2, pt H 0), (3, pt n 0), (4, vi x.2.2.1)]) (0, [], 0, aW, sn) cy (.cons z (.cons z (.cons z (.cons z .nil)))) ⟨h, (sr_ _ _ _), (OwnSl.nil 1002 Rep.u 33), cF⟩ ?_
  rintro ⟨Z, dd, aI, cz, cA⟩ cy cH ⟨h, o, an, ao⟩
  obtain ⟨de, ek, rfl, h, aY⟩ := rnd1 h
  unfold ref08_once_lp1 at h
  try dsimp only at h o an ao
  refine (show WC _ _ _ _ [(1, pt aG 0), (2, pt H 0), (3, pt n 0), (4, vi aI)] _ from ?_)
  refine sq (sq (rg (wY (ym z) z (wY (yf fo36_1 z) z ?_))))
  have r := ((cD.st J z).st q z).st o z
  refine wY (yl ty34 z z (r.cell 1 _ z)) z ?_
  have K := (((aU.i aH z z).i J z z).i q z z).i o z z
  refine wY (Y.len ty34 z K) z (wY (Y.lss_i z z) z (nl (th ?_)))
  rcases cnd h with ⟨ap, h⟩ | ⟨ap, h⟩
  ·refine WC.condT' z ap (sk (th (sq ?_)))
   obtain ⟨df, h, cN⟩ := bnd h
   refine WC.join (σ := (Int × List UInt64 × Own × Value)) (fun x w' => (x.1, x.2.1) = df ∧ Stp [13, 14, 15, 1002] cz cH x.2.2.1 w' ∧ OwnSl 1001 Rep.u 33 x.2.2.1 w' x.2.2.2 x.2.1 ∧ Blk 13 x.2.2.1 w' n 36 [vi x.1, x.2.2.2]) (fun x => [(1, pt aG 0), (2, pt H 0), (3, pt n 0), (4, vi aI)]) ?_ ?_
   ·refine WC.block (sq (rg (wY (yf fo36_0 z) z (wY (yl ty3 z z (r.cell 0 _ z)) z (wY (ym z) z (wY (Y.add_i z z) z ?_))))))
    obtain ⟨aJ, cO, h⟩ := bnd h
    refine WL.call (vals := [vi (w64 (a0.Offset + aI))]) kok150 z z (c_ref08_half cO) ?_
    rintro dT dU ⟨rfl, cP⟩
    obtain ⟨aa, dg, dh, c⟩ := adoptE cz (fun k => 1) cP
    refine wY (ya z) z (nl (th (sq (rg (wY (yf fo36_1 z) z ?_)))))
    have j := ao.st c z
    refine wY (yl ty34 z z (j.cell 1 _ z)) z ?_
    have t := an.st c z z z
    refine wY (Y.len ty34 z t.src.sl) z (wY (Y.eql_i z z) z (nl (th ?_)))
    rcases cnd h with ⟨aq, h⟩ | ⟨aq, h⟩
    ·refine WC.condT' z aq (sq (rg (wY (ym z) z (wY (yf fo36_0 z) z (WL.store (v := vi aJ) (cells' := [vi aJ, cA]) ty3 z z j z (le_ z) z z ?_)))))
     intro dV L cQ
     refine nl (th (rg (wY (yf fo36_1 z) z ?_)))
     have cS := (r.st c z).st L z
     refine wY (yl ty34 z z (cS.cell 1 _ z)) z (wY (ym z) z ?_)
     obtain ⟨I, cT, h⟩ := bnd h
     have cV := (K.i c z z).i L z z
     obtain ⟨em, di, dw, dW, cW, cX, cY, ar, bi, bj⟩ := Sl.at2 cV cT
     obtain rfl := bi
     replace ar : CellsAt _ _ _ [vu I] := ar
     have aZ := CAt.imm ar bj
     refine wY (Y.indexAddr ty34 ty33 z cW z cX cY) z (wY (yl ty33 z z aZ.at_) z (WL.buildSlice (O := aa) (R := Rep.u) (vals := [(0, vu I)]) 14 [vu I] (xs := [I]) (by decide) ty34 ty33 (by decide) (by decide) (fe_ z) (by kernel_rfl) z ⟨[vu I], [], z, z, z⟩ z ?_))
     intro dX dY dx ab aK
     refine wY (yf fo36_1 z) z ?_
     have bk := h
     obtain ⟨au, av, ax, rfl⟩ := aK.shape
     have h := bk
     have bl := cQ.st ab z
     refine WL.store (v := (vl au av ax)) (cells' := [vi aJ, (vl au av ax)]) ty34 z z bl z (le_ z) z z ?_
     intro dy ac bm
     refine nl (At.inBlock ?_)
     have bn := aK.st ac z z z
     obtain ⟨cZ, ad, bo⟩ := OwnSl.rlb 1001 rfl bn
     have bp := bm.st ad z
     exact At.join (σ := (Int × List UInt64 × Own × Value)) (aJ, [I], cZ, (vl au av ax)) ⟨some1 h, (tr_ (su_ c z) (tr_ (su_ L z) (tr_ (su_ ab z) (tr_ (su_ ac z) (su_ ad z))))), bo, bp⟩ (.cons z (.cons z (.cons z (.cons z .nil))))
    ·refine WC.condF' z aq (sq (rg (wY (ym z) z (wY (yf fo36_0 z) z (wY (yl ty3 z z (j.cell 0 _ z)) z (wY (yf fo36_1 z) z (wY (yl ty34 z z (j.cell 1 _ z)) z (wY (Y.len ty34 z t.src.sl) z (wY (Y.add_i z z) z ?_)))))))))
     refine wY (Y.sub_i z z) z (wY (Y.eql_i z z) z (nl (th ?_)))
     rcases cnd h with ⟨M, h⟩ | ⟨M, h⟩
     ·refine WC.condT' z M (sq (rg (wY (yf fo36_1 z) z (wY (yl ty34 z z (j.cell 1 _ z)) z (wY (Y.len ty34 z t.src.sl) z ?_)))))
      obtain ⟨dz, a1, h⟩ := lt1 h
      refine WL.yE (ya z) (congrArg vi a1.symm) z (nl (th (sq (WC.draw 12 aa fmix (by kernel_rfl) ?_))))
      intro dA l
      refine WS.y (yf fo36_1 z) z ?_
      have aL := j.st l z
      refine WS.y (yl ty34 z z (aL.cell 1 _ z)) z (WS.y (ym z) z (WS.y (Y.sub_i z z) z ?_))
      obtain ⟨c0, bq, h⟩ := bnd h
      have P := t.st l z z z
      obtain ⟨dZ, dj, dB, aM, br, bs, Q, a2⟩ := OwnSl.at P bq
      obtain rfl := a2
      replace Q : CellsAt _ _ _ [vu c0] := Q
      have a3 := CAt.own P aM Q
      refine WS.y (Y.indexAddr ty34 ty33 z aM z br bs) z (WS.y (yl ty33 z z a3.at_) z (WS.y (yf fo36_1 z) z ?_))
      have bu := (r.st c z).st l z
      refine WS.y (yl ty34 z z (bu.cell 1 _ z)) z (WS.y (ym z) z ?_)
      obtain ⟨c1, bw, h⟩ := bnd h
      have bz := (K.i c z z).i l z z
      obtain ⟨d0, dk, dl, dC, bA, bB, bC, S, a4, bD⟩ := Sl.at2 bz bw
      obtain rfl := a4
      replace S : CellsAt _ _ _ [vu c1] := S
      have a5 := CAt.imm S bD
      refine WS.y (Y.indexAddr ty34 ty33 z bA z bB bC) z (WS.y (yl ty33 z z a5.at_) z (WS.y (Y.add_u z z) z (WS.tail ?_)))
      obtain ⟨m, ay, h⟩ := lt1 h
      refine WL.yE (ya z) (congrArg vu ay.symm) z (nl (th (rg (WL.buildSlice (O := aa) (R := Rep.u) (vals := []) 15 [] (xs := []) (by decide) ty34 ty33 (by decide) (by decide) (fe_ z) (by kernel_rfl) z z z ?_))))
      intro d1 d2 dD C bE
      refine wY (yf fo36_1 z) z ?_
      have aN := aL.st C z
      refine wY (yl ty34 z z (aN.cell 1 _ z)) z (wY (ym z) z (wY (Y.sub_i z z) z ?_))
      obtain ⟨d3, bF, h⟩ := bnd h
      have bG := P.st C z z z
      refine WL.sliceOwn ty34 ty33 z z z bG bF z ?_
      intro d4 bH
      obtain ⟨dE, a6, h⟩ := bnd h
      refine WL.append (by decide) ty34 ty33 z (by decide) z z bE bH.src a6 z ?_
      intro d5 c2 dF ae bI
      refine wY (ym z) z (WL.buildSlice (O := c2) (R := Rep.u) (vals := [(0, vu m)]) 16 [vu m] (xs := [m]) (by decide) ty34 ty33 (by decide) (by decide) (fe_ z) (by kernel_rfl) z ⟨[vu m], [], z, z, z⟩ z ?_)
      intro d6 d7 dG D bJ
      obtain ⟨bK, a7, h⟩ := bnd h
      have bL := bI.st D z z z
      refine WL.append (by decide) ty34 ty33 z (by decide) z z bL bJ.src a7 z ?_
      intro d8 d9 dH af aO
      refine wY (yf fo36_1 z) z ?_
      have bM := h
      obtain ⟨az, aA, aC, rfl⟩ := aO.shape
      have h := bM
      have bQ := ((aN.st ae z).st D z).st af z
      refine WL.store (v := (vl az aA aC)) (cells' := [vi Z, (vl az aA aC)]) ty34 z z bQ z (le_ z) z z ?_
      intro dI ah bR
      refine nl (At.inBlock ?_)
      have bS := aO.st ah z z z
      obtain ⟨c3, ai, bT⟩ := OwnSl.rlb 1001 rfl bS
      have bU := bR.st ai z
      exact At.join (σ := (Int × List UInt64 × Own × Value)) (Z, bK, c3, (vl az aA aC)) ⟨some1 h, (tr_ (su_ c z) (tr_ (su_ l z) (tr_ (su_ C z) (tr_ (su_ ae z) (tr_ (su_ D z) (tr_ (su_ af z) (tr_ (su_ ah z) (su_ ai z)))))))), bT, bU⟩ (.cons z (.cons z (.cons z (.cons z .nil))))
     ·refine WC.condF' z M (WC.drawH [1002] [0, 1, 2, 3, 4, 5, 6, 7, 8, 9] aa 11 fmix z (by kernel_rfl) ?_)
      intro dJ d
      refine WD.y 0 z (by kernel_rfl) (fun _ _ _ => yf fo36_1 z) z (WD.y 1 z (by kernel_rfl) (fun dK ea a8 => have bW := j.st d z; have bX := bW.st a8 z; yl ty34 z z (bX.cell 1 _ z)) z (WD.y 2 z (by kernel_rfl) (fun _ _ _ => yf fo36_1 z) z (WD.y 3 z (by kernel_rfl) (fun dL eb a9 => have bY := r.st c z; have bZ := bY.st d z; have b0 := bZ.st a9 z; yl ty34 z z (b0.cell 1 _ z)) z (WD.y 4 z (by kernel_rfl) (fun _ _ _ => ym z) z ?_))))
      obtain ⟨E, b1, h⟩ := bnd h
      have b3 := (K.i c z z).i d z z
      obtain ⟨ec, dm, dn, dM, b4, b5, b6, T, ba, b7⟩ := Sl.at2 b3 b1
      obtain rfl := ba
      replace T : CellsAt _ _ _ [vu E] := T
      have bb := CAt.imm T b7
      refine WD.y 5 z (by kernel_rfl) (fun _ _ _ => Y.indexAddr ty34 ty33 z b4 z b5 b6) z (WD.y 6 z (by kernel_rfl) (fun dN ed bc => have b8 := bb.st bc z; yl ty33 z z b8.at_) z (WD.heavy 7 z (by kernel_rfl) (WL.buildSlice (O := aa) (R := Rep.u) (vals := [(0, vu E)]) 17 [vu E] (xs := [E]) (by decide) ty34 ty33 (by decide) (by decide) (fe_ z) (by kernel_rfl) z ⟨[vu E], [], z, z, z⟩ z ?_)))
      intro ee ef dO p b9
      refine nl (At.dq (su_ p z) (WD.heavy 8 z (by kernel_rfl) ?_))
      obtain ⟨ca, bd, h⟩ := bnd h
      have cc := (t.st d z z z).st p z z z
      refine WL.append (by decide) ty34 ty33 z (by decide) z z cc b9.src bd z ?_
      intro eg eh dP F aP
      refine nl (At.dq (su_ F z) (WD.y 9 z (by kernel_rfl) (fun _ _ _ => yf fo36_1 z) z (WD.phase [13] [0, 1, 2, 3, 4, 5, 6, 7, 8, 9, 10] (by kernel_rfl) (by kernel_rfl) (WD.heavy 10 z (by kernel_rfl) ?_))))
      have cd := h
      obtain ⟨p256, aD, aE, rfl⟩ := aP.shape
      have h := cd
      have cg := ((j.st d z).st p z).st F z
      refine WL.store (v := (vl p256 aD aE)) (cells' := [vi Z, (vl p256 aD aE)]) ty34 z z cg z (le_ z) z z ?_
      intro dQ G ch
      refine nl (At.dq (su_ G z) (WD.done_ (by kernel_rfl) (At.inBlock ?_)))
      have ci := aP.st G z z z
      obtain ⟨c4, aj, cj⟩ := OwnSl.rlb 1001 rfl ci
      have ck := ch.st aj z
      exact At.join (σ := (Int × List UInt64 × Own × Value)) (Z, ca, c4, (vl p256 aD aE)) ⟨some1 h, (tr_ (su_ c z) (tr_ (su_ d z) (tr_ (su_ p z) (tr_ (su_ F z) (tr_ (su_ G z) (su_ aj z)))))), cj, ck⟩ (.cons z (.cons z (.cons z (.cons z .nil))))
   ·rintro ⟨dp, dr, en, ds⟩ ei ⟨rfl, aQ, bf, bg⟩
    replace h := cN
    try dsimp only at h aQ bf bg
    refine (show At _ _ _ [(1, pt aG 0), (2, pt H 0), (3, pt n 0), (4, vi aI)] _ from ?_)
    refine th (rg (wY (ym z) z (wY (Y.add_i z z) z ?_)))
    obtain ⟨c5, cl, h⟩ := lt1 h
    refine WL.yE (ya z) (congrArg vi cl.symm) z (nl ?_)
    obtain ⟨c6, ak, cm⟩ := OwnSl.rlb 1002 rfl bf
    have cn := bg.st ak z
    exact At.round (dp, dr, c5, c6, ds) de (Nat.lt_succ_self _) ⟨next1 h aY, (tr_ (su_ o z) (tr_ (su_ aQ z) (su_ ak z))), cm, cn⟩ (.cons z (.cons z (.cons z (.cons z .nil))))
  ·refine WC.condF' z ap (WC.exit (At.thenX (At.loopX ?_)))
   obtain ⟨c7, al, co⟩ := OwnSl.rlb 1003 rfl an
   have cq := ao.st al z
   exact At.hitB (σ := (Int × List UInt64 × Own × Value)) (Z, dd, c7, cA) ⟨brk1 h aY, (tr_ (su_ o z) (su_ al z)), co, cq⟩ (.cons z (.cons z .nil))
 ·rintro ⟨aR, eo, dt, du⟩ ej ⟨rfl, U, aF, bh⟩
  replace h := flowK_go cG
  try dsimp only at h U aF bh
  refine (show At _ _ _ [(2, pt H 0), (3, pt n 0)] _ from ?_)
  refine At.inBlockHit (th (sq (rg (wY (yL ty36 z z (bh.cells 0 [vi aR, du] z) z) z ?_))))
  have cr := h
  obtain ⟨V, W, X, rfl⟩ := aF.shape
  have h := cr
  have ct := (cE.st q z).st U z
  refine WL.store (v := ag [vi aR, (vl V W X)]) (cells' := [vi aR, (vl V W X)]) ty36 z z ct z (le_ z) z z ?_
  intro cu am cv
  refine nl (th (rt ?_))
  obtain rfl := some1 h
  have aS : Stp [12, 13, 14, 15, 16, 1001, 1002] (Lg.O0 A) w dt cu := (tr_ (su_ aH z) (tr_ (su_ J z) (tr_ (su_ q z) (tr_ (su_ U z) (su_ am z)))))
  have cw := aF.st am z z z
  exact At.res (.inl z) z (.cell z (cv.runAg 0 [vi aR, (vl V W X)] ty36 z z z) .nil) ⟨(vl V W X), z, (se_ aS z z), (OwnSl.outF cw aS low0 z)⟩
theorem c_ref08_Down {A : Nat → Prop} {v0_3 : Value} {v0_5 : Value} {a0 : api_Hist} {a1 : Int} {w : World} (hs0_3 : Sl Rep.u w A v0_3 a0.Pos.Counts) (hs0_5 : Sl Rep.u w A v0_5 a0.Neg.Counts) {r0 : api_Hist} {r1 : Int} (h : ref08_Down a0 a1 = some (r0, r1)) : Rets Tryz.prog 105 [ag (hl a0 v0_3 v0_5), vi a1] w (fun v w' => ∃ (bc : Value) (bd : Value), v = Value.tuple (List.toArray [ag (hl r0 bc bd), vi r1]) ∧ Ext w w' ∧ RowF Rep.u 33 w w' bc r0.Pos.Counts ∧ RowF Rep.u 33 w w' bd r0.Neg.Counts ∧ (∀ k, ob bc = some k → ob bd ≠ some k)) := by
 unfold ref08_Down at h
 refine Rets.enter Tryz.func105 z z ?_
 have cg : Sl Rep.u w (imm (Lg.O0 A)) v0_3 a0.Pos.Counts := (Sl.start hs0_3)
 have ch : Sl Rep.u w (imm (Lg.O0 A)) v0_5 a0.Neg.Counts := (Sl.start hs0_5)
 refine (show WC _ _ _ _ [(0, ag (hl a0 v0_3 v0_5)), (1, vi a1)] _ from ?_)
 refine sq (rg ?_)
 have fj := h
 obtain ⟨aI, aJ, aK, rfl⟩ := cg.shape
 have h := fj
 have fk := h
 obtain ⟨ae, af, ah, rfl⟩ := ch.shape
 have h := fk
 refine WL.box (O := (Lg.O0 A)) 11 (hl a0 (vl aI aJ aK) (vl ae af ah)) z z z ?_
 intro fi gI g9 t fl
 refine WL.alloc (O := gI) 12 hzr ty38 z z ?_
 intro p gJ ha o bf
 refine wY (ya z) z (nl (th (sq (sq (rg ?_)))))
 have ac := fl.st o z
 refine wY (yL ty38 z z (ac.cells 0 (hl a0 (vl aI aJ aK) (vl ae af ah)) z) z) z ?_
 have bg := (cg.i t z z).i o z z
 have aM := (ch.i t z z).i o z z
 obtain ⟨hF, fo, h⟩ := bnd h
 refine WL.call (vals := [ag (hl a0 (vl aI aJ aK) (vl ae af ah))]) kok56 z z (c_ref08_Check (A := fun _ => True) (a0 := a0) (Sl.all bg) (Sl.all aM) fo) ?_
 rintro hc fp ⟨rfl, fq⟩
 obtain ⟨aL, gK, gL, c⟩ := adoptE gJ (fun k => 1) fq
 refine wY (ya z) z (nl (th (sq (rg (wY (ym z) z (wY (Y.neq_i z z) z (nl (th ?_))))))))
 rcases cnd h with ⟨bh, h⟩ | ⟨bh, h⟩
 ·refine WC.condT' z bh (sq (rg (wY (yb (vals := []) (cells := hzr) (fe_ z) (by kernel_rfl)) z (wY (ym z) z ?_))))
  have fs := bf.st c z
  refine WL.store (v := ag hzr) (cells' := hzr) ty38 z z fs z (le_ z) z z ?_
  intro ft cJ fu
  refine wY (ya z) z (nl (th (rt (At.thenR ?_))))
  obtain ⟨rfl, rfl⟩ := tup2 h
  have fv : Stp [12] (Lg.O0 A) w aL ft := (tr_ (su_ t z) (tr_ (su_ o z) (tr_ (su_ c z) (su_ cJ z))))
  exact At.res (.inl z) z (.cell z (fu.runAg 0 hzr ty38 z z z) (.tmp z .nil)) ⟨sn, sn, z, (se_ fv z z), RowF.nil, RowF.nil, (fun _ e => absurd e not_nil)⟩
 ·refine WC.condF' z bh (sk (th (sq (sq (rg (wY (ym z) z (wY (Y.lss_i z z) z (wY (ym z) z ?_))))))))
  refine WL.cut 6 (σ := Unit) (fun _ w' => fp = w') (fun _ => [(1, vi a1), (2, pt fi 0), (4, pt p 0), (23, vB ((decide (a1 < 0)) || (decide (w64 (a0.Scale - (-10)) < a1))))]) ?_ ?_
  ·refine WL.part 17 z (fun bi => ?_) (fun bi => ?_)
   ·refine WL.gS z z z z (WL.gS z z z z (WL.gS z z z z (WL.gS z z z z (WL.gS z z z z (wY (Y.pick (b := true) z z) z (WL.ren (v' := vB ((decide (a1 < 0)) || (decide (w64 (a0.Scale - (-10)) < a1)))) 23 z (congrArg vB (orT bi)) ?_))))))
    exact nl (At.join () z (.cons z (.cons z (.cons z (.cons z .nil)))))
   ·refine ug z z (wY (ym z) z (ug z z (wY (yf fo38_0 z) z (ug z z ?_))))
    have fw := ac.st c z
    refine wY (yl ty3 z z (fw.cell 0 _ z)) z (ug z z (wY (Y.sub_i z z) z (ug z z (wY (Y.gtr_i z z) z (wY (Y.pick (b := false) z z) z (WL.ren (v' := vB ((decide (a1 < 0)) || (decide (w64 (a0.Scale - (-10)) < a1)))) 23 z (congrArg vB (orF bi)) ?_))))))
    exact nl (At.join () z (.cons z (.cons z (.cons z (.cons z .nil)))))
  ·rintro _ _ rfl
   refine (show WL _ _ _ _ _ [(1, vi a1), (2, pt fi 0), (4, pt p 0), (23, vB ((decide (a1 < 0)) || (decide (w64 (a0.Scale - (-10)) < a1))))] _ from ?_)
   refine nl (th ?_)
   rcases cnd h with ⟨bj, h⟩ | ⟨bj, h⟩
   ·refine WC.condT' z bj (sq (rg (wY (yb (vals := []) (cells := hzr) (fe_ z) (by kernel_rfl)) z ?_)))
    have fx := bf.st c z
    refine WL.store (v := ag hzr) (cells' := hzr) ty38 z z fx z (le_ z) z z ?_
    intro fy cK fz
    refine wY (ya z) z (nl (th (rt (At.thenR ?_))))
    obtain ⟨rfl, rfl⟩ := tup2 h
    have fA : Stp [12] (Lg.O0 A) w aL fy := (tr_ (su_ t z) (tr_ (su_ o z) (tr_ (su_ c z) (su_ cK z))))
    exact At.res (.inl z) z (.cell z (fz.runAg 0 hzr ty38 z z z) (.tmp z .nil)) ⟨sn, sn, z, (se_ fA z z), RowF.nil, RowF.nil, (fun _ e => absurd e not_nil)⟩
   ·refine WC.condF' z bj (sk (th (sq (WC.drawH [13, 14, 15, 16, 17, 18, 19, 20, 1001, 1002, 1003] [0, 1, 2, 3, 4, 5, 6, 7, 8, 9, 10, 11] aL 13 fmix z (by kernel_rfl) ?_))))
    intro fB d
    refine WD.y 0 z (by kernel_rfl) (fun _ _ _ => yf fo38_0 z) z (WD.y 1 z (by kernel_rfl) (fun hd hG cL => have fC := ac.st c z; have fD := fC.st d z; have fF := fD.st cL z; yl ty3 z z (fF.cell 0 _ z)) z (WD.y 2 z (by kernel_rfl) (fun _ _ _ => yf fo38_1 z) z (WD.y 3 z (by kernel_rfl) (fun he hH cM => have fG := ac.st c z; have fH := fG.st d z; have fI := fH.st cM z; yl ty33 z z (fI.cell 1 _ z)) z (WD.y 4 z (by kernel_rfl) (fun _ _ _ => yf fo38_2 z) z (WD.y 5 z (by kernel_rfl) (fun hf hI cN => have fJ := ac.st c z; have fK := fJ.st d z; have fL := fK.st cN z; yL ty36 z z (fL.cells 2 [vi a0.Pos.Offset, (vl aI aJ aK)] z) z) z (WD.y 7 z (by kernel_rfl) (fun _ _ _ => yf fo38_3 z) z (WD.y 8 z (by kernel_rfl) (fun hg hJ cO => have fN := ac.st c z; have fO := fN.st d z; have fP := fO.st cO z; yL ty36 z z (fP.cells 4 [vi a0.Neg.Offset, (vl ae af ah)] z) z) z ?_)))))))
    obtain ⟨fQ, h, cP⟩ := bnd h
    refine WD.join (σ := (Int × List UInt64 × Int × List UInt64 × Own × Nat × Value × Value)) (f' := 1) [11, 10, 9, 8, 7, 6, 5, 4, 3, 2, 1, 0] (fun x O' w' => (x.1, x.2.1, x.2.2.1, x.2.2.2.1) = fQ ∧ Stp [13, 14, 15, 16, 17, 18, 19, 20, 1001, 1002, 1003] aL fB x.2.2.2.2.1 w' ∧ Blk 1004 x.2.2.2.2.1 w' x.2.2.2.2.2.1 38 hzr ∧ OwnSl 1005 Rep.u 33 x.2.2.2.2.1 w' x.2.2.2.2.2.2.1 x.2.1 ∧ OwnSl 1006 Rep.u 33 x.2.2.2.2.1 w' x.2.2.2.2.2.2.2 x.2.2.2.1 ∧ x.2.2.2.2.1 = O') (fun x => [(1, vi a1), (4, pt p 0), (7, Value.pointer (some ⟨x.2.2.2.2.2.1, 0, none⟩)), (35, ag [vi a0.Scale, vu a0.Zero, vi x.1, x.2.2.2.2.2.2.1, vi x.2.2.1, x.2.2.2.2.2.2.2])]) (fun bM => ?_) ?_
    ·refine WD.heavy2 6 11 z z (by kernel_rfl) ?_ ?_
     ·have cR := (bg.i c z z).i d z z
      obtain ⟨l, cS, h⟩ := bnd h
      refine WL.call (vals := [ag [vi a0.Pos.Offset, (vl aI aJ aK)]]) kok130 z z (c_ref08_Trim (A := fun _ => True) (a0 := a0.Pos) (Sl.all cR) cS) ?_
      rintro gM bO ⟨ci, rfl, cT, fR⟩
      obtain ⟨aN, gw, b9, C⟩ := adoptE aL (fun k => if ob ci = some k then 13 else 1) cT
      have bP : OwnSl 13 Rep.u 33 aN bO ci l.Counts := RowF.adopt 13 Flat.u fR b9 (fun k hk => if_pos hk)
      refine nl (At.dq (su_ C z) ?_)
      obtain ⟨fT, h, cU⟩ := bnd h
      refine WD.join (σ := (List UInt64 × Int × List UInt64 × Own × Nat × Value × Value)) (f' := 1) [11, 10, 9, 8, 7, 6, 5, 4, 3, 2, 1, 0] (fun x O' w' => (x.1, x.2.1, x.2.2.1) = fT ∧ Stp [13, 14, 15, 16, 17] aN bO x.2.2.2.1 w' ∧ Blk 1001 x.2.2.2.1 w' x.2.2.2.2.1 38 hzr ∧ OwnSl 1002 Rep.u 33 x.2.2.2.1 w' x.2.2.2.2.2.1 x.1 ∧ OwnSl 1003 Rep.u 33 x.2.2.2.1 w' x.2.2.2.2.2.2 x.2.2.1 ∧ x.2.2.2.1 = O') (fun x => [(1, vi a1), (4, pt p 0), (7, Value.pointer (some ⟨x.2.2.2.2.1, 0, none⟩)), (35, ag [vi a0.Scale, vu a0.Zero, vi l.Offset, x.2.2.2.2.2.1, vi x.2.1, x.2.2.2.2.2.2])]) (fun bQ => ?_) ?_
      ·refine WD.heavy2 9 11 z z (by kernel_rfl) ?_ ?_
       ·have cX := ((aM.i c z z).i d z z).i C z z
        obtain ⟨ai, cY, h⟩ := bnd h
        refine WL.call (vals := [ag [vi a0.Neg.Offset, (vl ae af ah)]]) kok130 z z (c_ref08_Trim (A := fun _ => True) (a0 := a0.Neg) (Sl.all cX) cY) ?_
        rintro gO cZ ⟨cj, rfl, c0, fU⟩
        obtain ⟨ck, gz, ca, aj⟩ := adoptE aN (fun k => if ob cj = some k then 14 else 1) c0
        have bR : OwnSl 14 Rep.u 33 ck cZ cj ai.Counts := RowF.adopt 14 Flat.u fU ca (fun k hk => if_pos hk)
        refine nl (At.dq (su_ aj z) ?_)
        have bS := bP.st aj z z z
        have c1 := h
        obtain ⟨bk, bl, bm, rfl⟩ := bS.shape
        have h := c1
        have c2 := h
        obtain ⟨bn, bo, bp, rfl⟩ := bR.shape
        have h := c2
        refine WD.y 10 z (by kernel_rfl) (fun _ _ _ => yb (vals := [(0, vi a0.Scale), (1, vu a0.Zero), (2, ag [vi l.Offset, (vl bk bl bm)]), (3, ag [vi ai.Offset, (vl bn bo bp)])]) (cells := [vi a0.Scale, vu a0.Zero, vi l.Offset, (vl bk bl bm), vi ai.Offset, (vl bn bo bp)]) (fe_ z) (by kernel_rfl)) z (WD.heavy 11 z (by kernel_rfl) (WL.alloc (O := ck) 15 hzr ty38 z z ?_))
        intro fV hh gP D c3
        refine nl (At.dq (su_ D z) ?_)
        obtain ⟨hj, E, c4⟩ := Blk.rlb 1001 rfl c3
        have c6 := (bS.st D z z z).st E z z z
        obtain ⟨hm, F, c7⟩ := OwnSl.rlb 1002 rfl c6
        have da := ((bR.st D z z z).st E z z z).st F z z z
        obtain ⟨fY, G, db⟩ := OwnSl.rlb 1003 rfl da
        have dd := (c4.st F z).st G z
        have de := c7.st G z z z
        refine WD.own (tr_ (su_ E z) (tr_ (su_ F z) (su_ G z))) (WD.perm _ [11, 10, 9, 8, 7, 6, 5, 4, 3, 2, 1, 0] (by kernel_rfl) ?_)
        exact bQ (l.Counts, ai.Offset, ai.Counts, fY, fV, (vl bk bl bm), (vl bn bo bp)) _ _ _ ⟨some1 h, (tr_ (su_ aj z) (tr_ (su_ D z) (tr_ (su_ E z) (tr_ (su_ F z) (su_ G z))))), dd, de, db, z⟩ (.cons z (.cons z (.cons z (.cons z .nil))))
       ·try simp only [Option.bind_assoc] at h
        try simp only [Option.bind_some] at h
        refine WL.alloc (O := aN) 16 hzr ty38 z z ?_
        intro f0 f1 gQ H df
        refine nl (At.dq (su_ H z) (WD.heavy 9 z (by kernel_rfl) ?_))
        have dj := (((aM.i c z z).i d z z).i C z z).i H z z
        obtain ⟨ak, dk, h⟩ := bnd h
        refine WL.call (vals := [ag [vi a0.Neg.Offset, (vl ae af ah)]]) kok130 z z (c_ref08_Trim (A := fun _ => True) (a0 := a0.Neg) (Sl.all dj) dk) ?_
        rintro gR dl ⟨cl, rfl, dm, f2⟩
        obtain ⟨f3, gB, cb, I⟩ := adoptE f1 (fun k => if ob cl = some k then 17 else 1) dm
        have bT : OwnSl 17 Rep.u 33 f3 dl cl ak.Counts := RowF.adopt 17 Flat.u f2 cb (fun k hk => if_pos hk)
        refine nl (At.dq (su_ I z) ?_)
        have bU := (bP.st H z z z).st I z z z
        have dp := h
        obtain ⟨bq, br, bs, rfl⟩ := bU.shape
        have h := dp
        have dr := h
        obtain ⟨bt, bu, bw, rfl⟩ := bT.shape
        have h := dr
        refine WD.y 10 z (by kernel_rfl) (fun _ _ _ => yb (vals := [(0, vi a0.Scale), (1, vu a0.Zero), (2, ag [vi l.Offset, (vl bq br bs)]), (3, ag [vi ak.Offset, (vl bt bu bw)])]) (cells := [vi a0.Scale, vu a0.Zero, vi l.Offset, (vl bq br bs), vi ak.Offset, (vl bt bu bw)]) (fe_ z) (by kernel_rfl)) z ?_
        have ds := df.st I z
        obtain ⟨hn, J, dt⟩ := Blk.rlb 1001 rfl ds
        have du := bU.st J z z z
        obtain ⟨ho, K, dw⟩ := OwnSl.rlb 1002 rfl du
        have dy := (bT.st J z z z).st K z z z
        obtain ⟨f4, L, dz⟩ := OwnSl.rlb 1003 rfl dy
        have dB := (dt.st K z).st L z
        have dC := dw.st L z z z
        refine WD.own (tr_ (su_ J z) (tr_ (su_ K z) (su_ L z))) (WD.perm _ [11, 10, 9, 8, 7, 6, 5, 4, 3, 2, 1, 0] (by kernel_rfl) ?_)
        exact bQ (l.Counts, ak.Offset, ak.Counts, f4, f0, (vl bq br bs), (vl bt bu bw)) _ _ _ ⟨some1 h, (tr_ (su_ H z) (tr_ (su_ I z) (tr_ (su_ J z) (tr_ (su_ K z) (su_ L z))))), dB, dC, dz, z⟩ (.cons z (.cons z (.cons z (.cons z .nil))))
      ·rintro ⟨f5, cm, f6, hp, cn, co, cq⟩ _ gU ⟨rfl, bb, bW, bX, bY, rfl⟩
       replace h := cU
       try dsimp only at h bb bW bX bY
       refine (show WD _ _ _ _ _ _ _ _ [(1, vi a1), (4, pt p 0), (7, pt cn 0), (35, ag [vi a0.Scale, vu a0.Zero, vi l.Offset, co, vi cm, cq])] _ _ from ?_)
       obtain ⟨hq, M, dD⟩ := Blk.rlb 1004 rfl bW
       have dE := bX.st M z z z
       obtain ⟨hr, P, dF⟩ := OwnSl.rlb 1005 rfl dE
       have dH := (bY.st M z z z).st P z z z
       obtain ⟨f7, Q, dI⟩ := OwnSl.rlb 1006 rfl dH
       have dK := (dD.st P z).st Q z
       have dL := dF.st Q z z z
       refine WD.own (tr_ (su_ M z) (tr_ (su_ P z) (su_ Q z))) (WD.perm _ [11, 10, 9, 8, 7, 6, 5, 4, 3, 2, 1, 0] (by kernel_rfl) ?_)
       exact bM (l.Offset, f5, cm, f6, f7, cn, co, cq) _ _ _ ⟨some1 h, (tr_ (su_ C z) (tr_ (su_ bb z) (tr_ (su_ M z) (tr_ (su_ P z) (su_ Q z))))), dK, dL, dI, z⟩ (.cons z (.cons z (.cons z (.cons z .nil))))
     ·try simp only [Option.bind_assoc] at h
      try simp only [Option.bind_some] at h
      refine WL.alloc (O := aL) 18 hzr ty38 z z ?_
      intro f8 f9 gV S dM
      refine nl (At.dq (su_ S z) (WD.heavy 6 z (by kernel_rfl) ?_))
      have dP := ((bg.i c z z).i d z z).i S z z
      obtain ⟨al, dQ, h⟩ := bnd h
      refine WL.call (vals := [ag [vi a0.Pos.Offset, (vl aI aJ aK)]]) kok130 z z (c_ref08_Trim (A := fun _ => True) (a0 := a0.Pos) (Sl.all dP) dQ) ?_
      rintro gW dR ⟨cr, rfl, dS, ga⟩
      obtain ⟨cs, gC, cc, T⟩ := adoptE f9 (fun k => if ob cr = some k then 19 else 1) dS
      have dT : OwnSl 19 Rep.u 33 cs dR cr al.Counts := RowF.adopt 19 Flat.u ga cc (fun k hk => if_pos hk)
      refine nl (At.dq (su_ T z) (WD.heavy 9 z (by kernel_rfl) ?_))
      have dX := (((aM.i c z z).i d z z).i S z z).i T z z
      obtain ⟨am, dY, h⟩ := bnd h
      refine WL.call (vals := [ag [vi a0.Neg.Offset, (vl ae af ah)]]) kok130 z z (c_ref08_Trim (A := fun _ => True) (a0 := a0.Neg) (Sl.all dX) dY) ?_
      rintro gX dZ ⟨ct, rfl, d0, gb⟩
      obtain ⟨gc, gE, cd, U⟩ := adoptE cs (fun k => if ob ct = some k then 20 else 1) d0
      have bZ : OwnSl 20 Rep.u 33 gc dZ ct am.Counts := RowF.adopt 20 Flat.u gb cd (fun k hk => if_pos hk)
      refine nl (At.dq (su_ U z) ?_)
      have b0 := dT.st U z z z
      have d1 := h
      obtain ⟨bx, bz, bA, rfl⟩ := b0.shape
      have h := d1
      have d2 := h
      obtain ⟨bB, bC, bD, rfl⟩ := bZ.shape
      have h := d2
      refine WD.y 10 z (by kernel_rfl) (fun _ _ _ => yb (vals := [(0, vi a0.Scale), (1, vu a0.Zero), (2, ag [vi al.Offset, (vl bx bz bA)]), (3, ag [vi am.Offset, (vl bB bC bD)])]) (cells := [vi a0.Scale, vu a0.Zero, vi al.Offset, (vl bx bz bA), vi am.Offset, (vl bB bC bD)]) (fe_ z) (by kernel_rfl)) z ?_
      have d4 := (dM.st T z).st U z
      obtain ⟨hs, V, d5⟩ := Blk.rlb 1004 rfl d4
      have d6 := b0.st V z z z
      obtain ⟨ht, W, d7⟩ := OwnSl.rlb 1005 rfl d6
      have d9 := (bZ.st V z z z).st W z z z
      obtain ⟨gd, X, ea⟩ := OwnSl.rlb 1006 rfl d9
      have ec := (d5.st W z).st X z
      have ed := d7.st X z z z
      refine WD.own (tr_ (su_ V z) (tr_ (su_ W z) (su_ X z))) (WD.perm _ [11, 10, 9, 8, 7, 6, 5, 4, 3, 2, 1, 0] (by kernel_rfl) ?_)
      exact bM (al.Offset, al.Counts, am.Offset, am.Counts, gd, f8, (vl bx bz bA), (vl bB bC bD)) _ _ _ ⟨some1 h, (tr_ (su_ S z) (tr_ (su_ T z) (tr_ (su_ U z) (tr_ (su_ V z) (tr_ (su_ W z) (su_ X z)))))), ec, ed, ea, z⟩ (.cons z (.cons z (.cons z (.cons z .nil))))
    ·rintro ⟨b1, ge, aO, gf, cu, an, gg, gh⟩ _ gY ⟨rfl, ao, cv, aP, aQ, rfl⟩
     replace h := cP
     try dsimp only at h ao cv aP aQ
     refine (show WD _ _ _ _ _ _ _ _ [(1, vi a1), (4, pt p 0), (7, pt an 0), (35, ag [vi a0.Scale, vu a0.Zero, vi b1, gg, vi aO, gh])] _ _ from ?_)
     refine WD.phase [1004] [0, 1, 2, 3, 4, 5, 6, 7, 8, 9, 10, 11, 12] (by kernel_rfl) (by kernel_rfl) (WD.heavy 12 z (by kernel_rfl) ?_)
     have ee := h
     obtain ⟨bE, bF, bG, rfl⟩ := aP.shape
     have h := ee
     have ef := h
     obtain ⟨bH, bI, bJ, rfl⟩ := aQ.shape
     have h := ef
     refine WL.store (v := ag [vi a0.Scale, vu a0.Zero, vi b1, (vl bE bF bG), vi aO, (vl bH bI bJ)]) (cells' := [vi a0.Scale, vu a0.Zero, vi b1, (vl bE bF bG), vi aO, (vl bH bI bJ)]) ty38 z z cv z (le_ z) z z ?_
     intro b2 n eg
     refine nl (At.dq (su_ n z) (WD.done_ (by kernel_rfl) (th (sq (sq (rg (wY (ya z) z (nl (th ?_)))))))))
     refine WC.block ?_
     obtain ⟨cw, h, eh⟩ := flow1 h
     obtain ⟨cx, h⟩ := loop_some h
     refine WC.joinB 0 (σ := (Int × Int × List UInt64 × Int × List UInt64 × Own × Value × Value)) (fun x w' => cw = .go (x.1, x.2.1, x.2.2.1, x.2.2.2.1, x.2.2.2.2.1) ∧ Stp [21, 22, 1004, 1005, 1006, 1007, 1008] cu b2 x.2.2.2.2.2.1 w' ∧ OwnSl 1009 Rep.u 33 x.2.2.2.2.2.1 w' x.2.2.2.2.2.2.1 x.2.2.1 ∧ OwnSl 1010 Rep.u 33 x.2.2.2.2.2.1 w' x.2.2.2.2.2.2.2 x.2.2.2.2.1 ∧ Blk 1004 x.2.2.2.2.2.1 w' an 38 [vi x.1, vu a0.Zero, vi x.2.1, x.2.2.2.2.2.2.1, vi x.2.2.2.1, x.2.2.2.2.2.2.2]) (fun x => [(4, pt p 0), (7, pt an 0)]) ?_ ?_
     ·have ei := aP.st n z z z
      obtain ⟨hu, ap, ej⟩ := OwnSl.rlb 1007 rfl ei
      have em := (aQ.st n z z z).st ap z z z
      obtain ⟨gi, aq, en⟩ := OwnSl.rlb 1008 rfl em
      have eo := ej.st aq z z z
      have er := (eg.st ap z).st aq z
      refine WC.loop (σ := (Int × Int × List UInt64 × Int × List UInt64 × Int × Own × Value × Value)) (fun x k w' => loopN k (ref08_Down_lp1 a1) (x.1, x.2.1, x.2.2.1, x.2.2.2.1, x.2.2.2.2.1, x.2.2.2.2.2.1) = some cw ∧ Stp [21, 22, 1004, 1005, 1006] cu b2 x.2.2.2.2.2.2.1 w' ∧ OwnSl 1007 Rep.u 33 x.2.2.2.2.2.2.1 w' x.2.2.2.2.2.2.2.1 x.2.2.1 ∧ OwnSl 1008 Rep.u 33 x.2.2.2.2.2.2.1 w' x.2.2.2.2.2.2.2.2 x.2.2.2.2.1 ∧ Blk 1004 x.2.2.2.2.2.2.1 w' an 38 [vi x.1, vu a0.Zero, vi x.2.1, x.2.2.2.2.2.2.2.1, vi x.2.2.2.1, x.2.2.2.2.2.2.2.2]) (fun x => [(1, vi a1), (4, pt p 0), (7, pt an 0), (8, vi x.2.2.2.2.2.1)]) (a0.Scale, b1, ge, aO, gf, 0, gi, (vl bE bF bG), (vl bH bI bJ)) cx (.cons z (.cons z (.cons z (.cons z .nil)))) ⟨h, (tr_ (su_ ap z) (su_ aq z)), eo, en, er⟩ ?_
      rintro ⟨ad, aR, cy, aS, cz, gj, cA, bK, bL⟩ cx gZ ⟨h, ar, aT, aU, m⟩
      obtain ⟨gk, hv, rfl, h, b3⟩ := rnd1 h
      unfold ref08_Down_lp1 at h
      try dsimp only at h ar aT aU m
      refine (show WC _ _ _ _ [(1, vi a1), (4, pt p 0), (7, pt an 0), (8, vi gj)] _ from ?_)
      refine sq (sq (rg (wY (ym z) z (wY (ym z) z (wY (Y.lss_i z z) z (nl (th ?_)))))))
      rcases cnd h with ⟨aW, h⟩ | ⟨aW, h⟩
      ·refine WC.condT' z aW (sk (th (sq (WC.block (WC.drawH [] [0, 1, 2, 3, 4, 5, 6, 7, 8, 9, 10, 11] cA 13 fmix z (by kernel_rfl) ?_)))))
       intro g0 j
       refine WD.y 0 z (by kernel_rfl) (fun _ _ _ => yf fo38_0 z) z (WD.y 1 z (by kernel_rfl) (fun g1 hw cC => have es := m.st j z; have et := es.st cC z; yl ty3 z z (et.cell 0 _ z)) z (WD.y 2 z (by kernel_rfl) (fun _ _ _ => Y.sub_i z z) z (WD.y 3 z (by kernel_rfl) (fun _ _ _ => yf fo38_1 z) z (WD.y 4 z (by kernel_rfl) (fun g2 hx cD => have eu := m.st j z; have ew := eu.st cD z; yl ty33 z z (ew.cell 1 _ z)) z (WD.y 5 z (by kernel_rfl) (fun _ _ _ => yf fo38_2 z) z (WD.y 6 z (by kernel_rfl) (fun g3 hy cE => have ex := m.st j z; have ey := ex.st cE z; yL ty36 z z (ey.cells 2 [vi aR, bK] z) z) z (WD.y 8 z (by kernel_rfl) (fun _ _ _ => yf fo38_3 z) z (WD.y 9 z (by kernel_rfl) (fun g4 hz cF => have ez := m.st j z; have eA := ez.st cF z; yL ty36 z z (eA.cells 4 [vi aS, bL] z) z) z (WD.heavy 7 z (by kernel_rfl) ?_)))))))))
       have eB := aT.st j z z z
       obtain ⟨q, eC, h⟩ := bnd h
       refine WL.call (vals := [ag [vi aR, bK]]) kok131 z z (c_ref08_once (A := fun _ => True) (a0 := (api_Side.mk aR cy)) (eB.src.sl) eC) ?_
       rintro g5 eD ⟨cG, rfl, eE, gl⟩
       obtain ⟨cH, gG, ce, Z⟩ := adoptE cA (fun k => if ob cG = some k then 21 else 1) eE
       have eF : OwnSl 21 Rep.u 33 cH eD cG q.Counts := RowF.adopt 21 Flat.u gl ce (fun k hk => if_pos hk)
       refine nl (At.dq (su_ Z z) (WD.heavy 10 z (by kernel_rfl) ?_))
       have eH := (aU.st j z z z).st Z z z z
       obtain ⟨r, eI, h⟩ := bnd h
       refine WL.call (vals := [ag [vi aS, bL]]) kok131 z z (c_ref08_once (A := fun _ => True) (a0 := (api_Side.mk aS cz)) (eH.src.sl) eI) ?_
       rintro g6 eJ ⟨cI, rfl, eK, gm⟩
       obtain ⟨gn, gH, cf, aa⟩ := adoptE cH (fun k => if ob cI = some k then 22 else 1) eK
       have b4 : OwnSl 22 Rep.u 33 gn eJ cI r.Counts := RowF.adopt 22 Flat.u gm cf (fun k hk => if_pos hk)
       refine nl (At.dq (su_ aa z) ?_)
       have b5 := eF.st aa z z z
       have eL := h
       obtain ⟨au, av, ax, rfl⟩ := b5.shape
       have h := eL
       have eM := h
       obtain ⟨ay, az, aA, rfl⟩ := b4.shape
       have h := eM
       refine WD.y 11 z (by kernel_rfl) (fun _ _ _ => yb (vals := [(0, vi (w64 (ad - 1))), (1, vu a0.Zero), (2, ag [vi q.Offset, (vl au av ax)]), (3, ag [vi r.Offset, (vl ay az aA)])]) (cells := [vi (w64 (ad - 1)), vu a0.Zero, vi q.Offset, (vl au av ax), vi r.Offset, (vl ay az aA)]) (fe_ z) (by kernel_rfl)) z (WD.phase [1004] [0, 1, 2, 3, 4, 5, 6, 7, 8, 9, 10, 11, 12] (by kernel_rfl) (by kernel_rfl) (WD.heavy 12 z (by kernel_rfl) ?_))
       have eP := ((m.st j z).st Z z).st aa z
       refine WL.store (v := ag [vi (w64 (ad - 1)), vu a0.Zero, vi q.Offset, (vl au av ax), vi r.Offset, (vl ay az aA)]) (cells' := [vi (w64 (ad - 1)), vu a0.Zero, vi q.Offset, (vl au av ax), vi r.Offset, (vl ay az aA)]) ty38 z z eP z (le_ z) z z ?_
       intro g7 ab eQ
       refine nl (At.dq (su_ ab z) (WD.done_ (by kernel_rfl) (At.inBlock (th (rg (wY (ym z) z (wY (Y.add_i z z) z ?_)))))))
       obtain ⟨gp, eR, h⟩ := lt1 h
       refine WL.yE (ya z) (congrArg vi eR.symm) z (nl ?_)
       have eS := b5.st ab z z z
       obtain ⟨hA, aC, eT⟩ := OwnSl.rlb 1007 rfl eS
       have eV := (b4.st ab z z z).st aC z z z
       obtain ⟨gq, aD, eW⟩ := OwnSl.rlb 1008 rfl eV
       have eX := eT.st aD z z z
       have eZ := (eQ.st aC z).st aD z
       exact At.round (w64 (ad - 1), q.Offset, q.Counts, r.Offset, r.Counts, gp, gq, (vl au av ax), (vl ay az aA)) gk (Nat.lt_succ_self _) ⟨next1 h b3, (tr_ (su_ ar z) (tr_ (su_ j z) (tr_ (su_ Z z) (tr_ (su_ aa z) (tr_ (su_ ab z) (tr_ (su_ aC z) (su_ aD z))))))), eX, eW, eZ⟩ (.cons z (.cons z (.cons z (.cons z .nil))))
      ·refine WC.condF' z aW (WC.exit (At.thenX (At.loopX ?_)))
       obtain ⟨hC, aE, e0⟩ := OwnSl.rlb 1009 rfl aT
       have e1 := aU.st aE z z z
       obtain ⟨gr, aF, e2⟩ := OwnSl.rlb 1010 rfl e1
       have e5 := e0.st aF z z z
       have e7 := (m.st aE z).st aF z
       exact At.hitB (σ := (Int × Int × List UInt64 × Int × List UInt64 × Own × Value × Value)) (ad, aR, cy, aS, cz, gr, bK, bL) ⟨brk1 h b3, (tr_ (su_ ar z) (tr_ (su_ aE z) (su_ aF z))), e5, e2, e7⟩ (.cons z (.cons z .nil))
     ·rintro ⟨aX, aY, hD, aZ, hE, gs, gt, gu⟩ g8 ⟨rfl, aG, a2, a3, b6⟩
      replace h := flowK_go eh
      try dsimp only at h aG a2 a3 b6
      refine (show At _ _ _ [(4, pt p 0), (7, pt an 0)] _ from ?_)
      refine At.inBlockHit (th (sq (rg (wY (yL ty38 z z (b6.cells 0 [vi aX, vu a0.Zero, vi aY, gt, vi aZ, gu] z) z) z ?_))))
      have e8 := h
      obtain ⟨a4, a5, a6, rfl⟩ := a2.shape
      have h := e8
      have e9 := h
      obtain ⟨a7, a8, a9, rfl⟩ := a3.shape
      have h := e9
      have ff := ((((bf.st c z).st d z).st ao z).st n z).st aG z
      refine WL.store (v := ag [vi aX, vu a0.Zero, vi aY, (vl a4 a5 a6), vi aZ, (vl a7 a8 a9)]) (cells' := [vi aX, vu a0.Zero, vi aY, (vl a4 a5 a6), vi aZ, (vl a7 a8 a9)]) ty38 z z ff z (le_ z) z z ?_
      intro fg aH fh
      refine wY (ya z) z (nl (th (rt ?_)))
      obtain ⟨rfl, rfl⟩ := tup2 h
      have ba : Stp [12, 13, 14, 15, 16, 17, 18, 19, 20, 21, 22, 1001, 1002, 1003, 1004, 1005, 1006, 1007, 1008] (Lg.O0 A) w gs fg := (tr_ (su_ t z) (tr_ (su_ o z) (tr_ (su_ c z) (tr_ (su_ d z) (tr_ (su_ ao z) (tr_ (su_ n z) (tr_ (su_ aG z) (su_ aH z))))))))
      have b7 := a2.st aH z z z
      have b8 := a3.st aH z z z
      exact At.res (.inl z) z (.cell z (fh.runAg 0 [vi aX, vu a0.Zero, vi aY, (vl a4 a5 a6), vi aZ, (vl a7 a8 a9)] ty38 z z z) (.tmp z .nil)) ⟨(vl a4 a5 a6), (vl a7 a8 a9), z, (se_ ba z z), (OwnSl.outF b7 ba low0 z), (OwnSl.outF b8 ba low0 z), (ne_own b7 b8 z)⟩
end Go.Lg
