/- The walks of RelabelNone and of what it calls, printed by gen.py. -/
import Derived.Test.YtihlealbhlgikaaDoorRnLgReWRelabelNonex2
set_option linter.unusedVariables false
namespace Go.Lg
open Go Go.Proofs
set_option maxRecDepth 100000
set_option maxHeartbeats 4000000
theorem c_ref05_Odd {a0 : UInt64} {w : World} {r0 : Bool} (h : ref05_Odd a0 = some r0) : Rets Tryd.prog 62 [vu a0] w (fun v w' => v = vB r0 ∧ Ext w w') := by
 unfold ref05_Odd at h
 refine Rets.enter Tryd.func62 z z ?_
 refine (show WC _ _ _ _ [(0, vu a0)] _ from ?_)
 refine sq (rg (wY (ya z) z (nl (th (sq (rg (wY (ym z) z (wY (Y.quo_u (b := 4503599627370496) (by decide) z z) z (wY (Y.rem_u (b := 2048) (by decide) z z) z ?_)))))))))
 refine wY (Y.eql_u (b := 2047) z z) z (wY (ym z) z ?_)
 refine WL.cut 4 (σ := Unit) (fun _ w' => w = w') (fun _ => [(11, vB ((decide (((a0 / 4503599627370496) % 2048) = 2047)) && (!decide ((a0 % 4503599627370496) = 0))))]) ?_ ?_
 ·refine WL.part 7 z (fun c => ?_) (fun c => ?_)
  ·refine ug z z (wY (ym z) z (ug z z (wY (Y.rem_u (b := 4503599627370496) (by decide) z z) z (ug z z (wY (Y.neq_u (b := 0) z z) z (wY (Y.pick (b := true) z z) z (WL.ren (v' := vB ((decide (((a0 / 4503599627370496) % 2048) = 2047)) && (!decide ((a0 % 4503599627370496) = 0)))) 11 z (congrArg vB (andT c)) ?_)))))))
   exact nl (At.join () z (.cons z .nil))
  ·refine WL.gS z z z z (WL.gS z z z z (WL.gS z z z z (wY (Y.pick (b := false) z z) z (WL.ren (v' := vB ((decide (((a0 / 4503599627370496) % 2048) = 2047)) && (!decide ((a0 % 4503599627370496) = 0)))) 11 z (congrArg vB (andF c)) ?_))))
   exact nl (At.join () z (.cons z .nil))
 ·rintro _ _ rfl
  refine (show WL _ _ _ _ _ [(11, vB ((decide (((a0 / 4503599627370496) % 2048) = 2047)) && (!decide ((a0 % 4503599627370496) = 0))))] _ from ?_)
  obtain ⟨n, j, h⟩ := lt1 h
  refine WL.yE (ya z) (congrArg vB j.symm) z (nl (th (rt ?_)))
  obtain rfl := some1 h
  have m : Stp [] (Lg.O0 (fun _ => False)) w (Lg.O0 (fun _ => False)) w := (sr_ _ _ _)
  exact At.res (.inl z) z (.tmp z .nil) ⟨z, (se_ m z z)⟩
theorem c_ref05_Less {a0 : UInt64} {a1 : UInt64} {w : World} {r0 : Bool} (h : ref05_Less a0 a1 = some r0) : Rets Tryd.prog 38 [vu a0, vu a1] w (fun v w' => v = vB r0 ∧ Ext w w') := by
 unfold ref05_Less at h
 refine Rets.enter Tryd.func38 z z ?_
 refine (show WC _ _ _ _ [(0, vu a0), (1, vu a1)] _ from ?_)
 refine sq (rg (wY (ya z) z (nl (th (sq (sq (rg (wY (ym z) z ?_))))))))
 obtain ⟨ap, J, h⟩ := bnd h
 refine WL.call (vals := [vu a0]) kok62 z z (c_ref05_Odd J) ?_
 rintro am K ⟨rfl, L⟩
 obtain ⟨H, ad, ae, o⟩ := adoptE (Lg.O0 (fun _ => False)) (fun k => 1) L
 refine wY (ym z) z ?_
 obtain ⟨af, h, M⟩ := bnd h
 refine WL.cut 3 (σ := (Bool × Own)) (fun x w' => x.1 = af ∧ Stp [] H K x.2 w') (fun x => [(0, vu a0), (1, vu a1), (12, vB x.1)]) ?_ ?_
 ·rcases cnd h with ⟨q, h⟩ | ⟨q, h⟩
  ·refine WL.ren 9 z (congrArg vB q) (WL.gS z z z z (WL.gS z z z z (wY (Y.pick (b := true) z z) z ?_)))
   exact nl (At.join (σ := (Bool × Own)) (true, H) ⟨some1 h, (sr_ _ _ _)⟩ (.cons z (.cons z (.cons z .nil))))
  ·refine WL.ren 9 z (congrArg vB q) (ug z z (wY (ym z) z (ug z z ?_)))
   obtain ⟨ah, P, h⟩ := bnd h
   refine WL.call (vals := [vu a1]) kok62 z z (c_ref05_Odd P) ?_
   rintro an ao ⟨rfl, Q⟩
   obtain ⟨ai, aj, ak, I⟩ := adoptE H (fun k => 1) Q
   refine wY (Y.pick (b := false) z z) z ?_
   exact nl (At.join (σ := (Bool × Own)) (ah, ai) ⟨some1 h, (su_ I z)⟩ (.cons z (.cons z (.cons z .nil))))
 ·rintro ⟨al, p⟩ c ⟨rfl, j⟩
  replace h := M
  try dsimp only at h j
  refine (show WL _ _ _ _ _ [(0, vu a0), (1, vu a1), (12, vB al)] _ from ?_)
  refine nl (th ?_)
  rcases cnd h with ⟨r, h⟩ | ⟨r, h⟩
  ·refine WC.condT' z r (sq (rg (wY (ya z) z (nl (th (rt (At.thenR ?_)))))))
   obtain rfl := some1 h
   have S : Stp [] (Lg.O0 (fun _ => False)) w p c := (tr_ (su_ o z) (su_ j z))
   exact At.res (.inl z) z (.tmp z .nil) ⟨z, (se_ S z z)⟩
  ·refine WC.condF' z r (sk (th (sq (rg (wY (ym z) z (wY (Y.rem_u (b := 9223372036854775808) (by decide) z z) z (wY (ym z) z (wY (Y.rem_u (b := 9223372036854775808) (by decide) z z) z ?_))))))))
   obtain ⟨m, T, h⟩ := lt1 h
   refine WL.yE (ya z) (congrArg vu T.symm) z ?_
   obtain ⟨n, U, h⟩ := lt1 h
   refine WL.yE (ya z) (congrArg vu U.symm) z (nl (th (sq (sq (rg (wY (ym z) z (wY (Y.eql_u (b := 0) z z) z (wY (ym z) z ?_))))))))
   refine WL.cut 3 (σ := Unit) (fun _ w' => c = w') (fun _ => [(0, vu a0), (1, vu a1), (5, vu m), (6, vu n), (22, vB ((decide (m = 0)) && (decide (n = 0))))]) ?_ ?_
   ·refine WL.part 19 z (fun t => ?_) (fun t => ?_)
    ·refine ug z z (wY (ym z) z (ug z z (wY (Y.eql_u (b := 0) z z) z (wY (Y.pick (b := true) z z) z (WL.ren (v' := vB ((decide (m = 0)) && (decide (n = 0)))) 22 z (congrArg vB (andT t)) ?_)))))
     exact nl (At.join () z (.cons z (.cons z (.cons z (.cons z (.cons z .nil))))))
    ·refine WL.gS z z z z (WL.gS z z z z (wY (Y.pick (b := false) z z) z (WL.ren (v' := vB ((decide (m = 0)) && (decide (n = 0)))) 22 z (congrArg vB (andF t)) ?_)))
     exact nl (At.join () z (.cons z (.cons z (.cons z (.cons z (.cons z .nil))))))
   ·rintro _ _ rfl
    refine (show WL _ _ _ _ _ [(0, vu a0), (1, vu a1), (5, vu m), (6, vu n), (22, vB ((decide (m = 0)) && (decide (n = 0))))] _ from ?_)
    refine nl (th ?_)
    rcases cnd h with ⟨C, h⟩ | ⟨C, h⟩
    ·refine WC.condT' z C (sq (rg (wY (ya z) z (nl (th (rt (At.thenR ?_)))))))
     obtain rfl := some1 h
     have V : Stp [] (Lg.O0 (fun _ => False)) w p c := (tr_ (su_ o z) (su_ j z))
     exact At.res (.inl z) z (.tmp z .nil) ⟨z, (se_ V z z)⟩
    ·refine WC.condF' z C (sk (th (sq (sq (rg (wY (ym z) z (wY (Y.geq_u (b := 9223372036854775808) z z) z (wY (ym z) z ?_))))))))
     refine WL.cut 3 (σ := Unit) (fun _ w' => c = w') (fun _ => [(0, vu a0), (1, vu a1), (5, vu m), (6, vu n), (28, vB ((decide (9223372036854775808 ≤ a0)) && (decide (9223372036854775808 ≤ a1))))]) ?_ ?_
     ·refine WL.part 25 z (fun D => ?_) (fun D => ?_)
      ·refine ug z z (wY (ym z) z (ug z z (wY (Y.geq_u (b := 9223372036854775808) z z) z (wY (Y.pick (b := true) z z) z (WL.ren (v' := vB ((decide (9223372036854775808 ≤ a0)) && (decide (9223372036854775808 ≤ a1)))) 28 z (congrArg vB (andT D)) ?_)))))
       exact nl (At.join () z (.cons z (.cons z (.cons z (.cons z (.cons z .nil))))))
      ·refine WL.gS z z z z (WL.gS z z z z (wY (Y.pick (b := false) z z) z (WL.ren (v' := vB ((decide (9223372036854775808 ≤ a0)) && (decide (9223372036854775808 ≤ a1)))) 28 z (congrArg vB (andF D)) ?_)))
       exact nl (At.join () z (.cons z (.cons z (.cons z (.cons z (.cons z .nil))))))
     ·rintro _ _ rfl
      refine (show WL _ _ _ _ _ [(0, vu a0), (1, vu a1), (5, vu m), (6, vu n), (28, vB ((decide (9223372036854775808 ≤ a0)) && (decide (9223372036854775808 ≤ a1))))] _ from ?_)
      refine nl (th ?_)
      rcases cnd h with ⟨E, h⟩ | ⟨E, h⟩
      ·refine WC.condT' z E (sq (rg (wY (ym z) z (wY (ym z) z (wY (Y.gtr_u z z) z ?_)))))
       obtain ⟨aq, W, h⟩ := lt1 h
       refine WL.yE (ya z) (congrArg vB W.symm) z (nl (th (rt (At.thenR ?_))))
       obtain rfl := some1 h
       have X : Stp [] (Lg.O0 (fun _ => False)) w p c := (tr_ (su_ o z) (su_ j z))
       exact At.res (.inl z) z (.tmp z .nil) ⟨z, (se_ X z z)⟩
      ·refine WC.condF' z E (sk (th (sq (sq (rg (wY (ym z) z (wY (Y.lss_u (b := 9223372036854775808) z z) z (wY (ym z) z ?_))))))))
       refine WL.cut 3 (σ := Unit) (fun _ w' => c = w') (fun _ => [(0, vu a0), (5, vu m), (6, vu n), (37, vB ((decide (a0 < 9223372036854775808)) && (decide (a1 < 9223372036854775808))))]) ?_ ?_
       ·refine WL.part 34 z (fun F => ?_) (fun F => ?_)
        ·refine ug z z (wY (ym z) z (ug z z (wY (Y.lss_u (b := 9223372036854775808) z z) z (wY (Y.pick (b := true) z z) z (WL.ren (v' := vB ((decide (a0 < 9223372036854775808)) && (decide (a1 < 9223372036854775808)))) 37 z (congrArg vB (andT F)) ?_)))))
         exact nl (At.join () z (.cons z (.cons z (.cons z (.cons z .nil)))))
        ·refine WL.gS z z z z (WL.gS z z z z (wY (Y.pick (b := false) z z) z (WL.ren (v' := vB ((decide (a0 < 9223372036854775808)) && (decide (a1 < 9223372036854775808)))) 37 z (congrArg vB (andF F)) ?_)))
         exact nl (At.join () z (.cons z (.cons z (.cons z (.cons z .nil)))))
       ·rintro _ _ rfl
        refine (show WL _ _ _ _ _ [(0, vu a0), (5, vu m), (6, vu n), (37, vB ((decide (a0 < 9223372036854775808)) && (decide (a1 < 9223372036854775808))))] _ from ?_)
        refine nl (th ?_)
        rcases cnd h with ⟨G, h⟩ | ⟨G, h⟩
        ·refine WC.condT' z G (sq (rg (wY (ym z) z (wY (ym z) z (wY (Y.lss_u z z) z ?_)))))
         obtain ⟨ar, Z, h⟩ := lt1 h
         refine WL.yE (ya z) (congrArg vB Z.symm) z (nl (th (rt (At.thenR ?_))))
         obtain rfl := some1 h
         have aa : Stp [] (Lg.O0 (fun _ => False)) w p c := (tr_ (su_ o z) (su_ j z))
         exact At.res (.inl z) z (.tmp z .nil) ⟨z, (se_ aa z z)⟩
        ·refine WC.condF' z G (sk (th (sq (rg (wY (ym z) z (wY (Y.geq_u (b := 9223372036854775808) z z) z ?_))))))
         obtain ⟨au, ab, h⟩ := lt1 h
         refine WL.yE (ya z) (congrArg vB ab.symm) z (nl (th (rt ?_)))
         obtain rfl := some1 h
         have ac : Stp [] (Lg.O0 (fun _ => False)) w p c := (tr_ (su_ o z) (su_ j z))
         exact At.res (.inl z) z (.tmp z .nil) ⟨z, (se_ ac z z)⟩
theorem c_ref08_side {A : Nat → Prop} {v0_1 : Value} {a0 : api_Side} {w : World} (hs0_1 : Sl Rep.u w A v0_1 a0.Counts) {r0 : Int} (h : ref08_side a0 = some r0) : Rets Tryd.prog 63 [ag [vi a0.Offset, v0_1]] w (fun v w' => v = vi r0 ∧ Ext w w') := by
 unfold ref08_side at h
 refine Rets.enter Tryd.func63 z z ?_
 have K : Sl Rep.u w (imm (Lg.O0 A)) v0_1 a0.Counts := (Sl.start hs0_1)
 refine (show WC _ _ _ _ [(0, ag [vi a0.Offset, v0_1])] _ from ?_)
 refine sq (rg ?_)
 have U := h
 obtain ⟨ao, ap, aq, rfl⟩ := K.shape
 have h := U
 refine WL.box (O := (Lg.O0 A)) 11 [vi a0.Offset, (vl ao ap aq)] z z z ?_
 intro J o c j n
 refine wY (ya z) z (nl (th (sq (rg (wY (yf fo37_1 z) z (wY (yl ty35 z z (n.cell 1 _ z)) z ?_))))))
 have p := K.i j z z
 refine wY (Y.len ty35 z p) z ?_
 obtain ⟨m, L, h⟩ := lt1 h
 refine WL.yE (ya z) (congrArg vi L.symm) z (nl (th (sq (sq (rg (wY (ym z) z (wY (Y.gtr_i z z) z (nl (th ?_)))))))))
 rcases cnd h with ⟨q, h⟩ | ⟨q, h⟩
 ·refine WC.condT' z q (sq (rg (wY (ya z) z (nl (th (rt (At.thenR ?_)))))))
  obtain rfl := some1 h
  have V : Stp [] (Lg.O0 A) w o c := (su_ j z)
  exact At.res (.inl z) z (.tmp z .nil) ⟨z, (se_ V z z)⟩
 ·refine WC.condF' z q (sk (th (sq (sq (rg (wY (ym z) z (wY (Y.eql_i z z) z (nl (th ?_)))))))))
  rcases cnd h with ⟨r, h⟩ | ⟨r, h⟩
  ·refine WC.condT' z r (sq (sq (rg (wY (yf fo37_0 z) z (wY (yl ty3 z z (n.cell 0 _ z)) z (wY (Y.neq_i z z) z (nl (th ?_))))))))
   rcases cnd h with ⟨t, h⟩ | ⟨t, h⟩
   ·refine WC.condT' z t (sq (rg (wY (ya z) z (nl (th (rt (At.thenR (At.thenR ?_))))))))
    obtain rfl := some1 h
    have W : Stp [] (Lg.O0 A) w o c := (su_ j z)
    exact At.res (.inl z) z (.tmp z .nil) ⟨z, (se_ W z z)⟩
   ·refine WC.condF' z t (sk (th (sq (rg (wY (ya z) z (nl (th (rt (At.thenR ?_)))))))))
    obtain rfl := some1 h
    have X : Stp [] (Lg.O0 A) w o c := (su_ j z)
    exact At.res (.inl z) z (.tmp z .nil) ⟨z, (se_ X z z)⟩
  ·refine WC.condF' z r (sk (th (sq (sq (rg (wY (yf fo37_1 z) z (wY (yl ty35 z z (n.cell 1 _ z)) z ?_)))))))
   obtain ⟨ar, Z, h⟩ := bnd h
   obtain ⟨aE, ax, ay, aC, aa, ab, ac, C, M, ad⟩ := Sl.at2 p Z
   obtain rfl := M
   replace C : CellsAt _ _ _ [vu ar] := C
   have P := CAt.imm C ad
   refine wY (Y.indexAddr ty35 ty34 z aa z ab ac) z (wY (yl ty34 z z P.at_) z (wY (Y.eql_u (b := 0) z z) z (wY (ym z) z ?_)))
   obtain ⟨au, h, ae⟩ := bnd h
   refine WL.cut 8 (σ := Bool) (fun x w' => x = au ∧ c = w') (fun x => [(1, pt J 0), (3, vi m), (27, vB x)]) ?_ ?_
   ·rcases cnd h with ⟨D, h⟩ | ⟨D, h⟩
    ·refine WL.ren 19 z (congrArg vB D) (WL.gS z z z z (WL.gS z z z z (WL.gS z z z z (WL.gS z z z z (WL.gS z z z z (WL.gS z z z z (WL.gS z z z z (wY (Y.pick (b := true) z z) z ?_))))))))
     exact nl (At.join (σ := Bool) true ⟨some1 h, z⟩ (.cons z (.cons z (.cons z .nil))))
    ·refine WL.ren 19 z (congrArg vB D) (ug z z (wY (yf fo37_1 z) z (ug z z (wY (yl ty35 z z (n.cell 1 _ z)) z (ug z z (wY (ym z) z (ug z z (wY (Y.sub_i z z) z (ug z z ?_)))))))))
     obtain ⟨T, af, h⟩ := bnd h
     obtain ⟨aF, az, aA, aD, ah, ai, aj, E, Q, ak⟩ := Sl.at2 p af
     obtain rfl := Q
     replace E : CellsAt _ _ _ [vu T] := E
     have S := CAt.imm E ak
     refine wY (Y.indexAddr ty35 ty34 z ah z ai aj) z (ug z z (wY (yl ty34 z z S.at_) z (ug z z (wY (Y.eql_u (b := 0) z z) z (wY (Y.pick (b := false) z z) z ?_)))))
     exact nl (At.join (σ := Bool) (decide (T = 0)) ⟨some1 h, z⟩ (.cons z (.cons z (.cons z .nil))))
   ·rintro av _ ⟨rfl, rfl⟩
    replace h := ae
    try dsimp only at h
    refine (show WL _ _ _ _ _ [(1, pt J 0), (3, vi m), (27, vB av)] _ from ?_)
    refine nl (th ?_)
    rcases cnd h with ⟨F, h⟩ | ⟨F, h⟩
    ·refine WC.condT' z F (sq (rg (wY (ya z) z (nl (th (rt (At.thenR ?_)))))))
     obtain rfl := some1 h
     have al : Stp [] (Lg.O0 A) w o c := (su_ j z)
     exact At.res (.inl z) z (.tmp z .nil) ⟨z, (se_ al z z)⟩
    ·refine WC.condF' z F (sk (th (sq (sq (rg (wY (yf fo37_0 z) z (wY (yl ty3 z z (n.cell 0 _ z)) z (wY (Y.lss_i z z) z (wY (ym z) z ?_)))))))))
     refine WL.cut 4 (σ := Unit) (fun _ w' => c = w') (fun _ => [(1, pt J 0), (3, vi m), (35, vB ((decide (a0.Offset < (-1073741824))) || (decide (1073741824 < a0.Offset))))]) ?_ ?_
     ·refine WL.part 31 z (fun G => ?_) (fun G => ?_)
      ·refine WL.gS z z z z (WL.gS z z z z (WL.gS z z z z (wY (Y.pick (b := true) z z) z (WL.ren (v' := vB ((decide (a0.Offset < (-1073741824))) || (decide (1073741824 < a0.Offset)))) 35 z (congrArg vB (orT G)) ?_))))
       exact nl (At.join () z (.cons z (.cons z (.cons z .nil))))
      ·refine ug z z (wY (yf fo37_0 z) z (ug z z (wY (yl ty3 z z (n.cell 0 _ z)) z (ug z z (wY (Y.gtr_i z z) z (wY (Y.pick (b := false) z z) z (WL.ren (v' := vB ((decide (a0.Offset < (-1073741824))) || (decide (1073741824 < a0.Offset)))) 35 z (congrArg vB (orF G)) ?_)))))))
       exact nl (At.join () z (.cons z (.cons z (.cons z .nil))))
     ·rintro _ _ rfl
      refine (show WL _ _ _ _ _ [(1, pt J 0), (3, vi m), (35, vB ((decide (a0.Offset < (-1073741824))) || (decide (1073741824 < a0.Offset))))] _ from ?_)
      refine wY (ym z) z ?_
      refine WL.cut 7 (σ := Unit) (fun _ w' => c = w') (fun _ => [(43, vB (((decide (a0.Offset < (-1073741824))) || (decide (1073741824 < a0.Offset))) || (decide (1073741824 < w64 ((w64 (a0.Offset + m)) - 1)))))]) ?_ ?_
      ·refine WL.part 36 z (fun H => ?_) (fun H => ?_)
       ·refine WL.gS z z z z (WL.gS z z z z (WL.gS z z z z (WL.gS z z z z (WL.gS z z z z (WL.gS z z z z (wY (Y.pick (b := true) z z) z (WL.ren (v' := vB (((decide (a0.Offset < (-1073741824))) || (decide (1073741824 < a0.Offset))) || (decide (1073741824 < w64 ((w64 (a0.Offset + m)) - 1))))) 43 z (congrArg vB (orT H)) ?_)))))))
        exact nl (At.join () z (.cons z .nil))
       ·refine ug z z (wY (yf fo37_0 z) z (ug z z (wY (yl ty3 z z (n.cell 0 _ z)) z (ug z z (wY (ym z) z (ug z z (wY (Y.add_i z z) z (ug z z (wY (Y.sub_i z z) z ?_)))))))))
        refine ug z z (wY (Y.gtr_i z z) z (wY (Y.pick (b := false) z z) z (WL.ren (v' := vB (((decide (a0.Offset < (-1073741824))) || (decide (1073741824 < a0.Offset))) || (decide (1073741824 < w64 ((w64 (a0.Offset + m)) - 1))))) 43 z (congrArg vB (orF H)) ?_)))
        exact nl (At.join () z (.cons z .nil))
      ·rintro _ _ rfl
       refine (show WL _ _ _ _ _ [(43, vB (((decide (a0.Offset < (-1073741824))) || (decide (1073741824 < a0.Offset))) || (decide (1073741824 < w64 ((w64 (a0.Offset + m)) - 1)))))] _ from ?_)
       refine nl (th ?_)
       rcases cnd h with ⟨I, h⟩ | ⟨I, h⟩
       ·refine WC.condT' z I (sq (rg (wY (ya z) z (nl (th (rt (At.thenR ?_)))))))
        obtain rfl := some1 h
        have am : Stp [] (Lg.O0 A) w o c := (su_ j z)
        exact At.res (.inl z) z (.tmp z .nil) ⟨z, (se_ am z z)⟩
       ·refine WC.condF' z I (sk (th (sq (rg (wY (ya z) z (nl (th (rt ?_))))))))
        obtain rfl := some1 h
        have an : Stp [] (Lg.O0 A) w o c := (su_ j z)
        exact At.res (.inl z) z (.tmp z .nil) ⟨z, (se_ an z z)⟩
theorem c_ref08_sum {A : Nat → Prop} {a0 : UInt64} {a1 : List UInt64} {v1 : Value} {w : World} (hs1 : Sl Rep.u w A v1 a1) {r0 : UInt64} {r1 : Bool} (h : ref08_sum a0 a1 = some (r0, r1)) : Rets Tryd.prog 89 [vu a0, v1] w (fun v w' => v = tp [vu r0, vB r1] ∧ Ext w w') := by
 unfold ref08_sum at h
 refine Rets.enter Tryd.func89 z z ?_
 have c : Sl Rep.u w (imm (Lg.O0 A)) v1 a1 := (Sl.start hs1)
 refine (show WC _ _ _ _ [(0, vu a0), (1, v1)] _ from ?_)
 refine sq (rg (wY (ya (v := vu 0) z) z (wY (ya z) z (nl (th (sq (sq (rg (wY (ya z) z ?_)))))))))
 refine nl (th (WC.block ?_))
 obtain ⟨E, h, q⟩ := flow1 h
 obtain ⟨F, h⟩ := loop_some h
 refine WC.joinB 0 (σ := UInt64) (fun x w' => E = .go x ∧ w = w') (fun x => [(0, vu x)]) ?_ ?_
 ·refine WC.loop (σ := (UInt64 × Int)) (fun x k w' => loopN k (ref08_sum_lp1 a1) (x.1, x.2) = some E ∧ w = w') (fun x => [(0, vu x.1), (1, v1), (6, vi x.2)]) (a0, 0) F (.cons z (.cons z (.cons z .nil))) ⟨h, z⟩ ?_
  rintro ⟨G, Z⟩ F _ ⟨h, rfl⟩
  obtain ⟨aa, an, rfl, h, j⟩ := rnd1 h
  unfold ref08_sum_lp1 at h
  try dsimp only at h
  refine (show WC _ _ _ _ [(0, vu G), (1, v1), (6, vi Z)] _ from ?_)
  refine sq (sq (rg (wY (ym z) z (wY (ym z) z (wY (Y.len ty35 z c) z (wY (Y.lss_i z z) z (nl (th ?_))))))))
  rcases cnd h with ⟨m, h⟩ | ⟨m, h⟩
  ·refine WC.condT' z m (sk (th (sq (WC.block (sq (sq (rg (wY (ym z) z (wY (ym z) z ?_)))))))))
   obtain ⟨ab, H, h⟩ := bnd h
   obtain ⟨ao, ah, ai, al, I, J, K, n, r, L⟩ := Sl.at2 c H
   obtain rfl := r
   replace n : CellsAt _ _ _ [vu ab] := n
   have t := CAt.imm n L
   refine wY (Y.indexAddr ty35 ty34 z I z J K) z (wY (yl ty34 z z t.at_) z (wY (ym z) z (wY (Y.sub_u (a := 18446744073709551615) z z) z (wY (Y.gtr_u z z) z (nl (th ?_))))))
   rcases cnd h with ⟨o, h⟩ | ⟨o, h⟩
   ·refine WC.condT' z o (sq (rg (wY (ya (v := vu 0) z) z (wY (ya z) z (nl (th (rt (At.thenR (At.inBlockR ?_)))))))))
    refine At.thenR (At.loopR ?_)
    have h := outr1 h j q
    refine At.joinBR (At.inBlockR (At.thenR ?_))
    obtain ⟨rfl, rfl⟩ := tup2 h
    have M : Stp [] (Lg.O0 A) w (Lg.O0 A) w := (sr_ _ _ _)
    exact At.res (.inl z) z (.tmp z (.tmp z .nil)) ⟨z, (se_ M z z)⟩
   ·refine WC.condF' z o (sk (th (rg (wY (ym z) z (wY (ym z) z (wY (ym z) z ?_))))))
    obtain ⟨ac, P, h⟩ := bnd h
    obtain ⟨ap, aj, ak, am, Q, S, T, p, C, U⟩ := Sl.at2 c P
    obtain rfl := C
    replace p : CellsAt _ _ _ [vu ac] := p
    have D := CAt.imm p U
    refine wY (Y.indexAddr ty35 ty34 z Q z S T) z (wY (yl ty34 z z D.at_) z (wY (Y.add_u z z) z ?_))
    obtain ⟨ad, V, h⟩ := lt1 h
    refine WL.yE (ya z) (congrArg vu V.symm) z (nl (At.inBlock (th (rg (wY (ym z) z (wY (Y.add_i z z) z ?_))))))
    obtain ⟨ae, W, h⟩ := lt1 h
    refine WL.yE (ya z) (congrArg vi W.symm) z (nl ?_)
    exact At.round (ad, ae) aa (Nat.lt_succ_self _) ⟨next1 h j, z⟩ (.cons z (.cons z (.cons z .nil)))
  ·refine WC.condF' z m (WC.exit (At.thenX (At.loopX ?_)))
   exact At.hitB (σ := UInt64) G ⟨brk1 h j, z⟩ (.cons z .nil)
 ·rintro af _ ⟨rfl, rfl⟩
  replace h := flowK_go q
  try dsimp only at h
  refine (show At _ _ _ [(0, vu af)] _ from ?_)
  refine At.inBlockHit (th (sq (rg (wY (ym z) z (wY (ya z) z (wY (ya z) z (nl (th (rt ?_)))))))))
  obtain ⟨rfl, rfl⟩ := tup2 h
  have X : Stp [] (Lg.O0 A) w (Lg.O0 A) w := (sr_ _ _ _)
  exact At.res (.inl z) z (.tmp z (.tmp z .nil)) ⟨z, (se_ X z z)⟩
theorem c_ref08_Total {A : Nat → Prop} {v0_3 : Value} {v0_5 : Value} {a0 : api_Hist} {w : World} (hs0_3 : Sl Rep.u w A v0_3 a0.Pos.Counts) (hs0_5 : Sl Rep.u w A v0_5 a0.Neg.Counts) {r0 : UInt64} {r1 : Bool} (h : ref08_Total a0 = some (r0, r1)) : Rets Tryd.prog 64 [ag (hl a0 v0_3 v0_5)] w (fun v w' => v = tp [vu r0, vB r1] ∧ Ext w w') := by
 unfold ref08_Total at h
 refine Rets.enter Tryd.func64 z z ?_
 have o : Sl Rep.u w (imm (Lg.O0 A)) v0_3 a0.Pos.Counts := (Sl.start hs0_3)
 have p : Sl Rep.u w (imm (Lg.O0 A)) v0_5 a0.Neg.Counts := (Sl.start hs0_5)
 refine (show WC _ _ _ _ [(0, ag (hl a0 v0_3 v0_5))] _ from ?_)
 refine sq (rg ?_)
 have H := h
 obtain ⟨r, t, C, rfl⟩ := o.shape
 have h := H
 have I := h
 obtain ⟨D, E, F, rfl⟩ := p.shape
 have h := I
 refine WL.box (O := (Lg.O0 A)) 11 (hl a0 (vl r t C) (vl D E F)) z z z ?_
 intro ak Z ah c m
 refine wY (ya (v := vu 0) z) z (wY (ya z) z (nl (th (sq (rg (wY (yf fo39_1 z) z (wY (yl ty34 z z (m.cell 1 _ z)) z (wY (yf fo39_2 z) z (wY (yf fo37_1 z) z ?_)))))))))
 refine wY (yl ty35 z z (m.cell 3 _ z)) z ?_
 have J := o.i c z z
 obtain ⟨⟨aa, al⟩, K, h⟩ := bnd h
 refine WL.call (vals := [vu a0.Zero, (vl r t C)]) kok89 z z (c_ref08_sum (A := fun _ => True) (Sl.all J) K) ?_
 rintro ai L ⟨rfl, M⟩
 obtain ⟨G, ab, ac, j⟩ := adoptE Z (fun k => 1) M
 refine wY (ym z) z (wY (yx z z) z (wY (yx z z) z (wY (ya z) z (wY (ya z) z (nl (th (sq (sq (rg ?_)))))))))
 refine wY (ym z) z (wY (Y.not z) z (nl (th ?_)))
 rcases cnd h with ⟨n, h⟩ | ⟨n, h⟩
 ·refine WC.condT' z n (sq (rg (wY (ya (v := vu 0) z) z (wY (ya z) z (nl (th (rt (At.thenR ?_))))))))
  obtain ⟨rfl, rfl⟩ := tup2 h
  have P : Stp [] (Lg.O0 A) w G L := (tr_ (su_ c z) (su_ j z))
  exact At.res (.inl z) z (.tmp z (.tmp z .nil)) ⟨z, (se_ P z z)⟩
 ·refine WC.condF' z n (sk (th (sq (rg (wY (ym z) z (wY (yf fo39_3 z) z (wY (yf fo37_1 z) z ?_)))))))
  have Q := m.st j z
  refine wY (yl ty35 z z (Q.cell 5 _ z)) z ?_
  have T := (p.i c z z).i j z z
  obtain ⟨⟨am, an⟩, U, h⟩ := bnd h
  refine WL.call (vals := [vu aa, (vl D E F)]) kok89 z z (c_ref08_sum (A := fun _ => True) (Sl.all T) U) ?_
  rintro aj V ⟨rfl, W⟩
  obtain ⟨ad, ae, af, q⟩ := adoptE G (fun k => 1) W
  refine wY (yx z z) z (wY (yx z z) z (wY (ya z) z (wY (ya z) z (nl (th (rt ?_))))))
  obtain ⟨rfl, rfl⟩ := tup2 h
  have X : Stp [] (Lg.O0 A) w ad V := (tr_ (su_ c z) (tr_ (su_ j z) (su_ q z)))
  exact At.res (.inl z) z (.tmp z (.tmp z .nil)) ⟨z, (se_ X z z)⟩
theorem c_ref08_Check {A : Nat → Prop} {v0_3 : Value} {v0_5 : Value} {a0 : api_Hist} {w : World} (hs0_3 : Sl Rep.u w A v0_3 a0.Pos.Counts) (hs0_5 : Sl Rep.u w A v0_5 a0.Neg.Counts) {r0 : Int} (h : ref08_Check a0 = some r0) : Rets Tryd.prog 39 [ag (hl a0 v0_3 v0_5)] w (fun v w' => v = vi r0 ∧ Ext w w') := by
 unfold ref08_Check at h
 refine Rets.enter Tryd.func39 z z ?_
 have J : Sl Rep.u w (imm (Lg.O0 A)) v0_3 a0.Pos.Counts := (Sl.start hs0_3)
 have K : Sl Rep.u w (imm (Lg.O0 A)) v0_5 a0.Neg.Counts := (Sl.start hs0_5)
 refine (show WC _ _ _ _ [(0, ag (hl a0 v0_3 v0_5))] _ from ?_)
 refine sq (rg ?_)
 have Z := h
 obtain ⟨o, p, q, rfl⟩ := J.shape
 have h := Z
 have aa := h
 obtain ⟨r, t, C, rfl⟩ := K.shape
 have h := aa
 refine WL.box (O := (Lg.O0 A)) 11 (hl a0 (vl o p q) (vl r t C)) z z z ?_
 intro T U L c n
 refine wY (ya z) z (nl (th (sq (sq (rg (wY (yf fo39_0 z) z (wY (yl ty3 z z (n.cell 0 _ z)) z (wY (Y.lss_i z z) z (wY (ym z) z ?_)))))))))
 refine WL.cut 4 (σ := Unit) (fun _ w' => L = w') (fun _ => [(1, pt T 0), (14, vB ((decide (a0.Scale < (-10))) || (decide (20 < a0.Scale))))]) ?_ ?_
 ·refine WL.part 10 z (fun D => ?_) (fun D => ?_)
  ·refine WL.gS z z z z (WL.gS z z z z (WL.gS z z z z (wY (Y.pick (b := true) z z) z (WL.ren (v' := vB ((decide (a0.Scale < (-10))) || (decide (20 < a0.Scale)))) 14 z (congrArg vB (orT D)) ?_))))
   exact nl (At.join () z (.cons z (.cons z .nil)))
  ·refine ug z z (wY (yf fo39_0 z) z (ug z z (wY (yl ty3 z z (n.cell 0 _ z)) z (ug z z (wY (Y.gtr_i z z) z (wY (Y.pick (b := false) z z) z (WL.ren (v' := vB ((decide (a0.Scale < (-10))) || (decide (20 < a0.Scale)))) 14 z (congrArg vB (orF D)) ?_)))))))
   exact nl (At.join () z (.cons z (.cons z .nil)))
 ·rintro _ _ rfl
  refine (show WL _ _ _ _ _ [(1, pt T 0), (14, vB ((decide (a0.Scale < (-10))) || (decide (20 < a0.Scale))))] _ from ?_)
  refine nl (th ?_)
  rcases cnd h with ⟨E, h⟩ | ⟨E, h⟩
  ·refine WC.condT' z E (sq (rg (wY (ya z) z (nl (th (rt (At.thenR ?_)))))))
   obtain rfl := some1 h
   have ab : Stp [] (Lg.O0 A) w U L := (su_ c z)
   exact At.res (.inl z) z (.tmp z .nil) ⟨z, (se_ ab z z)⟩
  ·refine WC.condF' z E (sk (th (sq (sq (rg (wY (yf fo39_2 z) z (wY (yL ty37 z z (n.cells 2 [vi a0.Pos.Offset, (vl o p q)] z) z) z ?_)))))))
   have M := J.i c z z
   obtain ⟨aH, ac, h⟩ := bnd h
   refine WL.call (vals := [ag [vi a0.Pos.Offset, (vl o p q)]]) kok63 z z (c_ref08_side (A := fun _ => True) (a0 := a0.Pos) (Sl.all M) ac) ?_
   rintro aE ad ⟨rfl, ae⟩
   obtain ⟨V, ax, ay, j⟩ := adoptE U (fun k => 1) ae
   refine wY (ya z) z (nl (th (sq (rg (wY (ym z) z (wY (Y.neq_i z z) z (nl (th ?_))))))))
   rcases cnd h with ⟨F, h⟩ | ⟨F, h⟩
   ·refine WC.condT' z F (sq (rg (wY (ym z) z (wY (ya z) z (nl (th (rt (At.thenR ?_))))))))
    obtain rfl := some1 h
    have af : Stp [] (Lg.O0 A) w V ad := (tr_ (su_ c z) (su_ j z))
    exact At.res (.inl z) z (.tmp z .nil) ⟨z, (se_ af z z)⟩
   ·refine WC.condF' z F (sk (th (sq (sq (rg (wY (yf fo39_3 z) z ?_))))))
    have P := n.st j z
    refine wY (yL ty37 z z (P.cells 4 [vi a0.Neg.Offset, (vl r t C)] z) z) z ?_
    have Q := (K.i c z z).i j z z
    obtain ⟨aI, ai, h⟩ := bnd h
    refine WL.call (vals := [ag [vi a0.Neg.Offset, (vl r t C)]]) kok63 z z (c_ref08_side (A := fun _ => True) (a0 := a0.Neg) (Sl.all Q) ai) ?_
    rintro aF aj ⟨rfl, ak⟩
    obtain ⟨W, az, aA, m⟩ := adoptE V (fun k => 1) ak
    refine wY (ya z) z (nl (th (sq (rg (wY (ym z) z (wY (Y.neq_i z z) z (nl (th ?_))))))))
    rcases cnd h with ⟨G, h⟩ | ⟨G, h⟩
    ·refine WC.condT' z G (sq (rg (wY (ym z) z (wY (ya z) z (nl (th (rt (At.thenR ?_))))))))
     obtain rfl := some1 h
     have al : Stp [] (Lg.O0 A) w W aj := (tr_ (su_ c z) (tr_ (su_ j z) (su_ m z)))
     exact At.res (.inl z) z (.tmp z .nil) ⟨z, (se_ al z z)⟩
    ·refine WC.condF' z G (sk (th (sq (sq (rg ?_)))))
     have am := P.st m z
     refine wY (yL ty39 z z (am.cells 0 (hl a0 (vl o p q) (vl r t C)) z) z) z ?_
     have ao := (M.i j z z).i m z z
     have ap := Q.i m z z
     obtain ⟨⟨aJ, aK⟩, aq, h⟩ := bnd h
     refine WL.call (vals := [ag (hl a0 (vl o p q) (vl r t C))]) kok64 z z (c_ref08_Total (A := fun _ => True) (a0 := a0) (Sl.all ao) (Sl.all ap) aq) ?_
     rintro aG S ⟨rfl, ar⟩
     obtain ⟨X, aC, aD, I⟩ := adoptE W (fun k => 1) ar
     refine wY (ym z) z (wY (yx z z) z (wY (yx z z) z (wY (ya z) z (wY (ya z) z (nl (th (sq (rg (wY (ym z) z ?_)))))))))
     refine wY (Y.not z) z (nl (th ?_))
     rcases cnd h with ⟨H, h⟩ | ⟨H, h⟩
     ·refine WC.condT' z H (sq (rg (wY (ya z) z (nl (th (rt (At.thenR ?_)))))))
      obtain rfl := some1 h
      have au : Stp [] (Lg.O0 A) w X S := (tr_ (su_ c z) (tr_ (su_ j z) (tr_ (su_ m z) (su_ I z))))
      exact At.res (.inl z) z (.tmp z .nil) ⟨z, (se_ au z z)⟩
     ·refine WC.condF' z H (sk (th (sq (rg (wY (ya z) z (nl (th (rt ?_))))))))
      obtain rfl := some1 h
      have av : Stp [] (Lg.O0 A) w X S := (tr_ (su_ c z) (tr_ (su_ j z) (tr_ (su_ m z) (su_ I z))))
      exact At.res (.inl z) z (.tmp z .nil) ⟨z, (se_ av z z)⟩
theorem c_ref12_Check {A : Nat → Prop} {v0_1 : Value} {v0_13 : Value} {v0_15 : Value} {a0 : api_Point} {w : World} (hs0_1 : Sl rep_api_Pair w A v0_1 a0.Attrs) (hs0_13 : Sl Rep.u w A v0_13 a0.Hist.Pos.Counts) (hs0_15 : Sl Rep.u w A v0_15 a0.Hist.Neg.Counts) {r0 : Int} (h : ref12_Check a0 = some r0) : Rets Tryd.prog 18 [ag (cp a0 v0_1 v0_13 v0_15)] w (fun v w' => v = vi r0 ∧ Ext w w') := by
 unfold ref12_Check at h
 refine Rets.enter Tryd.func18 z z ?_
 have aS : Sl rep_api_Pair w (imm (Lg.O0 A)) v0_1 a0.Attrs := (Sl.start hs0_1)
 have ai : Sl Rep.u w (imm (Lg.O0 A)) v0_13 a0.Hist.Pos.Counts := (Sl.start hs0_13)
 have aj : Sl Rep.u w (imm (Lg.O0 A)) v0_15 a0.Hist.Neg.Counts := (Sl.start hs0_15)
 refine (show WC _ _ _ _ [(0, ag (cp a0 v0_1 v0_13 v0_15))] _ from ?_)
 refine sq (rg ?_)
 have bs := h
 obtain ⟨bo, bp, bq, rfl⟩ := aS.shape
 have h := bs
 have bt := h
 obtain ⟨aa, ab, ac, rfl⟩ := ai.shape
 have h := bt
 have bu := h
 obtain ⟨ad, ae, af, rfl⟩ := aj.shape
 have h := bu
 refine WL.box (O := (Lg.O0 A)) 11 (cp a0 (vl bo bp bq) (vl aa ab ac) (vl ad ae af)) z z z ?_
 intro c b4 ck n ak
 refine wY (ya z) z (nl (th (sq (sq (rg (wY (yf fo41_0 z) z (wY (yl ty9 z z (ak.cell 0 _ z)) z (wY (yf fo41_1 z) z (wY (yl ty33 z z (ak.cell 1 _ z)) z ?_)))))))))
 have bw := aS.i n z z
 obtain ⟨cr, bx, h⟩ := bnd h
 refine WL.call (vals := [vs a0.Name, (vl bo bp bq)]) kok35 z z (c_ref11_Check (A := fun _ => True) (Sl.all bw) bx) ?_
 rintro cl m ⟨rfl, bz⟩
 obtain ⟨D, b5, b6, o⟩ := adoptE b4 (fun k => 1) bz
 refine wY (ya z) z (nl (th (sq (rg (wY (ym z) z (wY (Y.neq_i z z) z (nl (th ?_))))))))
 rcases cnd h with ⟨al, h⟩ | ⟨al, h⟩
 ·refine WC.condT' z al (sq (rg (wY (ym z) z (wY (ya z) z (nl (th (rt (At.thenR ?_))))))))
  obtain rfl := some1 h
  have bA : Stp [] (Lg.O0 A) w D m := (tr_ (su_ n z) (su_ o z))
  exact At.res (.inl z) z (.tmp z .nil) ⟨z, (se_ bA z z)⟩
 ·refine WC.condF' z al (sk (th (sq (sq (rg (wY (yf fo41_2 z) z ?_))))))
  have j := ak.st o z
  refine wY (yl ty3 z z (j.cell 2 _ z)) z (wY (Y.lss_i z z) z (wY (ym z) z ?_))
  refine WL.cut 4 (σ := Unit) (fun _ w' => m = w') (fun _ => [(1, pt c 0), (19, vB ((decide (a0.Kind < 1)) || (decide (5 < a0.Kind))))]) ?_ ?_
  ·refine WL.part 15 z (fun am => ?_) (fun am => ?_)
   ·refine WL.gS z z z z (WL.gS z z z z (WL.gS z z z z (wY (Y.pick (b := true) z z) z (WL.ren (v' := vB ((decide (a0.Kind < 1)) || (decide (5 < a0.Kind)))) 19 z (congrArg vB (orT am)) ?_))))
    exact nl (At.join () z (.cons z (.cons z .nil)))
   ·refine ug z z (wY (yf fo41_2 z) z (ug z z (wY (yl ty3 z z (j.cell 2 _ z)) z (ug z z (wY (Y.gtr_i z z) z (wY (Y.pick (b := false) z z) z (WL.ren (v' := vB ((decide (a0.Kind < 1)) || (decide (5 < a0.Kind)))) 19 z (congrArg vB (orF am)) ?_)))))))
    exact nl (At.join () z (.cons z (.cons z .nil)))
  ·rintro _ _ rfl
   refine (show WL _ _ _ _ _ [(1, pt c 0), (19, vB ((decide (a0.Kind < 1)) || (decide (5 < a0.Kind))))] _ from ?_)
   refine nl (th ?_)
   rcases cnd h with ⟨an, h⟩ | ⟨an, h⟩
   ·refine WC.condT' z an (sq (rg (wY (ya z) z (nl (th (rt (At.thenR ?_)))))))
    obtain rfl := some1 h
    have bB : Stp [] (Lg.O0 A) w D m := (tr_ (su_ n z) (su_ o z))
    exact At.res (.inl z) z (.tmp z .nil) ⟨z, (se_ bB z z)⟩
   ·refine WC.condF' z an (sk (th (sq (sq (rg (wY (yf fo41_2 z) z (wY (yl ty3 z z (j.cell 2 _ z)) z (wY (Y.eql_i z z) z (wY (ym z) z ?_)))))))))
    refine WL.cut 4 (σ := Unit) (fun _ w' => m = w') (fun _ => [(1, pt c 0), (27, vB ((decide (a0.Kind = 3)) && (!decide (a0.Temp = 0))))]) ?_ ?_
    ·refine WL.part 23 z (fun ao => ?_) (fun ao => ?_)
     ·refine ug z z (wY (yf fo41_3 z) z (ug z z (wY (yl ty3 z z (j.cell 3 _ z)) z (ug z z (wY (Y.neq_i z z) z (wY (Y.pick (b := true) z z) z (WL.ren (v' := vB ((decide (a0.Kind = 3)) && (!decide (a0.Temp = 0)))) 27 z (congrArg vB (andT ao)) ?_)))))))
      exact nl (At.join () z (.cons z (.cons z .nil)))
     ·refine WL.gS z z z z (WL.gS z z z z (WL.gS z z z z (wY (Y.pick (b := false) z z) z (WL.ren (v' := vB ((decide (a0.Kind = 3)) && (!decide (a0.Temp = 0)))) 27 z (congrArg vB (andF ao)) ?_))))
      exact nl (At.join () z (.cons z (.cons z .nil)))
    ·rintro _ _ rfl
     refine (show WL _ _ _ _ _ [(1, pt c 0), (27, vB ((decide (a0.Kind = 3)) && (!decide (a0.Temp = 0))))] _ from ?_)
     refine wY (ym z) z ?_
     refine WL.cut 14 (σ := Unit) (fun _ w' => m = w') (fun _ => [(1, pt c 0), (42, vB (((decide (a0.Kind = 3)) && (!decide (a0.Temp = 0))) || (((!decide (a0.Kind = 3)) && (!decide (a0.Temp = 1))) && (!decide (a0.Temp = 2)))))]) ?_ ?_
     ·refine WL.part 28 z (fun ap => ?_) (fun ap => ?_)
      ·refine WL.gS z z z z (WL.gS z z z z (WL.gS z z z z (WL.gS z z z z (WL.gS z z z z (WL.gS z z z z (WL.gS z z z z (WL.gS z z z z (WL.gS z z z z (WL.gS z z z z ?_)))))))))
       refine WL.gS z z z z (WL.gS z z z z (WL.gS z z z z (wY (Y.pick (b := true) z z) z (WL.ren (v' := vB (((decide (a0.Kind = 3)) && (!decide (a0.Temp = 0))) || (((!decide (a0.Kind = 3)) && (!decide (a0.Temp = 1))) && (!decide (a0.Temp = 2))))) 42 z (congrArg vB (orT ap)) ?_))))
       exact nl (At.join () z (.cons z (.cons z .nil)))
      ·refine ug z z (wY (yf fo41_2 z) z (ug z z (wY (yl ty3 z z (j.cell 2 _ z)) z (ug z z (wY (Y.neq_i z z) z (ug z z (wY (ym z) z ?_)))))))
       refine WL.cut 4 (σ := Unit) (fun _ w' => m = w') (fun _ => [(1, pt c 0), (28, vB false), (36, vB ((!decide (a0.Kind = 3)) && (!decide (a0.Temp = 1))))]) ?_ ?_
       ·refine WL.part 32 z (fun aq => ?_) (fun aq => ?_)
        ·refine ug z z (wY (yf fo41_3 z) z (ug z z (wY (yl ty3 z z (j.cell 3 _ z)) z (ug z z (wY (Y.neq_i z z) z (ug z z (wY (Y.pick (b := true) z z) z (WL.ren (v' := vB ((!decide (a0.Kind = 3)) && (!decide (a0.Temp = 1)))) 36 z (congrArg vB (andT aq)) ?_))))))))
         exact nl (At.join () z (.cons z (.cons z (.cons z .nil))))
        ·refine WL.gS z z z z (WL.gS z z z z (WL.gS z z z z (ug z z (wY (Y.pick (b := false) z z) z (WL.ren (v' := vB ((!decide (a0.Kind = 3)) && (!decide (a0.Temp = 1)))) 36 z (congrArg vB (andF aq)) ?_)))))
         exact nl (At.join () z (.cons z (.cons z (.cons z .nil))))
       ·rintro _ _ rfl
        refine (show WL _ _ _ _ _ [(1, pt c 0), (28, vB false), (36, vB ((!decide (a0.Kind = 3)) && (!decide (a0.Temp = 1))))] _ from ?_)
        refine ug z z (wY (ym z) z ?_)
        refine WL.cut 4 (σ := Unit) (fun _ w' => m = w') (fun _ => [(1, pt c 0), (28, vB false), (41, vB (((!decide (a0.Kind = 3)) && (!decide (a0.Temp = 1))) && (!decide (a0.Temp = 2))))]) ?_ ?_
        ·refine WL.part 37 z (fun ar => ?_) (fun ar => ?_)
         ·refine ug z z (wY (yf fo41_3 z) z (ug z z (wY (yl ty3 z z (j.cell 3 _ z)) z (ug z z (wY (Y.neq_i z z) z (ug z z (wY (Y.pick (b := true) z z) z (WL.ren (v' := vB (((!decide (a0.Kind = 3)) && (!decide (a0.Temp = 1))) && (!decide (a0.Temp = 2)))) 41 z (congrArg vB (andT ar)) ?_))))))))
          exact nl (At.join () z (.cons z (.cons z (.cons z .nil))))
         ·refine WL.gS z z z z (WL.gS z z z z (WL.gS z z z z (ug z z (wY (Y.pick (b := false) z z) z (WL.ren (v' := vB (((!decide (a0.Kind = 3)) && (!decide (a0.Temp = 1))) && (!decide (a0.Temp = 2)))) 41 z (congrArg vB (andF ar)) ?_)))))
          exact nl (At.join () z (.cons z (.cons z (.cons z .nil))))
        ·rintro _ _ rfl
         refine (show WL _ _ _ _ _ [(1, pt c 0), (28, vB false), (41, vB (((!decide (a0.Kind = 3)) && (!decide (a0.Temp = 1))) && (!decide (a0.Temp = 2))))] _ from ?_)
         refine wY (Y.pick (b := false) z z) z (WL.ren (v' := vB (((decide (a0.Kind = 3)) && (!decide (a0.Temp = 0))) || (((!decide (a0.Kind = 3)) && (!decide (a0.Temp = 1))) && (!decide (a0.Temp = 2))))) 42 z (congrArg vB (orF ap)) ?_)
         exact nl (At.join () z (.cons z (.cons z .nil)))
     ·rintro _ _ rfl
      refine (show WL _ _ _ _ _ [(1, pt c 0), (42, vB (((decide (a0.Kind = 3)) && (!decide (a0.Temp = 0))) || (((!decide (a0.Kind = 3)) && (!decide (a0.Temp = 1))) && (!decide (a0.Temp = 2)))))] _ from ?_)
      refine nl (th ?_)
      rcases cnd h with ⟨au, h⟩ | ⟨au, h⟩
      ·refine WC.condT' z au (sq (rg (wY (ya z) z (nl (th (rt (At.thenR ?_)))))))
       obtain rfl := some1 h
       have bC : Stp [] (Lg.O0 A) w D m := (tr_ (su_ n z) (su_ o z))
       exact At.res (.inl z) z (.tmp z .nil) ⟨z, (se_ bC z z)⟩
      ·refine WC.condF' z au (sk (th (sq (sq (rg (wY (yf fo41_4 z) z (wY (yl ty4 z z (j.cell 4 _ z)) z (wY (ym z) z ?_))))))))
       refine WL.cut 4 (σ := Unit) (fun _ w' => m = w') (fun _ => [(1, pt c 0), (49, vB (a0.Mono && (!decide (a0.Kind = 1))))]) ?_ ?_
       ·refine WL.part 45 z (fun av => ?_) (fun av => ?_)
        ·refine ug z z (wY (yf fo41_2 z) z (ug z z (wY (yl ty3 z z (j.cell 2 _ z)) z (ug z z (wY (Y.neq_i z z) z (wY (Y.pick (b := true) z z) z (WL.ren (v' := vB (a0.Mono && (!decide (a0.Kind = 1)))) 49 z (congrArg vB (andT av)) ?_)))))))
         exact nl (At.join () z (.cons z (.cons z .nil)))
        ·refine WL.gS z z z z (WL.gS z z z z (WL.gS z z z z (wY (Y.pick (b := false) z z) z (WL.ren (v' := vB (a0.Mono && (!decide (a0.Kind = 1)))) 49 z (congrArg vB (andF av)) ?_))))
         exact nl (At.join () z (.cons z (.cons z .nil)))
       ·rintro _ _ rfl
        refine (show WL _ _ _ _ _ [(1, pt c 0), (49, vB (a0.Mono && (!decide (a0.Kind = 1))))] _ from ?_)
        refine wY (ym z) z ?_
        refine WL.cut 4 (σ := Unit) (fun _ w' => m = w') (fun _ => [(1, pt c 0), (54, vB ((a0.Mono && (!decide (a0.Kind = 1))) && (!decide (a0.Kind = 2))))]) ?_ ?_
        ·refine WL.part 50 z (fun ax => ?_) (fun ax => ?_)
         ·refine ug z z (wY (yf fo41_2 z) z (ug z z (wY (yl ty3 z z (j.cell 2 _ z)) z (ug z z (wY (Y.neq_i z z) z (wY (Y.pick (b := true) z z) z (WL.ren (v' := vB ((a0.Mono && (!decide (a0.Kind = 1))) && (!decide (a0.Kind = 2)))) 54 z (congrArg vB (andT ax)) ?_)))))))
          exact nl (At.join () z (.cons z (.cons z .nil)))
         ·refine WL.gS z z z z (WL.gS z z z z (WL.gS z z z z (wY (Y.pick (b := false) z z) z (WL.ren (v' := vB ((a0.Mono && (!decide (a0.Kind = 1))) && (!decide (a0.Kind = 2)))) 54 z (congrArg vB (andF ax)) ?_))))
          exact nl (At.join () z (.cons z (.cons z .nil)))
        ·rintro _ _ rfl
         refine (show WL _ _ _ _ _ [(1, pt c 0), (54, vB ((a0.Mono && (!decide (a0.Kind = 1))) && (!decide (a0.Kind = 2))))] _ from ?_)
         refine nl (th ?_)
         rcases cnd h with ⟨ay, h⟩ | ⟨ay, h⟩
         ·refine WC.condT' z ay (sq (rg (wY (ya z) z (nl (th (rt (At.thenR ?_)))))))
          obtain rfl := some1 h
          have bD : Stp [] (Lg.O0 A) w D m := (tr_ (su_ n z) (su_ o z))
          exact At.res (.inl z) z (.tmp z .nil) ⟨z, (se_ bD z z)⟩
         ·refine WC.condF' z ay (sk (th (sq (sq (rg (wY (yf fo41_5 z) z (wY (yl ty3 z z (j.cell 5 _ z)) z (wY (Y.lss_i z z) z (wY (ym z) z ?_)))))))))
          refine WL.cut 4 (σ := Unit) (fun _ w' => m = w') (fun _ => [(1, pt c 0), (62, vB ((decide (a0.Start < 0)) || (decide (4503599627370496 < a0.Time))))]) ?_ ?_
          ·refine WL.part 58 z (fun az => ?_) (fun az => ?_)
           ·refine WL.gS z z z z (WL.gS z z z z (WL.gS z z z z (wY (Y.pick (b := true) z z) z (WL.ren (v' := vB ((decide (a0.Start < 0)) || (decide (4503599627370496 < a0.Time)))) 62 z (congrArg vB (orT az)) ?_))))
            exact nl (At.join () z (.cons z (.cons z .nil)))
           ·refine ug z z (wY (yf fo41_6 z) z (ug z z (wY (yl ty3 z z (j.cell 6 _ z)) z (ug z z (wY (Y.gtr_i z z) z (wY (Y.pick (b := false) z z) z (WL.ren (v' := vB ((decide (a0.Start < 0)) || (decide (4503599627370496 < a0.Time)))) 62 z (congrArg vB (orF az)) ?_)))))))
            exact nl (At.join () z (.cons z (.cons z .nil)))
          ·rintro _ _ rfl
           refine (show WL _ _ _ _ _ [(1, pt c 0), (62, vB ((decide (a0.Start < 0)) || (decide (4503599627370496 < a0.Time))))] _ from ?_)
           refine wY (ym z) z ?_
           refine WL.cut 11 (σ := Unit) (fun _ w' => m = w') (fun _ => [(1, pt c 0), (74, vB (((decide (a0.Start < 0)) || (decide (4503599627370496 < a0.Time))) || ((decide (a0.Kind = 3)) && (!decide (a0.Start = a0.Time)))))]) ?_ ?_
           ·refine WL.part 63 z (fun aA => ?_) (fun aA => ?_)
            ·refine WL.gS z z z z (WL.gS z z z z (WL.gS z z z z (WL.gS z z z z (WL.gS z z z z (WL.gS z z z z (WL.gS z z z z (WL.gS z z z z (WL.gS z z z z (WL.gS z z z z ?_)))))))))
             refine wY (Y.pick (b := true) z z) z (WL.ren (v' := vB (((decide (a0.Start < 0)) || (decide (4503599627370496 < a0.Time))) || ((decide (a0.Kind = 3)) && (!decide (a0.Start = a0.Time))))) 74 z (congrArg vB (orT aA)) ?_)
             exact nl (At.join () z (.cons z (.cons z .nil)))
            ·refine ug z z (wY (yf fo41_2 z) z (ug z z (wY (yl ty3 z z (j.cell 2 _ z)) z (ug z z (wY (Y.eql_i z z) z (ug z z (wY (ym z) z ?_)))))))
             refine WL.cut 6 (σ := Unit) (fun _ w' => m = w') (fun _ => [(1, pt c 0), (63, vB false), (73, vB ((decide (a0.Kind = 3)) && (!decide (a0.Start = a0.Time))))]) ?_ ?_
             ·refine WL.part 67 z (fun aC => ?_) (fun aC => ?_)
              ·refine ug z z (wY (yf fo41_5 z) z (ug z z (wY (yl ty3 z z (j.cell 5 _ z)) z (ug z z (wY (yf fo41_6 z) z (ug z z (wY (yl ty3 z z (j.cell 6 _ z)) z (ug z z (wY (Y.neq_i z z) z ?_)))))))))
               refine ug z z (wY (Y.pick (b := true) z z) z (WL.ren (v' := vB ((decide (a0.Kind = 3)) && (!decide (a0.Start = a0.Time)))) 73 z (congrArg vB (andT aC)) ?_))
               exact nl (At.join () z (.cons z (.cons z (.cons z .nil))))
              ·refine WL.gS z z z z (WL.gS z z z z (WL.gS z z z z (WL.gS z z z z (WL.gS z z z z (ug z z (wY (Y.pick (b := false) z z) z (WL.ren (v' := vB ((decide (a0.Kind = 3)) && (!decide (a0.Start = a0.Time)))) 73 z (congrArg vB (andF aC)) ?_)))))))
               exact nl (At.join () z (.cons z (.cons z (.cons z .nil))))
             ·rintro _ _ rfl
              refine (show WL _ _ _ _ _ [(1, pt c 0), (63, vB false), (73, vB ((decide (a0.Kind = 3)) && (!decide (a0.Start = a0.Time))))] _ from ?_)
              refine wY (Y.pick (b := false) z z) z (WL.ren (v' := vB (((decide (a0.Start < 0)) || (decide (4503599627370496 < a0.Time))) || ((decide (a0.Kind = 3)) && (!decide (a0.Start = a0.Time))))) 74 z (congrArg vB (orF aA)) ?_)
              exact nl (At.join () z (.cons z (.cons z .nil)))
           ·rintro _ _ rfl
            refine (show WL _ _ _ _ _ [(1, pt c 0), (74, vB (((decide (a0.Start < 0)) || (decide (4503599627370496 < a0.Time))) || ((decide (a0.Kind = 3)) && (!decide (a0.Start = a0.Time)))))] _ from ?_)
            refine wY (ym z) z ?_
            refine WL.cut 11 (σ := Unit) (fun _ w' => m = w') (fun _ => [(1, pt c 0), (86, vB ((((decide (a0.Start < 0)) || (decide (4503599627370496 < a0.Time))) || ((decide (a0.Kind = 3)) && (!decide (a0.Start = a0.Time)))) || ((!decide (a0.Kind = 3)) && (decide (a0.Time ≤ a0.Start)))))]) ?_ ?_
            ·refine WL.part 75 z (fun aD => ?_) (fun aD => ?_)
             ·refine WL.gS z z z z (WL.gS z z z z (WL.gS z z z z (WL.gS z z z z (WL.gS z z z z (WL.gS z z z z (WL.gS z z z z (WL.gS z z z z (WL.gS z z z z (WL.gS z z z z ?_)))))))))
              refine wY (Y.pick (b := true) z z) z (WL.ren (v' := vB ((((decide (a0.Start < 0)) || (decide (4503599627370496 < a0.Time))) || ((decide (a0.Kind = 3)) && (!decide (a0.Start = a0.Time)))) || ((!decide (a0.Kind = 3)) && (decide (a0.Time ≤ a0.Start))))) 86 z (congrArg vB (orT aD)) ?_)
              exact nl (At.join () z (.cons z (.cons z .nil)))
             ·refine ug z z (wY (yf fo41_2 z) z (ug z z (wY (yl ty3 z z (j.cell 2 _ z)) z (ug z z (wY (Y.neq_i z z) z (ug z z (wY (ym z) z ?_)))))))
              refine WL.cut 6 (σ := Unit) (fun _ w' => m = w') (fun _ => [(1, pt c 0), (75, vB false), (85, vB ((!decide (a0.Kind = 3)) && (decide (a0.Time ≤ a0.Start))))]) ?_ ?_
              ·refine WL.part 79 z (fun aE => ?_) (fun aE => ?_)
               ·refine ug z z (wY (yf fo41_5 z) z (ug z z (wY (yl ty3 z z (j.cell 5 _ z)) z (ug z z (wY (yf fo41_6 z) z (ug z z (wY (yl ty3 z z (j.cell 6 _ z)) z (ug z z (wY (Y.geq_i z z) z ?_)))))))))
                refine ug z z (wY (Y.pick (b := true) z z) z (WL.ren (v' := vB ((!decide (a0.Kind = 3)) && (decide (a0.Time ≤ a0.Start)))) 85 z (congrArg vB (andT aE)) ?_))
                exact nl (At.join () z (.cons z (.cons z (.cons z .nil))))
               ·refine WL.gS z z z z (WL.gS z z z z (WL.gS z z z z (WL.gS z z z z (WL.gS z z z z (ug z z (wY (Y.pick (b := false) z z) z (WL.ren (v' := vB ((!decide (a0.Kind = 3)) && (decide (a0.Time ≤ a0.Start)))) 85 z (congrArg vB (andF aE)) ?_)))))))
                exact nl (At.join () z (.cons z (.cons z (.cons z .nil))))
              ·rintro _ _ rfl
               refine (show WL _ _ _ _ _ [(1, pt c 0), (75, vB false), (85, vB ((!decide (a0.Kind = 3)) && (decide (a0.Time ≤ a0.Start))))] _ from ?_)
               refine wY (Y.pick (b := false) z z) z (WL.ren (v' := vB ((((decide (a0.Start < 0)) || (decide (4503599627370496 < a0.Time))) || ((decide (a0.Kind = 3)) && (!decide (a0.Start = a0.Time)))) || ((!decide (a0.Kind = 3)) && (decide (a0.Time ≤ a0.Start))))) 86 z (congrArg vB (orF aD)) ?_)
               exact nl (At.join () z (.cons z (.cons z .nil)))
            ·rintro _ _ rfl
             refine (show WL _ _ _ _ _ [(1, pt c 0), (86, vB ((((decide (a0.Start < 0)) || (decide (4503599627370496 < a0.Time))) || ((decide (a0.Kind = 3)) && (!decide (a0.Start = a0.Time)))) || ((!decide (a0.Kind = 3)) && (decide (a0.Time ≤ a0.Start)))))] _ from ?_)
             refine nl (th ?_)
             rcases cnd h with ⟨aF, h⟩ | ⟨aF, h⟩
             ·refine WC.condT' z aF (sq (rg (wY (ya z) z (nl (th (rt (At.thenR ?_)))))))
              obtain rfl := some1 h
              have bE : Stp [] (Lg.O0 A) w D m := (tr_ (su_ n z) (su_ o z))
              exact At.res (.inl z) z (.tmp z .nil) ⟨z, (se_ bE z z)⟩
             ·refine WC.condF' z aF (sk (th (sq (sq (rg (wY (yf fo41_2 z) z (wY (yl ty3 z z (j.cell 2 _ z)) z (wY (Y.neq_i z z) z (wY (ym z) z ?_)))))))))
              refine WL.cut 4 (σ := Unit) (fun _ w' => m = w') (fun _ => [(1, pt c 0), (94, vB ((!decide (a0.Kind = 1)) && (!decide (a0.Int_ = 0))))]) ?_ ?_
              ·refine WL.part 90 z (fun aG => ?_) (fun aG => ?_)
               ·refine ug z z (wY (yf fo41_7 z) z (ug z z (wY (yl ty3 z z (j.cell 7 _ z)) z (ug z z (wY (Y.neq_i z z) z (wY (Y.pick (b := true) z z) z (WL.ren (v' := vB ((!decide (a0.Kind = 1)) && (!decide (a0.Int_ = 0)))) 94 z (congrArg vB (andT aG)) ?_)))))))
                exact nl (At.join () z (.cons z (.cons z .nil)))
               ·refine WL.gS z z z z (WL.gS z z z z (WL.gS z z z z (wY (Y.pick (b := false) z z) z (WL.ren (v' := vB ((!decide (a0.Kind = 1)) && (!decide (a0.Int_ = 0)))) 94 z (congrArg vB (andF aG)) ?_))))
                exact nl (At.join () z (.cons z (.cons z .nil)))
              ·rintro _ _ rfl
               refine (show WL _ _ _ _ _ [(1, pt c 0), (94, vB ((!decide (a0.Kind = 1)) && (!decide (a0.Int_ = 0))))] _ from ?_)
               refine wY (ym z) z ?_
               refine WL.cut 9 (σ := Unit) (fun _ w' => m = w') (fun _ => [(1, pt c 0), (104, vB (((!decide (a0.Kind = 1)) && (!decide (a0.Int_ = 0))) || ((!decide (a0.Kind = 5)) && (!decide (a0.Im = 0)))))]) ?_ ?_
               ·refine WL.part 95 z (fun aH => ?_) (fun aH => ?_)
                ·refine WL.gS z z z z (WL.gS z z z z (WL.gS z z z z (WL.gS z z z z (WL.gS z z z z (WL.gS z z z z (WL.gS z z z z (WL.gS z z z z (wY (Y.pick (b := true) z z) z (WL.ren (v' := vB (((!decide (a0.Kind = 1)) && (!decide (a0.Int_ = 0))) || ((!decide (a0.Kind = 5)) && (!decide (a0.Im = 0))))) 104 z (congrArg vB (orT aH)) ?_)))))))))
                 exact nl (At.join () z (.cons z (.cons z .nil)))
                ·refine ug z z (wY (yf fo41_2 z) z (ug z z (wY (yl ty3 z z (j.cell 2 _ z)) z (ug z z (wY (Y.neq_i z z) z (ug z z (wY (ym z) z ?_)))))))
                 refine WL.cut 4 (σ := Unit) (fun _ w' => m = w') (fun _ => [(1, pt c 0), (95, vB false), (103, vB ((!decide (a0.Kind = 5)) && (!decide (a0.Im = 0))))]) ?_ ?_
                 ·refine WL.part 99 z (fun aI => ?_) (fun aI => ?_)
                  ·refine ug z z (wY (yf fo41_9 z) z (ug z z (wY (yl ty34 z z (j.cell 9 _ z)) z (ug z z (wY (Y.neq_u (b := 0) z z) z (ug z z (wY (Y.pick (b := true) z z) z (WL.ren (v' := vB ((!decide (a0.Kind = 5)) && (!decide (a0.Im = 0)))) 103 z (congrArg vB (andT aI)) ?_))))))))
                   exact nl (At.join () z (.cons z (.cons z (.cons z .nil))))
                  ·refine WL.gS z z z z (WL.gS z z z z (WL.gS z z z z (ug z z (wY (Y.pick (b := false) z z) z (WL.ren (v' := vB ((!decide (a0.Kind = 5)) && (!decide (a0.Im = 0)))) 103 z (congrArg vB (andF aI)) ?_)))))
                   exact nl (At.join () z (.cons z (.cons z (.cons z .nil))))
                 ·rintro _ _ rfl
                  refine (show WL _ _ _ _ _ [(1, pt c 0), (95, vB false), (103, vB ((!decide (a0.Kind = 5)) && (!decide (a0.Im = 0))))] _ from ?_)
                  refine wY (Y.pick (b := false) z z) z (WL.ren (v' := vB (((!decide (a0.Kind = 1)) && (!decide (a0.Int_ = 0))) || ((!decide (a0.Kind = 5)) && (!decide (a0.Im = 0))))) 104 z (congrArg vB (orF aH)) ?_)
                  exact nl (At.join () z (.cons z (.cons z .nil)))
               ·rintro _ _ rfl
                refine (show WL _ _ _ _ _ [(1, pt c 0), (104, vB (((!decide (a0.Kind = 1)) && (!decide (a0.Int_ = 0))) || ((!decide (a0.Kind = 5)) && (!decide (a0.Im = 0)))))] _ from ?_)
                refine wY (ym z) z ?_
                obtain ⟨b7, h, bF⟩ := bnd h
                refine WL.cut 10 (σ := (Bool × Own)) (fun x w' => x.1 = b7 ∧ Stp [] D m x.2 w') (fun x => [(1, pt c 0), (115, vB x.1)]) ?_ ?_
                ·rcases cnd h with ⟨aJ, h⟩ | ⟨aJ, h⟩
                 ·refine WL.ren 105 z (congrArg vB aJ) (WL.gS z z z z (WL.gS z z z z (WL.gS z z z z (WL.gS z z z z (WL.gS z z z z (WL.gS z z z z (WL.gS z z z z (WL.gS z z z z (WL.gS z z z z ?_)))))))))
                  refine wY (Y.pick (b := true) z z) z ?_
                  exact nl (At.join (σ := (Bool × Own)) (true, D) ⟨some1 h, (sr_ _ _ _)⟩ (.cons z (.cons z .nil)))
                 ·refine WL.ren 105 z (congrArg vB aJ) (ug z z (wY (yf fo41_2 z) z (ug z z (wY (yl ty3 z z (j.cell 2 _ z)) z (ug z z (wY (Y.neq_i z z) z (ug z z (wY (ym z) z ?_))))))))
                  obtain ⟨b8, h, bG⟩ := bnd h
                  refine WL.cut 5 (σ := (Bool × Own)) (fun x w' => x.1 = b8 ∧ Stp [] D m x.2 w') (fun x => [(1, pt c 0), (105, vB false), (114, vB x.1)]) ?_ ?_
                  ·rcases cnd h with ⟨aK, h⟩ | ⟨aK, h⟩
                   ·refine WL.ren 109 z (congrArg vB aK) (ug z z (wY (yf fo41_10 z) z (ug z z (wY (yL ty39 z z (j.cells 10 (hl a0.Hist (vl aa ab ac) (vl ad ae af)) z) z) z (ug z z ?_)))))
                    have bI := (ai.i n z z).i o z z
                    have bK := (aj.i n z z).i o z z
                    obtain ⟨b9, bL, h⟩ := bnd h
                    refine WL.call (vals := [ag (hl a0.Hist (vl aa ab ac) (vl ad ae af))]) kok36 z z (c_ref12_none (A := fun _ => True) (a0 := a0.Hist) (Sl.all bI) (Sl.all bK) bL) ?_
                    rintro cm cn ⟨rfl, bM⟩
                    obtain ⟨ca, cb, cc, aX⟩ := adoptE D (fun k => 1) bM
                    refine ug z z (wY (Y.not z) z (ug z z (wY (Y.pick (b := true) z z) z ?_)))
                    exact nl (At.join (σ := (Bool × Own)) ((!b9), ca) ⟨some1 h, (su_ aX z)⟩ (.cons z (.cons z (.cons z .nil))))
                   ·refine WL.ren 109 z (congrArg vB aK) (WL.gS z z z z (WL.gS z z z z (WL.gS z z z z (WL.gS z z z z (ug z z (wY (Y.pick (b := false) z z) z ?_))))))
                    exact nl (At.join (σ := (Bool × Own)) (false, D) ⟨some1 h, (sr_ _ _ _)⟩ (.cons z (.cons z (.cons z .nil))))
                  ·rintro ⟨br, cd⟩ co ⟨rfl, aQ⟩
                   replace h := bG
                   try dsimp only at h aQ
                   refine (show WL _ _ _ _ _ [(1, pt c 0), (105, vB false), (114, vB br)] _ from ?_)
                   refine wY (Y.pick (b := false) z z) z ?_
                   exact nl (At.join (σ := (Bool × Own)) (br, cd) ⟨some1 h, (su_ aQ z)⟩ (.cons z (.cons z .nil)))
                ·rintro ⟨ce, ah⟩ C ⟨rfl, p⟩
                 replace h := bF
                 try dsimp only at h p
                 refine (show WL _ _ _ _ _ [(1, pt c 0), (115, vB ce)] _ from ?_)
                 refine nl (th ?_)
                 rcases cnd h with ⟨aL, h⟩ | ⟨aL, h⟩
                 ·refine WC.condT' z aL (sq (rg (wY (ya z) z (nl (th (rt (At.thenR ?_)))))))
                  obtain rfl := some1 h
                  have bO : Stp [] (Lg.O0 A) w ah C := (tr_ (su_ n z) (tr_ (su_ o z) (su_ p z)))
                  exact At.res (.inl z) z (.tmp z .nil) ⟨z, (se_ bO z z)⟩
                 ·refine WC.condF' z aL (sk (th (sq (sq (rg (wY (yf fo41_2 z) z ?_))))))
                  have t := j.st p z
                  refine wY (yl ty3 z z (t.cell 2 _ z)) z (wY (Y.eql_i z z) z (wY (ym z) z ?_))
                  refine WL.cut 4 (σ := Unit) (fun _ w' => C = w') (fun _ => [(1, pt c 0), (123, vB ((decide (a0.Kind = 1)) || (decide (a0.Kind = 4))))]) ?_ ?_
                  ·refine WL.part 119 z (fun aM => ?_) (fun aM => ?_)
                   ·refine WL.gS z z z z (WL.gS z z z z (WL.gS z z z z (wY (Y.pick (b := true) z z) z (WL.ren (v' := vB ((decide (a0.Kind = 1)) || (decide (a0.Kind = 4)))) 123 z (congrArg vB (orT aM)) ?_))))
                    exact nl (At.join () z (.cons z (.cons z .nil)))
                   ·refine ug z z (wY (yf fo41_2 z) z (ug z z (wY (yl ty3 z z (t.cell 2 _ z)) z (ug z z (wY (Y.eql_i z z) z (wY (Y.pick (b := false) z z) z (WL.ren (v' := vB ((decide (a0.Kind = 1)) || (decide (a0.Kind = 4)))) 123 z (congrArg vB (orF aM)) ?_)))))))
                    exact nl (At.join () z (.cons z (.cons z .nil)))
                  ·rintro _ _ rfl
                   refine (show WL _ _ _ _ _ [(1, pt c 0), (123, vB ((decide (a0.Kind = 1)) || (decide (a0.Kind = 4))))] _ from ?_)
                   refine wY (ym z) z ?_
                   refine WL.cut 4 (σ := Unit) (fun _ w' => C = w') (fun _ => [(1, pt c 0), (128, vB (((decide (a0.Kind = 1)) || (decide (a0.Kind = 4))) && (!decide (a0.Re = 0))))]) ?_ ?_
                   ·refine WL.part 124 z (fun aN => ?_) (fun aN => ?_)
                    ·refine ug z z (wY (yf fo41_8 z) z (ug z z (wY (yl ty34 z z (t.cell 8 _ z)) z (ug z z (wY (Y.neq_u (b := 0) z z) z (wY (Y.pick (b := true) z z) z (WL.ren (v' := vB (((decide (a0.Kind = 1)) || (decide (a0.Kind = 4))) && (!decide (a0.Re = 0)))) 128 z (congrArg vB (andT aN)) ?_)))))))
                     exact nl (At.join () z (.cons z (.cons z .nil)))
                    ·refine WL.gS z z z z (WL.gS z z z z (WL.gS z z z z (wY (Y.pick (b := false) z z) z (WL.ren (v' := vB (((decide (a0.Kind = 1)) || (decide (a0.Kind = 4))) && (!decide (a0.Re = 0)))) 128 z (congrArg vB (andF aN)) ?_))))
                     exact nl (At.join () z (.cons z (.cons z .nil)))
                   ·rintro _ _ rfl
                    refine (show WL _ _ _ _ _ [(1, pt c 0), (128, vB (((decide (a0.Kind = 1)) || (decide (a0.Kind = 4))) && (!decide (a0.Re = 0))))] _ from ?_)
                    refine wY (ym z) z ?_
                    refine WL.cut 4 (σ := Unit) (fun _ w' => C = w') (fun _ => [(1, pt c 0), (133, vB ((((decide (a0.Kind = 1)) || (decide (a0.Kind = 4))) && (!decide (a0.Re = 0))) || (decide (a0.Flags < 0))))]) ?_ ?_
                    ·refine WL.part 129 z (fun aO => ?_) (fun aO => ?_)
                     ·refine WL.gS z z z z (WL.gS z z z z (WL.gS z z z z (wY (Y.pick (b := true) z z) z (WL.ren (v' := vB ((((decide (a0.Kind = 1)) || (decide (a0.Kind = 4))) && (!decide (a0.Re = 0))) || (decide (a0.Flags < 0)))) 133 z (congrArg vB (orT aO)) ?_))))
                      exact nl (At.join () z (.cons z (.cons z .nil)))
                     ·refine ug z z (wY (yf fo41_11 z) z (ug z z (wY (yl ty3 z z (t.cell 16 _ z)) z (ug z z (wY (Y.lss_i z z) z (wY (Y.pick (b := false) z z) z (WL.ren (v' := vB ((((decide (a0.Kind = 1)) || (decide (a0.Kind = 4))) && (!decide (a0.Re = 0))) || (decide (a0.Flags < 0)))) 133 z (congrArg vB (orF aO)) ?_)))))))
                      exact nl (At.join () z (.cons z (.cons z .nil)))
                    ·rintro _ _ rfl
                     refine (show WL _ _ _ _ _ [(1, pt c 0), (133, vB ((((decide (a0.Kind = 1)) || (decide (a0.Kind = 4))) && (!decide (a0.Re = 0))) || (decide (a0.Flags < 0))))] _ from ?_)
                     refine wY (ym z) z ?_
                     refine WL.cut 4 (σ := Unit) (fun _ w' => C = w') (fun _ => [(1, pt c 0), (138, vB (((((decide (a0.Kind = 1)) || (decide (a0.Kind = 4))) && (!decide (a0.Re = 0))) || (decide (a0.Flags < 0))) || (decide (31 < a0.Flags))))]) ?_ ?_
                     ·refine WL.part 134 z (fun H => ?_) (fun H => ?_)
                      ·refine WL.gS z z z z (WL.gS z z z z (WL.gS z z z z (wY (Y.pick (b := true) z z) z (WL.ren (v' := vB (((((decide (a0.Kind = 1)) || (decide (a0.Kind = 4))) && (!decide (a0.Re = 0))) || (decide (a0.Flags < 0))) || (decide (31 < a0.Flags)))) 138 z (congrArg vB (orT H)) ?_))))
                       exact nl (At.join () z (.cons z (.cons z .nil)))
                      ·refine ug z z (wY (yf fo41_11 z) z (ug z z (wY (yl ty3 z z (t.cell 16 _ z)) z (ug z z (wY (Y.gtr_i z z) z (wY (Y.pick (b := false) z z) z (WL.ren (v' := vB (((((decide (a0.Kind = 1)) || (decide (a0.Kind = 4))) && (!decide (a0.Re = 0))) || (decide (a0.Flags < 0))) || (decide (31 < a0.Flags)))) 138 z (congrArg vB (orF H)) ?_)))))))
                       exact nl (At.join () z (.cons z (.cons z .nil)))
                     ·rintro _ _ rfl
                      refine (show WL _ _ _ _ _ [(1, pt c 0), (138, vB (((((decide (a0.Kind = 1)) || (decide (a0.Kind = 4))) && (!decide (a0.Re = 0))) || (decide (a0.Flags < 0))) || (decide (31 < a0.Flags))))] _ from ?_)
                      refine nl (th ?_)
                      rcases cnd h with ⟨I, h⟩ | ⟨I, h⟩
                      ·refine WC.condT' z I (sq (rg (wY (ya z) z (nl (th (rt (At.thenR ?_)))))))
                       obtain rfl := some1 h
                       have aY : Stp [] (Lg.O0 A) w ah C := (tr_ (su_ n z) (tr_ (su_ o z) (su_ p z)))
                       exact At.res (.inl z) z (.tmp z .nil) ⟨z, (se_ aY z z)⟩
                      ·refine WC.condF' z I (sk (th (sq (sq (rg (wY (yf fo41_4 z) z (wY (yl ty4 z z (t.cell 4 _ z)) z (wY (ym z) z ?_))))))))
                       refine WL.cut 4 (σ := Unit) (fun _ w' => C = w') (fun _ => [(1, pt c 0), (145, vB (a0.Mono && (decide (a0.Kind = 2))))]) ?_ ?_
                       ·refine WL.part 141 z (fun J => ?_) (fun J => ?_)
                        ·refine ug z z (wY (yf fo41_2 z) z (ug z z (wY (yl ty3 z z (t.cell 2 _ z)) z (ug z z (wY (Y.eql_i z z) z (wY (Y.pick (b := true) z z) z (WL.ren (v' := vB (a0.Mono && (decide (a0.Kind = 2)))) 145 z (congrArg vB (andT J)) ?_)))))))
                         exact nl (At.join () z (.cons z (.cons z .nil)))
                        ·refine WL.gS z z z z (WL.gS z z z z (WL.gS z z z z (wY (Y.pick (b := false) z z) z (WL.ren (v' := vB (a0.Mono && (decide (a0.Kind = 2)))) 145 z (congrArg vB (andF J)) ?_))))
                         exact nl (At.join () z (.cons z (.cons z .nil)))
                       ·rintro _ _ rfl
                        refine (show WL _ _ _ _ _ [(1, pt c 0), (145, vB (a0.Mono && (decide (a0.Kind = 2))))] _ from ?_)
                        refine wY (ym z) z ?_
                        obtain ⟨bP, h, aZ⟩ := bnd h
                        refine WL.cut 5 (σ := (Bool × Own)) (fun x w' => x.1 = bP ∧ Stp [] ah C x.2 w') (fun x => [(1, pt c 0), (151, vB x.1)]) ?_ ?_
                        ·rcases cnd h with ⟨K, h⟩ | ⟨K, h⟩
                         ·refine WL.ren 146 z (congrArg vB K) (ug z z (wY (yf fo41_8 z) z (ug z z (wY (yl ty34 z z (t.cell 8 _ z)) z (ug z z ?_)))))
                          obtain ⟨bQ, a1, h⟩ := bnd h
                          refine WL.call (vals := [vu a0.Re]) kok37 z z (c_ref05_Finite a1) ?_
                          rintro cf cg ⟨rfl, a2⟩
                          obtain ⟨bR, bY, bZ, aT⟩ := adoptE ah (fun k => 1) a2
                          refine ug z z (wY (Y.not z) z (wY (Y.pick (b := true) z z) z ?_))
                          exact nl (At.join (σ := (Bool × Own)) ((!bQ), bR) ⟨some1 h, (su_ aT z)⟩ (.cons z (.cons z .nil)))
                         ·refine WL.ren 146 z (congrArg vB K) (WL.gS z z z z (WL.gS z z z z (WL.gS z z z z (WL.gS z z z z (wY (Y.pick (b := false) z z) z ?_)))))
                          exact nl (At.join (σ := (Bool × Own)) (false, ah) ⟨some1 h, (sr_ _ _ _)⟩ (.cons z (.cons z .nil)))
                        ·rintro ⟨bS, L⟩ M ⟨rfl, q⟩
                         replace h := aZ
                         try dsimp only at h q
                         refine (show WL _ _ _ _ _ [(1, pt c 0), (151, vB bS)] _ from ?_)
                         refine nl (th ?_)
                         rcases cnd h with ⟨P, h⟩ | ⟨P, h⟩
                         ·refine WC.condT' z P (sq (rg (wY (ya z) z (nl (th (rt (At.thenR ?_)))))))
                          obtain rfl := some1 h
                          have a3 : Stp [] (Lg.O0 A) w L M := (tr_ (su_ n z) (tr_ (su_ o z) (tr_ (su_ p z) (su_ q z))))
                          exact At.res (.inl z) z (.tmp z .nil) ⟨z, (se_ a3 z z)⟩
                         ·refine WC.condF' z P (sk (th (sq (sq (rg (wY (yf fo41_4 z) z ?_))))))
                          have E := t.st q z
                          refine wY (yl ty4 z z (E.cell 4 _ z)) z (wY (ym z) z ?_)
                          refine WL.cut 4 (σ := Unit) (fun _ w' => M = w') (fun _ => [(1, pt c 0), (158, vB (a0.Mono && (decide (a0.Kind = 2))))]) ?_ ?_
                          ·refine WL.part 154 z (fun Q => ?_) (fun Q => ?_)
                           ·refine ug z z (wY (yf fo41_2 z) z (ug z z (wY (yl ty3 z z (E.cell 2 _ z)) z (ug z z (wY (Y.eql_i z z) z (wY (Y.pick (b := true) z z) z (WL.ren (v' := vB (a0.Mono && (decide (a0.Kind = 2)))) 158 z (congrArg vB (andT Q)) ?_)))))))
                            exact nl (At.join () z (.cons z (.cons z .nil)))
                           ·refine WL.gS z z z z (WL.gS z z z z (WL.gS z z z z (wY (Y.pick (b := false) z z) z (WL.ren (v' := vB (a0.Mono && (decide (a0.Kind = 2)))) 158 z (congrArg vB (andF Q)) ?_))))
                            exact nl (At.join () z (.cons z (.cons z .nil)))
                          ·rintro _ _ rfl
                           refine (show WL _ _ _ _ _ [(1, pt c 0), (158, vB (a0.Mono && (decide (a0.Kind = 2))))] _ from ?_)
                           refine wY (ym z) z ?_
                           obtain ⟨bT, h, a4⟩ := bnd h
                           refine WL.cut 4 (σ := (Bool × Own)) (fun x w' => x.1 = bT ∧ Stp [] L M x.2 w') (fun x => [(1, pt c 0), (163, vB x.1)]) ?_ ?_
                           ·rcases cnd h with ⟨S, h⟩ | ⟨S, h⟩
                            ·refine WL.ren 159 z (congrArg vB S) (ug z z (wY (yf fo41_8 z) z (ug z z (wY (yl ty34 z z (E.cell 8 _ z)) z (ug z z ?_)))))
                             obtain ⟨bU, a5, h⟩ := bnd h
                             refine WL.call (vals := [vu a0.Re, vu 0]) kok38 z z (c_ref05_Less a5) ?_
                             rintro ch ci ⟨rfl, a6⟩
                             obtain ⟨bW, b0, b1, aU⟩ := adoptE L (fun k => 1) a6
                             refine wY (Y.pick (b := true) z z) z ?_
                             exact nl (At.join (σ := (Bool × Own)) (bU, bW) ⟨some1 h, (su_ aU z)⟩ (.cons z (.cons z .nil)))
                            ·refine WL.ren 159 z (congrArg vB S) (WL.gS z z z z (WL.gS z z z z (WL.gS z z z z (wY (Y.pick (b := false) z z) z ?_))))
                             exact nl (At.join (σ := (Bool × Own)) (false, L) ⟨some1 h, (sr_ _ _ _)⟩ (.cons z (.cons z .nil)))
                           ·rintro ⟨G, aP⟩ F ⟨rfl, r⟩
                            replace h := a4
                            try dsimp only at h r
                            refine (show WL _ _ _ _ _ [(1, pt c 0), (163, vB G)] _ from ?_)
                            refine wY (ym z) z ?_
                            refine WL.cut 13 (σ := Unit) (fun _ w' => F = w') (fun _ => [(1, pt c 0), (177, vB (G || ((a0.Mono && (decide (a0.Kind = 1))) && (decide (a0.Int_ < 0)))))]) ?_ ?_
                            ·refine WL.part 164 z (fun T => ?_) (fun T => ?_)
                             ·refine WL.gS z z z z (WL.gS z z z z (WL.gS z z z z (WL.gS z z z z (WL.gS z z z z (WL.gS z z z z (WL.gS z z z z (WL.gS z z z z (WL.gS z z z z (WL.gS z z z z ?_)))))))))
                              refine WL.gS z z z z (WL.gS z z z z (wY (Y.pick (b := true) z z) z (WL.ren (v' := vB (G || ((a0.Mono && (decide (a0.Kind = 1))) && (decide (a0.Int_ < 0))))) 177 z (congrArg vB (orT T)) ?_)))
                              exact nl (At.join () z (.cons z (.cons z .nil)))
                             ·refine ug z z (wY (yf fo41_4 z) z (ug z z ?_))
                              have U := E.st r z
                              refine wY (yl ty4 z z (U.cell 4 _ z)) z (ug z z (wY (ym z) z ?_))
                              refine WL.cut 4 (σ := Unit) (fun _ w' => F = w') (fun _ => [(1, pt c 0), (164, vB false), (171, vB (a0.Mono && (decide (a0.Kind = 1))))]) ?_ ?_
                              ·refine WL.part 167 z (fun V => ?_) (fun V => ?_)
                               ·refine ug z z (wY (yf fo41_2 z) z (ug z z (wY (yl ty3 z z (U.cell 2 _ z)) z (ug z z (wY (Y.eql_i z z) z (ug z z (wY (Y.pick (b := true) z z) z (WL.ren (v' := vB (a0.Mono && (decide (a0.Kind = 1)))) 171 z (congrArg vB (andT V)) ?_))))))))
                                exact nl (At.join () z (.cons z (.cons z (.cons z .nil))))
                               ·refine WL.gS z z z z (WL.gS z z z z (WL.gS z z z z (ug z z (wY (Y.pick (b := false) z z) z (WL.ren (v' := vB (a0.Mono && (decide (a0.Kind = 1)))) 171 z (congrArg vB (andF V)) ?_)))))
                                exact nl (At.join () z (.cons z (.cons z (.cons z .nil))))
                              ·rintro _ _ rfl
                               refine (show WL _ _ _ _ _ [(1, pt c 0), (164, vB false), (171, vB (a0.Mono && (decide (a0.Kind = 1))))] _ from ?_)
                               refine ug z z (wY (ym z) z ?_)
                               refine WL.cut 4 (σ := Unit) (fun _ w' => F = w') (fun _ => [(1, pt c 0), (164, vB false), (176, vB ((a0.Mono && (decide (a0.Kind = 1))) && (decide (a0.Int_ < 0))))]) ?_ ?_
                               ·refine WL.part 172 z (fun W => ?_) (fun W => ?_)
                                ·refine ug z z (wY (yf fo41_7 z) z (ug z z (wY (yl ty3 z z (U.cell 7 _ z)) z (ug z z (wY (Y.lss_i z z) z (ug z z (wY (Y.pick (b := true) z z) z (WL.ren (v' := vB ((a0.Mono && (decide (a0.Kind = 1))) && (decide (a0.Int_ < 0)))) 176 z (congrArg vB (andT W)) ?_))))))))
                                 exact nl (At.join () z (.cons z (.cons z (.cons z .nil))))
                                ·refine WL.gS z z z z (WL.gS z z z z (WL.gS z z z z (ug z z (wY (Y.pick (b := false) z z) z (WL.ren (v' := vB ((a0.Mono && (decide (a0.Kind = 1))) && (decide (a0.Int_ < 0)))) 176 z (congrArg vB (andF W)) ?_)))))
                                 exact nl (At.join () z (.cons z (.cons z (.cons z .nil))))
                               ·rintro _ _ rfl
                                refine (show WL _ _ _ _ _ [(1, pt c 0), (164, vB false), (176, vB ((a0.Mono && (decide (a0.Kind = 1))) && (decide (a0.Int_ < 0))))] _ from ?_)
                                refine wY (Y.pick (b := false) z z) z (WL.ren (v' := vB (G || ((a0.Mono && (decide (a0.Kind = 1))) && (decide (a0.Int_ < 0))))) 177 z (congrArg vB (orF T)) ?_)
                                exact nl (At.join () z (.cons z (.cons z .nil)))
                            ·rintro _ _ rfl
                             refine (show WL _ _ _ _ _ [(1, pt c 0), (177, vB (G || ((a0.Mono && (decide (a0.Kind = 1))) && (decide (a0.Int_ < 0)))))] _ from ?_)
                             refine nl (th ?_)
                             rcases cnd h with ⟨X, h⟩ | ⟨X, h⟩
                             ·refine WC.condT' z X (sq (rg (wY (ya z) z (nl (th (rt (At.thenR ?_)))))))
                              obtain rfl := some1 h
                              have a7 : Stp [] (Lg.O0 A) w aP F := (tr_ (su_ n z) (tr_ (su_ o z) (tr_ (su_ p z) (tr_ (su_ q z) (su_ r z)))))
                              exact At.res (.inl z) z (.tmp z .nil) ⟨z, (se_ a7 z z)⟩
                             ·refine WC.condF' z X (sk (th (sq (sq (rg (wY (yf fo41_2 z) z ?_))))))
                              have aR := E.st r z
                              refine wY (yl ty3 z z (aR.cell 2 _ z)) z (wY (Y.eql_i z z) z (nl (th ?_)))
                              rcases cnd h with ⟨Z, h⟩ | ⟨Z, h⟩
                              ·refine WC.condT' z Z (sq (rg (wY (yf fo41_10 z) z (wY (yL ty39 z z (aR.cells 10 (hl a0.Hist (vl aa ab ac) (vl ad ae af)) z) z) z ?_))))
                               have bc := ((((ai.i n z z).i o z z).i p z z).i q z z).i r z z
                               have bi := ((((aj.i n z z).i o z z).i p z z).i q z z).i r z z
                               obtain ⟨cq, bj, h⟩ := bnd h
                               refine WL.call (vals := [ag (hl a0.Hist (vl aa ab ac) (vl ad ae af))]) kok39 z z (c_ref08_Check (A := fun _ => True) (a0 := a0.Hist) (Sl.all bc) (Sl.all bi) bj) ?_
                               rintro cj bk ⟨rfl, bl⟩
                               obtain ⟨bX, b2, b3, aW⟩ := adoptE aP (fun k => 1) bl
                               refine wY (ya z) z (nl (th (rt (At.thenR ?_))))
                               obtain rfl := some1 h
                               have bm : Stp [] (Lg.O0 A) w bX bk := (tr_ (su_ n z) (tr_ (su_ o z) (tr_ (su_ p z) (tr_ (su_ q z) (tr_ (su_ r z) (su_ aW z))))))
                               exact At.res (.inl z) z (.tmp z .nil) ⟨z, (se_ bm z z)⟩
                              ·refine WC.condF' z Z (sk (th (sq (rg (wY (ya z) z (nl (th (rt ?_))))))))
                               obtain rfl := some1 h
                               have bn : Stp [] (Lg.O0 A) w aP F := (tr_ (su_ n z) (tr_ (su_ o z) (tr_ (su_ p z) (tr_ (su_ q z) (su_ r z)))))
                               exact At.res (.inl z) z (.tmp z .nil) ⟨z, (se_ bn z z)⟩
theorem c_law33_RelabelNone {A : Nat → Prop} {a0 : List api_Rule} {v0 : Value} {v1_1 : Value} {v1_13 : Value} {v1_15 : Value} {a1 : api_Point} {w : World} (hs0 : Sl rep_api_Rule w A v0 a0) (hs1_1 : Sl rep_api_Pair w A v1_1 a1.Attrs) (hs1_13 : Sl Rep.u w A v1_13 a1.Hist.Pos.Counts) (hs1_15 : Sl Rep.u w A v1_15 a1.Hist.Neg.Counts) (hG0 : CellsAt w 0 0 [vi 0, vi 0]) (hGA0 : A 0) {r0 : Bool} (h : law33_RelabelNone a0 a1 = some r0) : Rets Tryd.prog 6 [v0, ag (cp a1 v1_1 v1_13 v1_15)] w (fun v w' => v = vB r0 ∧ Ext w w') := by
 unfold law33_RelabelNone at h
 refine Rets.enter Tryd.func6 z z ?_
 have hX : Sl rep_api_Rule w (imm (Lg.O0 A)) v0 a0 := (Sl.start hs0)
 have bH : Sl rep_api_Pair w (imm (Lg.O0 A)) v1_1 a1.Attrs := (Sl.start hs1_1)
 have bI : Sl Rep.u w (imm (Lg.O0 A)) v1_13 a1.Hist.Pos.Counts := (Sl.start hs1_13)
 have bJ : Sl Rep.u w (imm (Lg.O0 A)) v1_15 a1.Hist.Neg.Counts := (Sl.start hs1_15)
 have hY : CAt [0, 1] (Lg.O0 A) w 0 0 [vi 0, vi 0] := CAt.glob hG0 (if_pos hGA0)
 refine (show WC _ _ _ _ [(0, v0), (1, ag (cp a1 v1_1 v1_13 v1_15))] _ from ?_)
 refine sq (rg ?_)
 have hZ := h
 obtain ⟨L, M, P, rfl⟩ := bH.shape
 have h := hZ
 have h0 := h
 obtain ⟨Q, S, T, rfl⟩ := bI.shape
 have h := h0
 have h1 := h
 obtain ⟨U, V, W, rfl⟩ := bJ.shape
 have h := h1
 refine WL.box (O := (Lg.O0 A)) 11 (cp a1 (vl L M P) (vl Q S T) (vl U V W)) z z z ?_
 intro H jK kv G cv
 refine wY (ya z) z (nl (th (sq (sq (rg ?_)))))
 have cw := hY.st G z
 obtain ⟨kV, h2, h⟩ := bnd h
 refine WL.call (vals := []) kok7 z z (c_law33_awake (A := fun _ => True) cw.at_ trivial h2) ?_
 rintro kw h3 ⟨rfl, h4⟩
 obtain ⟨hU, jL, jM, C⟩ := adoptE jK (fun k => 1) h4
 refine wY (Y.not z) z (nl (th ?_))
 rcases cnd h with ⟨bK, h⟩ | ⟨bK, h⟩
 ·refine WC.condT' z bK (sq (rg (wY (ya z) z (nl (th (rt (At.thenR ?_)))))))
  obtain rfl := some1 h
  have h5 : Stp [] (Lg.O0 A) w hU h3 := (tr_ (su_ G z) (su_ C z))
  exact At.res (.inl z) z (.tmp z .nil) ⟨z, (se_ h5 z z)⟩
 ·refine WC.condF' z bK (sk (th (sq (sq (rg (wY (ym z) z ?_))))))
  have cx := (hX.i G z z).i C z z
  obtain ⟨kW, h7, h⟩ := bnd h
  refine WL.call (vals := [v0]) kok8 z z (c_ref33_Few (A := fun _ => True) (Sl.all cx) h7) ?_
  rintro kz h8 ⟨rfl, h9⟩
  obtain ⟨cy, jN, jO, E⟩ := adoptE hU (fun k => 1) h9
  refine wY (Y.not z) z (wY (ym z) z ?_)
  obtain ⟨jP, h, ia⟩ := bnd h
  refine WL.cut 4 (σ := (Bool × Own)) (fun x w' => x.1 = jP ∧ Stp [] cy h8 x.2 w') (fun x => [(0, v0), (3, pt H 0), (29, vB x.1)]) ?_ ?_
  ·rcases cnd h with ⟨bL, h⟩ | ⟨bL, h⟩
   ·refine WL.ren 25 z (congrArg vB bL) (WL.gS z z z z (WL.gS z z z z (WL.gS z z z z (wY (Y.pick (b := true) z z) z ?_))))
    exact nl (At.join (σ := (Bool × Own)) (true, cy) ⟨some1 h, (sr_ _ _ _)⟩ (.cons z (.cons z (.cons z .nil))))
   ·refine WL.ren 25 z (congrArg vB bL) (ug z z ?_)
    have ic := (cv.st C z).st E z
    refine wY (yL ty41 z z (ic.cells 0 (cp a1 (vl L M P) (vl Q S T) (vl U V W)) z) z) z (ug z z ?_)
    have ih := ((bH.i G z z).i C z z).i E z z
    have ik := ((bI.i G z z).i C z z).i E z z
    have io := ((bJ.i G z z).i C z z).i E z z
    obtain ⟨jQ, ip, h⟩ := bnd h
    refine WL.call (vals := [ag (cp a1 (vl L M P) (vl Q S T) (vl U V W))]) kok13 z z (c_ref12_Light (A := fun _ => True) (a0 := a1) (Sl.all ih) (Sl.all ik) (Sl.all io) ip) ?_
    rintro kA kB ⟨rfl, iq⟩
    obtain ⟨jR, jS, jT, de⟩ := adoptE cy (fun k => 1) iq
    refine ug z z (wY (Y.not z) z (wY (Y.pick (b := false) z z) z ?_))
    exact nl (At.join (σ := (Bool × Own)) ((!jQ), jR) ⟨some1 h, (su_ de z)⟩ (.cons z (.cons z (.cons z .nil))))
  ·rintro ⟨jU, hV⟩ ir ⟨rfl, I⟩
   replace h := ia
   try dsimp only at h I
   refine (show WL _ _ _ _ _ [(0, v0), (3, pt H 0), (29, vB jU)] _ from ?_)
   refine nl (th ?_)
   rcases cnd h with ⟨bM, h⟩ | ⟨bM, h⟩
   ·refine WC.condT' z bM (sq (rg (wY (ya z) z (nl (th (rt (At.thenR ?_)))))))
    obtain rfl := some1 h
    have it : Stp [] (Lg.O0 A) w hV ir := (tr_ (su_ G z) (tr_ (su_ C z) (tr_ (su_ E z) (su_ I z))))
    exact At.res (.inl z) z (.tmp z .nil) ⟨z, (se_ it z z)⟩
   ·refine WC.condF' z bM (sk (th (sq (rg ?_))))
    have cz := ((cw.st C z).st E z).st I z
    obtain ⟨⟨kX, kY, kZ⟩, iw, h⟩ := bnd h
    refine WL.call (vals := [sn]) kok11 z z (c_relabel_Compile (A := fun _ => True) (Or.inl ⟨z, z⟩) cz.at_ trivial iw) ?_
    rintro kC bO ⟨X, rfl, iy, hW⟩
    obtain ⟨b3, jV, bC, J⟩ := adoptE hV (labP X 12) iy
    refine wY (ym z) z (wY (yx z z) z (wY (yx z z) z (wY (yx z z) z (wY (ya z) z (wY (ya z) z (wY (ya z) z (nl (th (sq ?_)))))))))
    refine sq (rg (wY (ym z) z (wY (Y.eql_opt ty29.u z z hW (fun d hd => by obtain ⟨_, _, e, _⟩ := hd; exact ⟨_, e⟩)) z (nl (th ?_)))))
    rcases cnd h with ⟨aR, h⟩ | ⟨aR, h⟩
    ·refine WC.condT' z aR (sq (rg (wY (ya z) z (nl (th (rt (At.thenR ?_)))))))
     obtain rfl := some1 h
     have df : Stp [] (Lg.O0 A) w b3 bO := (tr_ (su_ G z) (tr_ (su_ C z) (tr_ (su_ E z) (tr_ (su_ I z) (su_ J z)))))
     exact At.res (.inl z) z (.tmp z .nil) ⟨z, (se_ df z z)⟩
    ·refine WC.condF' z aR (sk (th (sq (rg ?_))))
     have aS := (((cv.st C z).st E z).st I z).st J z
     refine wY (yL ty41 z z (aS.cells 0 (cp a1 (vl L M P) (vl Q S T) (vl U V W)) z) z) z ?_
     have aT := ((((bH.i G z z).i C z z).i E z z).i I z z).i J z z
     have aU := ((((bI.i G z z).i C z z).i E z z).i I z z).i J z z
     have aW := ((((bJ.i G z z).i C z z).i E z z).i I z z).i J z z
     obtain ⟨ad, dy, h⟩ := bnd h
     refine WL.call (vals := [ag (cp a1 (vl L M P) (vl Q S T) (vl U V W))]) kok21 z z (c_point_Clone (A := fun _ => True) (a0 := a1) (Sl.all aT) (Sl.all aU) (Sl.all aW) dy) ?_
     rintro jZ aX ⟨aY, bP, cA, rfl, dz, iz, iA, iB, iC, iD, iE⟩
     obtain ⟨aZ, jv, au, q⟩ := adoptE b3 (fun k => if ob aY = some k then 13 else if ob bP = some k then 14 else if ob cA = some k then 15 else 1) dz
     have dA : OwnSl 13 rep_api_Pair 59 aZ aX aY ad.Attrs := RowF.adopt 13 flat_api_Pair iz au (fun k hk => if_pos hk)
     have dB : OwnSl 14 Rep.u 34 aZ aX bP ad.Hist.Pos.Counts := RowF.adopt 14 Flat.u iA au (fun k hk => (if_neg (fun (e : ob aY = some k) => iC k e hk)).trans (if_pos hk))
     have dC : OwnSl 15 Rep.u 34 aZ aX cA ad.Hist.Neg.Counts := RowF.adopt 15 Flat.u iB au (fun k hk => (if_neg (fun (e : ob aY = some k) => iD k e hk)).trans ((if_neg (fun (e : ob bP = some k) => iE k e hk)).trans (if_pos hk)))
     refine WL.alloc (O := aZ) 16 [vs [], sn, vi 0, vi 0, vB false, vi 0, vi 0, vi 0, vu 0, vu 0, vi 0, vu 0, vi 0, sn, vi 0, sn, vi 0] ty41 z z ?_
     intro K cC j0 j dD
     have b4 := dA.st j z z z
     have dE := h
     obtain ⟨aD, aE, aF, rfl⟩ := b4.shape
     have h := dE
     have b5 := dB.st j z z z
     have dF := h
     obtain ⟨a2, a3, a4, rfl⟩ := b5.shape
     have h := dF
     have b6 := dC.st j z z z
     have dG := h
     obtain ⟨a5, a6, a7, rfl⟩ := b6.shape
     have h := dG
     refine WL.store (v := ag (cp ad (vl aD aE aF) (vl a2 a3 a4) (vl a5 a6 a7))) (cells' := (cp ad (vl aD aE aF) (vl a2 a3 a4) (vl a5 a6 a7))) ty41 z z dD z (le_ z) z z ?_
     intro dH m dI
     refine nl (th (sq ?_))
     obtain ⟨iF, h, dJ⟩ := bnd h
     refine WC.join (σ := Own) (fun x w' => () = iF ∧ Stp [18, 19, 21, 1001, 1002, 1004] cC dH x w') (fun x => [(3, pt H 0), (5, X), (8, pt K 0)]) ?_ ?_
     ·refine sq (rg (wY (ym z) z ?_))
      have dP := (((((cx.i E z z).i I z z).i J z z).i q z z).i j z z).i m z z
      have dT := (((cz.st J z).st q z).st j z).st m z
      obtain ⟨⟨kD, kE, kF⟩, dU, h⟩ := bnd h
      refine WL.call (vals := [v0]) kok11 z z (c_relabel_Compile (A := fun _ => True) (Sl.all dP) dT.at_ trivial dU) ?_
      rintro j1 b7 ⟨iG, rfl, dV, cD⟩
      obtain ⟨a8, jw, aQ, aa⟩ := adoptE cC (labP iG 17) dV
      refine wY (ym z) z (wY (yx z z) z (wY (yx z z) z (wY (yx z z) z (wY (ya z) z (wY (ya z) z (wY (ya z) z (nl (th (sq ?_)))))))))
      refine rg (wY (ym z) z (wY (Y.neq_opt ty29.u z z cD (fun d hd => by obtain ⟨_, _, e, _⟩ := hd; exact ⟨_, e⟩)) z (nl (th ?_))))
      rcases cnd h with ⟨a9, h⟩ | ⟨a9, h⟩
      ·refine WC.condT' z a9 (sq (rg (wY (ym z) z ?_)))
       have dZ := (((aS.st q z).st j z).st m z).st aa z
       refine wY (yL ty41 z z (dZ.cells 0 (cp a1 (vl L M P) (vl Q S T) (vl U V W)) z) z) z ?_
       obtain ⟨cE, d0, h⟩ := bnd h
       obtain ⟨bQ, cF, rfl, d1, iH⟩ := OptP.some cD d0
       have d2 : Sl rep_relabel_rule b7 (frs a8) cF cE.l := Sl.adoptF iH (fun k hk => ⟨hk.1, labP_ne hk.2⟩) aQ
       have d3 : Blk 17 a8 b7 bQ 71 [cF] := Blk.new d1 aQ (labP_at bQ 17)
       have d7 := (((aT.i q z z).i j z z).i m z z).i aa z z
       have eb := (((aU.i q z z).i j z z).i m z z).i aa z z
       have ef := (((aW.i q z z).i j z z).i m z z).i aa z z
       obtain ⟨⟨ai, kG, kH⟩, eg, h⟩ := bnd h
       refine WL.call (vals := [pt bQ 0, ag (cp a1 (vl L M P) (vl Q S T) (vl U V W))]) kok14 z z (c_relabel_Rules_Apply (A := fun _ => True) (a0 := cE) (a1 := a1) (Sl.all d2) d3.blk trivial (Sl.all d7) (Sl.all eb) (Sl.all ef) eg) ?_
       rintro j2 ba ⟨bb, bR, cG, rfl, eh, iI, iJ, iK, iL, iM, iN⟩
       obtain ⟨bc, jx, av, cH⟩ := adoptE a8 (fun k => if ob bb = some k then 18 else if ob bR = some k then 19 else if ob cG = some k then 20 else 1) eh
       have ei : OwnSl 18 rep_api_Pair 59 bc ba bb ai.Attrs := RowF.adopt 18 flat_api_Pair iI av (fun k hk => if_pos hk)
       have ej : OwnSl 19 Rep.u 34 bc ba bR ai.Hist.Pos.Counts := RowF.adopt 19 Flat.u iJ av (fun k hk => (if_neg (fun (e : ob bb = some k) => iL k e hk)).trans (if_pos hk))
       have ek : OwnSl 20 Rep.u 34 bc ba cG ai.Hist.Neg.Counts := RowF.adopt 20 Flat.u iK av (fun k hk => (if_neg (fun (e : ob bb = some k) => iM k e hk)).trans ((if_neg (fun (e : ob bR = some k) => iN k e hk)).trans (if_pos hk)))
       refine wY (ym z) z (wY (yx z z) z (wY (yx z z) z (wY (yx z z) z (WL.alloc (O := bc) 21 [vs [], sn, vi 0, vi 0, vB false, vi 0, vi 0, vi 0, vu 0, vu 0, vi 0, vu 0, vi 0, sn, vi 0, sn, vi 0] ty41 z z ?_))))
       intro ae bS j3 ak em
       have b8 := ei.st ak z z z
       have en := h
       obtain ⟨aG, aH, aI, rfl⟩ := b8.shape
       have h := en
       have b9 := ej.st ak z z z
       have eo := h
       obtain ⟨bT, bU, bW, rfl⟩ := b9.shape
       have h := eo
       have ep := ek.st ak z z z
       have er := h
       obtain ⟨cI, cJ, cK, rfl⟩ := ep.shape
       have h := er
       refine WL.store (v := ag (cp ai (vl aG aH aI) (vl bT bU bW) (vl cI cJ cK))) (cells' := (cp ai (vl aG aH aI) (vl bT bU bW) (vl cI cJ cK))) ty41 z z em z (le_ z) z z ?_
       intro bd aJ ca
       refine wY (ya z) z (wY (ya z) z (nl (th (sq (sq (rg (wY (ya z) z (nl (th ?_)))))))))
       obtain ⟨iO, h, es⟩ := bnd h
       refine WC.join (σ := (List api_Pair × Own)) (fun x w' => x.1 = iO ∧ Stp [18, 1001, 1002] bS bd x.2 w' ∧ OwnSl 1003 rep_api_Pair 59 x.2 w' (vl aG aH aI) x.1) (fun x => [(3, pt H 0), (5, X), (8, pt K 0), (12, pt ae 0)]) ?_ ?_
       ·refine WC.block ?_
        obtain ⟨cL, h, et⟩ := flow1 h
        obtain ⟨cM, h⟩ := loop_some h
        refine WC.joinB 0 (σ := (List api_Pair × Own)) (fun x w' => cL = .go x.1 ∧ Stp [18, 1001] bS bd x.2 w' ∧ OwnSl 1002 rep_api_Pair 59 x.2 w' (vl aG aH aI) x.1) (fun x => [(3, pt H 0), (5, X), (8, pt K 0), (12, pt ae 0)]) ?_ ?_
        ·have eu := b8.st aJ z z z
         obtain ⟨iP, cN, ew⟩ := OwnSl.rlb 1001 rfl eu
         refine WC.loop (σ := (List api_Pair × Int × Own)) (fun x k w' => loopN k (law33_RelabelNone_lp1) (x.1, x.2.1) = some cL ∧ Stp [18, 1001] bS bd x.2.2 w' ∧ OwnSl 1001 rep_api_Pair 59 x.2.2 w' (vl aG aH aI) x.1) (fun x => [(3, pt H 0), (5, X), (8, pt K 0), (12, pt ae 0), (15, vi x.2.1)]) (ai.Attrs, 0, iP) cM (.cons z (.cons z (.cons z (.cons z (.cons z .nil))))) ⟨h, (su_ cN z), ew⟩ ?_
         rintro ⟨iQ, iR, iS⟩ cM j4 ⟨h, al, ah⟩
         obtain ⟨iT, kI, rfl, h, cb⟩ := rnd1 h
         unfold law33_RelabelNone_lp1 at h
         try dsimp only at h al ah
         refine (show WC _ _ _ _ [(3, pt H 0), (5, X), (8, pt K 0), (12, pt ae 0), (15, vi iR)] _ from ?_)
         refine sq (sq (rg (wY (ym z) z (wY (yf fo41_1 z) z ?_))))
         have cc := ca.st al z
         refine wY (yl ty33 z z (cc.cell 1 _ z)) z (wY (Y.len ty33 z ah.src.sl) z (wY (Y.lss_i z z) z (nl (th ?_))))
         rcases cnd h with ⟨bf, h⟩ | ⟨bf, h⟩
         ·refine WC.condT' z bf (sk (th (sq (WC.block (rg (wY (yf fo41_1 z) z (wY (yl ty33 z z (cc.cell 1 _ z)) z (wY (ym z) z ?_))))))))
          obtain ⟨aj, ex, h⟩ := bnd h
          obtain ⟨kJ, jW, j5, bg, ey, ez, bh, cO⟩ := OwnSl.at ah ex
          obtain ⟨_, _, rfl, rfl, rfl⟩ := cO
          replace bh : CellsAt _ _ _ [vs aj.Key, vs aj.Val] := bh
          have cP := CAt.own ah bg bh
          refine wY (Y.indexAddr ty33 ty59 z bg z ey ez) z (wY (yf fo59_0 z) z ?_)
          obtain ⟨eA, cQ, h⟩ := bnd h
          refine WL.storePart (R := rep_api_Pair) (u := (api_Pair.mk [33] aj.Val)) (cells := [vs aj.Key, vs aj.Val]) (cells' := [vs [33], vs aj.Val]) (sub := 0) (by decide) ty9 z z cP.at_ z z (le_ z) z ⟨[vs [33]], [vs aj.Val], z, z, z⟩ ah bg cQ ?_
          intro j6 cR eB
          refine nl (At.inBlock (th (rg (wY (ym z) z (wY (Y.add_i z z) z ?_)))))
          obtain ⟨iU, eC, h⟩ := lt1 h
          refine WL.yE (ya z) (congrArg vi eC.symm) z (nl ?_)
          exact At.round (eA, iU, iS) iT (Nat.lt_succ_self _) ⟨next1 h cb, (tr_ (su_ al z) (su_ cR z)), eB⟩ (.cons z (.cons z (.cons z (.cons z (.cons z .nil)))))
         ·refine WC.condF' z bf (WC.exit (At.thenX (At.loopX ?_)))
          obtain ⟨iV, cS, eD⟩ := OwnSl.rlb 1002 rfl ah
          exact At.hitB (σ := (List api_Pair × Own)) (iQ, iV) ⟨brk1 h cb, (tr_ (su_ al z) (su_ cS z)), eD⟩ (.cons z (.cons z (.cons z (.cons z .nil))))
        ·rintro ⟨iW, kK⟩ j7 ⟨rfl, bD, cd⟩
         replace h := flowK_go et
         try dsimp only at h bD cd
         refine (show At _ _ _ [(3, pt H 0), (5, X), (8, pt K 0), (12, pt ae 0)] _ from ?_)
         refine At.inBlockHit ?_
         obtain ⟨iX, cT, eE⟩ := OwnSl.rlb 1003 rfl cd
         exact At.join (σ := (List api_Pair × Own)) (iW, iX) ⟨some1 h, (tr_ (su_ bD z) (su_ cT z)), eE⟩ (.cons z (.cons z (.cons z (.cons z .nil))))
       ·rintro ⟨kL, bX⟩ bi ⟨rfl, am, eF⟩
        replace h := es
        try dsimp only at h am eF
        refine (show At _ _ _ [(3, pt H 0), (5, X), (8, pt K 0), (12, pt ae 0)] _ from ?_)
        refine th (sq (rg (wY (ya z) z (nl (th ?_)))))
        obtain ⟨iY, h, eG⟩ := bnd h
        refine WC.join (σ := Own) (fun x w' => () = iY ∧ Stp [19, 1004] bX bi x w') (fun x => [(3, pt H 0), (5, X), (8, pt K 0)]) ?_ ?_
        ·refine WC.block ?_
         obtain ⟨cU, h, eH⟩ := flow1 h
         obtain ⟨cV, h⟩ := loop_some h
         refine WC.joinB 2 (σ := Own) (fun x w' => cU = .go () ∧ Stp [19, 1004] bX bi x w') (fun x => [(3, pt H 0), (5, X), (8, pt K 0)]) ?_ ?_
         ·have eJ := (b9.st aJ z z z).st am z z z
          obtain ⟨iZ, cW, eK⟩ := OwnSl.rlb 1004 rfl eJ
          refine WC.loop (σ := (List UInt64 × Int × Own)) (fun x k w' => loopN k (law33_RelabelNone_lp2) (x.1, x.2.1) = some cU ∧ Stp [19, 1004] bX bi x.2.2 w' ∧ OwnSl 1004 Rep.u 34 x.2.2 w' (vl bT bU bW) x.1) (fun x => [(3, pt H 0), (5, X), (8, pt K 0), (12, pt ae 0), (16, vi x.2.1)]) (ai.Hist.Pos.Counts, 0, iZ) cV (.cons z (.cons z (.cons z (.cons z (.cons z .nil))))) ⟨h, (su_ cW z), eK⟩ ?_
          rintro ⟨kM, i0, cX⟩ cV j8 ⟨h, an, ao⟩
          obtain ⟨i1, kN, rfl, h, ce⟩ := rnd1 h
          unfold law33_RelabelNone_lp2 at h
          try dsimp only at h an ao
          refine (show WC _ _ _ _ [(3, pt H 0), (5, X), (8, pt K 0), (12, pt ae 0), (16, vi i0)] _ from ?_)
          refine sq (sq (rg (wY (ym z) z (wY (yf fo41_10 z) z (wY (yf fo39_2 z) z (wY (yf fo37_1 z) z ?_))))))
          have cf := (ca.st am z).st an z
          refine wY (yl ty35 z z (cf.cell 13 _ z)) z (wY (Y.len ty35 z ao.src.sl) z (wY (Y.lss_i z z) z (nl (th ?_))))
          rcases cnd h with ⟨bj, h⟩ | ⟨bj, h⟩
          ·refine WC.condT' z bj (sk (th (sq (WC.block (rg (wY (yf fo41_10 z) z (wY (yf fo39_2 z) z (wY (yf fo37_1 z) z (wY (yl ty35 z z (cf.cell 13 _ z)) z ?_)))))))))
           refine wY (ym z) z ?_
           obtain ⟨i2, eM, h⟩ := bnd h
           obtain ⟨kO, jX, j9, bk, eN, eO, bl, cY⟩ := OwnSl.at ao eM
           obtain rfl := cY
           replace bl : CellsAt _ _ _ [vu i2] := bl
           have jY := CAt.own ao bk bl
           refine wY (Y.indexAddr ty35 ty34 z bk z eN eO) z ?_
           obtain ⟨eP, cZ, h⟩ := bnd h
           refine WL.storeOwn (by decide) ty34 z z z ao bk cZ ?_
           intro ka c0 eQ
           refine nl (At.inBlock (th (rg (wY (ym z) z (wY (Y.add_i z z) z ?_)))))
           obtain ⟨i3, eR, h⟩ := lt1 h
           refine WL.yE (ya z) (congrArg vi eR.symm) z (nl ?_)
           exact At.round (eP, i3, cX) i1 (Nat.lt_succ_self _) ⟨next1 h ce, (tr_ (su_ an z) (su_ c0 z)), eQ⟩ (.cons z (.cons z (.cons z (.cons z (.cons z .nil)))))
          ·refine WC.condF' z bj (WC.exit (At.thenX (At.loopX ?_)))
           exact At.hitB (σ := Own) cX ⟨brk1 h ce, (su_ an z)⟩ (.cons z (.cons z (.cons z .nil)))
         ·rintro i4 kb ⟨rfl, c1⟩
          replace h := flowK_go eH
          refine (show At _ _ _ [(3, pt H 0), (5, X), (8, pt K 0)] _ from ?_)
          refine At.inBlockHit ?_
          exact At.join (σ := Own) i4 ⟨some1 h, (su_ c1 z)⟩ (.cons z (.cons z (.cons z .nil)))
        ·rintro i5 kc ⟨rfl, c2⟩
         replace h := eG
         refine (show At _ _ _ [(3, pt H 0), (5, X), (8, pt K 0)] _ from ?_)
         exact At.join (σ := Own) i5 ⟨some1 h, (tr_ (su_ aa z) (tr_ (su_ cH z) (tr_ (su_ ak z) (tr_ (su_ aJ z) (tr_ (su_ am z) (su_ c2 z))))))⟩ (.cons z (.cons z (.cons z .nil)))
      ·refine WC.condF' z a9 (sk ?_)
       exact At.join (σ := Own) a8 ⟨some1 h, (su_ aa z)⟩ (.cons z (.cons z (.cons z .nil)))
     ·rintro i6 kd ⟨rfl, D⟩
      replace h := dJ
      refine (show At _ _ _ [(3, pt H 0), (5, X), (8, pt K 0)] _ from ?_)
      refine th (sq (rg (wY (ym z) z ?_)))
      have cg := (((aS.st q z).st j z).st m z).st D z
      refine wY (yL ty41 z z (cg.cells 0 (cp a1 (vl L M P) (vl Q S T) (vl U V W)) z) z) z ?_
      obtain ⟨c3, eV, h⟩ := bnd h
      obtain ⟨bY, c4, rfl, eW, i7⟩ := OptP.some hW eV
      have eX : Sl rep_relabel_rule bO (frs b3) c4 c3.l := Sl.adoptF i7 (fun k hk => ⟨hk.1, labP_ne hk.2⟩) bC
      have eY : Blk 12 b3 bO bY 71 [c4] := Blk.new eW bC (labP_at bY 12)
      have e2 := (((eY.st q z).st j z).st m z).st D z
      have e8 := (((eX.f q z).f j z).f m z).f D z
      have ch := (((aT.i q z z).i j z z).i m z z).i D z z
      have az := (((aU.i q z z).i j z z).i m z z).i D z z
      have aA := (((aW.i q z z).i j z z).i m z z).i D z z
      obtain ⟨⟨af, Z, ac⟩, fj, h⟩ := bnd h
      refine WL.call (vals := [pt bY 0, ag (cp a1 (vl L M P) (vl Q S T) (vl U V W))]) kok14 z z (c_relabel_Rules_Apply (A := fun _ => True) (a0 := c3) (a1 := a1) (Sl.all e8) e2.blk trivial (Sl.all ch) (Sl.all az) (Sl.all aA) fj) ?_
      rintro ke bm ⟨bn, bZ, c5, rfl, fk, i8, i9, ja, jb, jc, jd⟩
      obtain ⟨bo, jy, ax, r⟩ := adoptE i6 (fun k => if ob bn = some k then 22 else if ob bZ = some k then 23 else if ob c5 = some k then 24 else 1) fk
      have fl : OwnSl 22 rep_api_Pair 59 bo bm bn af.Attrs := RowF.adopt 22 flat_api_Pair i8 ax (fun k hk => if_pos hk)
      have fm : OwnSl 23 Rep.u 34 bo bm bZ af.Hist.Pos.Counts := RowF.adopt 23 Flat.u i9 ax (fun k hk => (if_neg (fun (e : ob bn = some k) => jb k e hk)).trans (if_pos hk))
      have fn : OwnSl 24 Rep.u 34 bo bm c5 af.Hist.Neg.Counts := RowF.adopt 24 Flat.u ja ax (fun k hk => (if_neg (fun (e : ob bn = some k) => jc k e hk)).trans ((if_neg (fun (e : ob bZ = some k) => jd k e hk)).trans (if_pos hk)))
      refine wY (ym z) z (wY (yx z z) z (wY (yx z z) z (wY (yx z z) z (WL.alloc (O := bo) 25 [vs [], sn, vi 0, vi 0, vB false, vi 0, vi 0, vi 0, vu 0, vu 0, vi 0, vu 0, vi 0, sn, vi 0, sn, vi 0] ty41 z z ?_))))
      intro ay je kf n fo
      have ci := fl.st n z z z
      have fp := h
      obtain ⟨aK, aL, aM, rfl⟩ := ci.shape
      have h := fp
      have cj := fm.st n z z z
      have fq := h
      obtain ⟨bp, bq, br, rfl⟩ := cj.shape
      have h := fq
      have ck := fn.st n z z z
      have fs := h
      obtain ⟨bs, bt, bu, rfl⟩ := ck.shape
      have h := fs
      refine WL.store (v := ag (cp af (vl aK aL aM) (vl bp bq br) (vl bs bt bu))) (cells' := (cp af (vl aK aL aM) (vl bp bq br) (vl bs bt bu))) ty41 z z fo z (le_ z) z z ?_
      intro kg o cl
      refine wY (ya z) z (wY (ya z) z (nl (th (sq (sq (rg (wY (yf fo41_1 z) z ?_)))))))
      have ap := ((cg.st r z).st n z).st o z
      refine wY (yl ty33 z z (ap.cell 1 _ z)) z (wY (yf fo41_1 z) z ?_)
      have cm := (((dI.st D z).st r z).st n z).st o z
      refine wY (yl ty33 z z (cm.cell 1 _ z)) z ?_
      have aC := ((ch.i r z z).i n z z).i o z z
      have cn := ((((b4.st m z z z).st D z z z).st r z z z).st n z z z).st o z z z
      obtain ⟨kP, fF, h⟩ := bnd h
      refine WL.call (vals := [(vl L M P), (vl aD aE aF)]) kok17 z z (c_ref11_Same (A := fun _ => True) (Sl.all aC) (cn.src.sl) fF) ?_
      rintro kh fG ⟨rfl, fH⟩
      obtain ⟨b0, jz, jA, c⟩ := adoptE je (fun k => 1) fH
      refine wY (Y.not z) z (wY (ym z) z ?_)
      obtain ⟨jf, h, fI⟩ := bnd h
      refine WL.cut 5 (σ := (Bool × Own)) (fun x w' => x.1 = jf ∧ Stp [] b0 fG x.2 w') (fun x => [(3, pt H 0), (17, pt ay 0), (18, vB Z), (19, vi ac), (99, vB x.1)]) ?_ ?_
      ·rcases cnd h with ⟨bw, h⟩ | ⟨bw, h⟩
       ·refine WL.ren 94 z (congrArg vB bw) (WL.gS z z z z (WL.gS z z z z (WL.gS z z z z (WL.gS z z z z (wY (Y.pick (b := true) z z) z ?_)))))
        exact nl (At.join (σ := (Bool × Own)) (true, b0) ⟨some1 h, (sr_ _ _ _)⟩ (.cons z (.cons z (.cons z (.cons z (.cons z .nil))))))
       ·refine WL.ren 94 z (congrArg vB bw) (ug z z ?_)
        have fJ := ap.st c z
        refine wY (yL ty41 z z (fJ.cells 0 (cp a1 (vl L M P) (vl Q S T) (vl U V W)) z) z) z (ug z z ?_)
        have fK := cm.st c z
        refine wY (yL ty41 z z (fK.cells 0 (cp ad (vl aD aE aF) (vl a2 a3 a4) (vl a5 a6 a7)) z) z) z (ug z z ?_)
        have fL := aC.i c z z
        have fQ := (((az.i r z z).i n z z).i o z z).i c z z
        have fV := (((aA.i r z z).i n z z).i o z z).i c z z
        have fY := cn.st c z z z
        have f5 := (((((b5.st m z z z).st D z z z).st r z z z).st n z z z).st o z z z).st c z z z
        have gb := (((((b6.st m z z z).st D z z z).st r z z z).st n z z z).st o z z z).st c z z z
        obtain ⟨jg, gc, h⟩ := bnd h
        refine WL.call (vals := [ag (cp a1 (vl L M P) (vl Q S T) (vl U V W)), ag (cp ad (vl aD aE aF) (vl a2 a3 a4) (vl a5 a6 a7))]) kok16 z z (c_ref12_Same (A := fun _ => True) (a0 := a1) (a1 := ad) (Sl.all fL) (Sl.all fQ) (Sl.all fV) (fY.src.sl) (f5.src.sl) (gb.src.sl) gc) ?_
        rintro ki kj ⟨rfl, gd⟩
        obtain ⟨jh, jB, jC, c6⟩ := adoptE b0 (fun k => 1) gd
        refine ug z z (wY (Y.not z) z (wY (Y.pick (b := false) z z) z ?_))
        exact nl (At.join (σ := (Bool × Own)) ((!jg), jh) ⟨some1 h, (su_ c6 z)⟩ (.cons z (.cons z (.cons z (.cons z (.cons z .nil))))))
      ·rintro ⟨ji, b1⟩ ge ⟨rfl, p⟩
       replace h := fI
       try dsimp only at h p
       refine (show WL _ _ _ _ _ [(3, pt H 0), (17, pt ay 0), (18, vB Z), (19, vi ac), (99, vB ji)] _ from ?_)
       refine wY (ym z) z ?_
       obtain ⟨jj, h, gf⟩ := bnd h
       refine WL.cut 5 (σ := (Bool × Own)) (fun x w' => x.1 = jj ∧ Stp [] b1 ge x.2 w') (fun x => [(3, pt H 0), (17, pt ay 0), (18, vB Z), (19, vi ac), (105, vB x.1)]) ?_ ?_
       ·rcases cnd h with ⟨bx, h⟩ | ⟨bx, h⟩
        ·refine WL.ren 100 z (congrArg vB bx) (WL.gS z z z z (WL.gS z z z z (WL.gS z z z z (WL.gS z z z z (wY (Y.pick (b := true) z z) z ?_)))))
         exact nl (At.join (σ := (Bool × Own)) (true, b1) ⟨some1 h, (sr_ _ _ _)⟩ (.cons z (.cons z (.cons z (.cons z (.cons z .nil))))))
        ·refine WL.ren 100 z (congrArg vB bx) (ug z z (wY (ym z) z (ug z z ?_)))
         have gh := (ap.st c z).st p z
         refine wY (yL ty41 z z (gh.cells 0 (cp a1 (vl L M P) (vl Q S T) (vl U V W)) z) z) z (ug z z ?_)
         have gj := (aC.i c z z).i p z z
         have gp := ((((az.i r z z).i n z z).i o z z).i c z z).i p z z
         have gu := ((((aA.i r z z).i n z z).i o z z).i c z z).i p z z
         obtain ⟨jk, gw, h⟩ := bnd h
         refine WL.call (vals := [ag (cp a1 (vl L M P) (vl Q S T) (vl U V W))]) kok18 z z (c_ref12_Check (A := fun _ => True) (a0 := a1) (Sl.all gj) (Sl.all gp) (Sl.all gu) gw) ?_
         rintro kk km ⟨rfl, gz⟩
         obtain ⟨jl, jD, jE, c7⟩ := adoptE b1 (fun k => 1) gz
         refine ug z z (wY (Y.neq_i z z) z (wY (Y.pick (b := false) z z) z ?_))
         exact nl (At.join (σ := (Bool × Own)) ((!decide (ac = jk)), jl) ⟨some1 h, (su_ c7 z)⟩ (.cons z (.cons z (.cons z (.cons z (.cons z .nil))))))
       ·rintro ⟨aN, aO⟩ co ⟨rfl, t⟩
        replace h := gf
        try dsimp only at h t
        refine (show WL _ _ _ _ _ [(3, pt H 0), (17, pt ay 0), (18, vB Z), (19, vi ac), (105, vB aN)] _ from ?_)
        refine wY (ym z) z ?_
        refine WL.cut 5 (σ := Unit) (fun _ w' => co = w') (fun _ => [(3, pt H 0), (17, pt ay 0), (18, vB Z), (111, vB (aN || (!decide (Z = decide (ac = 0)))))]) ?_ ?_
        ·refine WL.part 106 z (fun bz => ?_) (fun bz => ?_)
         ·refine WL.gS z z z z (WL.gS z z z z (WL.gS z z z z (WL.gS z z z z (wY (Y.pick (b := true) z z) z (WL.ren (v' := vB (aN || (!decide (Z = decide (ac = 0))))) 111 z (congrArg vB (orT bz)) ?_)))))
          exact nl (At.join () z (.cons z (.cons z (.cons z (.cons z .nil)))))
         ·refine ug z z (wY (ym z) z (ug z z (wY (ym z) z (ug z z (wY (Y.eql_i z z) z (ug z z (wY (Y.neqB z z ty4.u) z (wY (Y.pick (b := false) z z) z (WL.ren (v' := vB (aN || (!decide (Z = decide (ac = 0))))) 111 z (congrArg vB (orF bz)) ?_)))))))))
          exact nl (At.join () z (.cons z (.cons z (.cons z (.cons z .nil)))))
        ·rintro _ _ rfl
         refine (show WL _ _ _ _ _ [(3, pt H 0), (17, pt ay 0), (18, vB Z), (111, vB (aN || (!decide (Z = decide (ac = 0)))))] _ from ?_)
         refine nl (th ?_)
         rcases cnd h with ⟨bA, h⟩ | ⟨bA, h⟩
         ·refine WC.condT' z bA (sq (rg (wY (ya z) z (nl (th (rt (At.thenR ?_)))))))
          obtain rfl := some1 h
          have gB : Stp [16, 18, 19, 21, 25, 1001, 1002, 1004] (Lg.O0 A) w aO co := (tr_ (su_ G z) (tr_ (su_ C z) (tr_ (su_ E z) (tr_ (su_ I z) (tr_ (su_ J z) (tr_ (su_ q z) (tr_ (su_ j z) (tr_ (su_ m z) (tr_ (su_ D z) (tr_ (su_ r z) (tr_ (su_ n z) (tr_ (su_ o z) (tr_ (su_ c z) (tr_ (su_ p z) (su_ t z)))))))))))))))
          exact At.res (.inl z) z (.tmp z .nil) ⟨z, (se_ gB z z)⟩
         ·refine WC.condF' z bA (sk (th (sq (WC.drawH [] [0, 1, 2, 3, 4, 5, 6, 7, 8, 9, 10, 11, 12, 13, 14, 15] aO 16 fmix z (by kernel_rfl) ?_))))
          intro gC F
          refine WD.y 0 z (by kernel_rfl) (fun _ _ _ => ym z) z (WD.y 1 z (by kernel_rfl) (fun _ _ _ => Y.not z) z (WD.y 2 z (by kernel_rfl) (fun _ _ _ => ym z) z ?_))
          obtain ⟨jm, h, gE⟩ := bnd h
          refine WD.join (σ := (Bool × Own)) (f' := 1) [14, 13, 12, 11, 10, 9, 8, 7, 6, 5, 4, 3, 2, 1, 0] (fun x O' w' => x.1 = jm ∧ Stp [] aO gC x.2 w' ∧ x.2 = O') (fun x => [(126, vB x.1)]) (fun cq => ?_) ?_
          ·rcases cnd h with ⟨aq, h⟩ | ⟨aq, h⟩
           ·refine WD.ren 114 z (congrArg vB aq) (WD.gS 3 z (by kernel_rfl) z z z z (WD.gS 4 z (by kernel_rfl) z z z z (WD.heavy 5 z (by kernel_rfl) (WL.gS z z z z (nl (At.dq (sr_ _ _ _) (WD.gS 6 z (by kernel_rfl) z z z z (WD.gS 7 z (by kernel_rfl) z z z z (WD.gS 8 z (by kernel_rfl) z z z z ?_)))))))))
            refine WD.gS 9 z (by kernel_rfl) z z z z (WD.gS 10 z (by kernel_rfl) z z z z (WD.heavy 11 z (by kernel_rfl) (WL.gS z z z z (nl (At.dq (sr_ _ _ _) (WD.heavy 12 z (by kernel_rfl) (WL.gS z z z z (nl (At.dq (sr_ _ _ _) ?_)))))))))
            refine WD.gS 13 z (by kernel_rfl) z z z z (WD.y 14 z (by kernel_rfl) (fun _ _ _ => Y.pick (b := true) z z) z (WD.ren 114 z (congrArg vB aq.symm) ?_))
            exact cq (true, aO) _ _ _ ⟨some1 h, (sr_ _ _ _), z⟩ (.cons z .nil)
           ·refine WD.ren 114 z (congrArg vB aq) (WD.gT 3 z (by kernel_rfl) z z (fun kn kQ c8 => have gG := ap.st c z; have gH := gG.st p z; have gI := gH.st t z; have gJ := gI.st F z; have gK := gJ.st c8 z; yL ty41 z z (gK.cells 0 (cp a1 (vl L M P) (vl Q S T) (vl U V W)) z) z) z (WD.gT 4 z (by kernel_rfl) z z (fun ko kR c9 => have gL := cl.st c z; have gM := gL.st p z; have gO := gM.st t z; have gP := gO.st F z; have gQ := gP.st c9 z; yL ty41 z z (gQ.cells 0 (cp af (vl aK aL aM) (vl bp bq br) (vl bs bt bu)) z) z) z (WD.heavy 5 z (by kernel_rfl) (ug z z ?_))))
            have cr := (((aC.i c z z).i p z z).i t z z).i F z z
            have g2 := ((((((az.i r z z).i n z z).i o z z).i c z z).i p z z).i t z z).i F z z
            have g9 := ((((((aA.i r z z).i n z z).i o z z).i c z z).i p z z).i t z z).i F z z
            have cs := ((((ci.st o z z z).st c z z z).st p z z z).st t z z z).st F z z z
            have hm := ((((cj.st o z z z).st c z z z).st p z z z).st t z z z).st F z z z
            have hr := ((((ck.st o z z z).st c z z z).st p z z z).st t z z z).st F z z z
            obtain ⟨kS, hs, h⟩ := bnd h
            refine WL.call (vals := [ag (cp a1 (vl L M P) (vl Q S T) (vl U V W)), ag (cp af (vl aK aL aM) (vl bp bq br) (vl bs bt bu))]) kok16 z z (c_ref12_Same (A := fun _ => True) (a0 := a1) (a1 := af) (Sl.all cr) (Sl.all g2) (Sl.all g9) (cs.src.sl) (hm.src.sl) (hr.src.sl) hs) ?_
            rintro kp ht ⟨rfl, hu⟩
            obtain ⟨b2, jF, jG, ab⟩ := adoptE aO (fun k => 1) hu
            refine nl (At.dq (su_ ab z) (WD.gT 6 z (by kernel_rfl) z z (fun _ _ _ => ym z) z ?_))
            obtain ⟨jn, h, hv⟩ := bnd h
            refine WD.join (σ := (Bool × Own)) (f' := 2) [13, 12, 11, 10, 9, 8, 7, 6, 5, 4, 3, 2, 1, 0] (fun x O' w' => x.1 = jn ∧ Stp [] b2 ht x.2 w' ∧ x.2 = O') (fun x => [(114, vB false), (125, vB x.1)]) (fun ct => ?_) ?_
            ·rcases cnd h with ⟨ar, h⟩ | ⟨ar, h⟩
             ·refine WD.ren 118 z (congrArg vB ar) (WD.gT 7 z (by kernel_rfl) z z (fun _ _ _ => yf fo41_1 z) z (WD.gT 8 z (by kernel_rfl) z z (fun kq kT da => have hw := cl.st c z; have hx := hw.st p z; have hy := hx.st t z; have hz := hy.st F z; have hA := hz.st ab z; have hC := hA.st da z; yl ty33 z z (hC.cell 1 _ z)) z (WD.gT 9 z (by kernel_rfl) z z (fun _ _ _ => yf fo41_1 z) z (WD.gT 10 z (by kernel_rfl) z z (fun kr kU db => have hD := ap.st c z; have hE := hD.st p z; have hF := hE.st t z; have hG := hF.st F z; have hH := hG.st ab z; have hI := hH.st db z; yl ty33 z z (hI.cell 1 _ z)) z (WD.heavy 11 z (by kernel_rfl) (ug z z ?_))))))
              have hJ := cr.i ab z z
              obtain ⟨jo, hK, h⟩ := bnd h
              refine WL.call (vals := [(vl L M P)]) kok22 z z (c_ref11_Sorted (A := fun _ => True) (Sl.all hJ) hK) ?_
              rintro bB hL ⟨_, rfl, hM, jp⟩
              obtain ⟨dc, jH, cu, aP⟩ := adoptE b2 (fun k => if ob bB = some k then 26 else 1) hM
              have hN : OwnSl 26 rep_api_Pair 59 dc hL bB jo := RowF.adopt 26 flat_api_Pair jp cu (fun k hk => if_pos hk)
              refine nl (At.dq (su_ aP z) (WD.heavy 12 z (by kernel_rfl) (ug z z ?_)))
              have hP := (cs.st ab z z z).st aP z z z
              obtain ⟨jq, hQ, h⟩ := bnd h
              refine WL.call (vals := [(vl aK aL aM), bB]) kok17 z z (c_ref11_Same (A := fun _ => True) (hP.src.sl) (hN.src.sl) hQ) ?_
              rintro ks kt ⟨rfl, hR⟩
              obtain ⟨jr, jI, jJ, bE⟩ := adoptE dc (fun k => 1) hR
              refine nl (At.dq (su_ bE z) (WD.gT 13 z (by kernel_rfl) z z (fun _ _ _ => Y.pick (b := true) z z) z (WD.ren 118 z (congrArg vB ar.symm) ?_)))
              exact ct (jq, jr) _ _ _ ⟨some1 h, (tr_ (su_ aP z) (su_ bE z)), z⟩ (.cons z (.cons z .nil))
             ·refine WD.ren 118 z (congrArg vB ar) (WD.gS 7 z (by kernel_rfl) z z z z (WD.gS 8 z (by kernel_rfl) z z z z (WD.gS 9 z (by kernel_rfl) z z z z (WD.gS 10 z (by kernel_rfl) z z z z (WD.heavy 11 z (by kernel_rfl) (WL.gS z z z z (nl (At.dq (sr_ _ _ _) (WD.heavy 12 z (by kernel_rfl) ?_)))))))))
              refine WL.gS z z z z (nl (At.dq (sr_ _ _ _) (WD.gT 13 z (by kernel_rfl) z z (fun _ _ _ => Y.pick (b := false) z z) z (WD.ren 118 z (congrArg vB ar.symm) ?_))))
              exact ct (false, b2) _ _ _ ⟨some1 h, (sr_ _ _ _), z⟩ (.cons z (.cons z .nil))
            ·rintro ⟨dd, js⟩ _ ku ⟨rfl, bF, rfl⟩
             replace h := hv
             try dsimp only at h bF
             refine (show WD _ _ _ _ _ _ _ _ [(114, vB false), (125, vB dd)] _ _ from ?_)
             refine WD.y 14 z (by kernel_rfl) (fun _ _ _ => Y.pick (b := false) z z) z (WD.ren 114 z (congrArg vB aq.symm) ?_)
             exact cq (dd, js) _ _ _ ⟨some1 h, (tr_ (su_ ab z) (su_ bF z)), z⟩ (.cons z .nil)
          ·rintro ⟨jt, ju⟩ _ hS ⟨rfl, bG, rfl⟩
           replace h := gE
           try dsimp only at h bG
           refine (show WD _ _ _ _ _ _ _ _ [(126, vB jt)] _ _ from ?_)
           refine WD.y 15 z (by kernel_rfl) (fun _ _ _ => ya z) z (WD.done_ (by kernel_rfl) (th (rt ?_)))
           obtain rfl := some1 h
           have hT : Stp [16, 18, 19, 21, 25, 1001, 1002, 1004] (Lg.O0 A) w ju hS := (tr_ (su_ G z) (tr_ (su_ C z) (tr_ (su_ E z) (tr_ (su_ I z) (tr_ (su_ J z) (tr_ (su_ q z) (tr_ (su_ j z) (tr_ (su_ m z) (tr_ (su_ D z) (tr_ (su_ r z) (tr_ (su_ n z) (tr_ (su_ o z) (tr_ (su_ c z) (tr_ (su_ p z) (tr_ (su_ t z) (tr_ (su_ F z) (su_ bG z)))))))))))))))))
           exact At.res (.inl z) z (.tmp z .nil) ⟨z, (se_ hT z z)⟩
end Go.Lg
