/- The walks of RollupRolls and of what it calls, printed by gen.py. -/
import Derived.Test.YtihlealbhlgikaaGreatRrLgRollWRollupRollsx4
set_option linter.unusedVariables false
namespace Go.Lg
open Go Go.Proofs
set_option maxRecDepth 100000
set_option maxHeartbeats 4000000
theorem c_law36_RollupRolls {A : Nat → Prop} {a0 : List api_Point} {v0 : Value} {a1 : Int} {w : World} (hs0 : Sl rep_api_Point w A v0 a0) {r0 : Bool} (h : law36_RollupRolls a0 a1 = some r0) : Rets Tryz.prog 3 [v0, vi a1] w (fun v w' => v = vB r0 ∧ Ext w w') := by
 unfold law36_RollupRolls at h
 refine Rets.enter Tryz.func3 z z ?_
 have aa : Sl rep_api_Point w (imm (Lg.O0 A)) v0 a0 := (Sl.start hs0)
 refine (show WC _ _ _ _ [(0, v0), (1, vi a1)] _ from ?_)
 refine sq (rg (wY (ya z) z (nl (th (sq (sq (rg ?_)))))))
 obtain ⟨a5, ab, h⟩ := bnd h
 refine WL.call (vals := []) kok6 z z (c_law36_awake ab) ?_
 rintro aW ac ⟨rfl, ad⟩
 obtain ⟨V, aJ, aK, e⟩ := adoptE (Lg.O0 A) (fun k => 1) ad
 refine wY (Y.not z) z (nl (th ?_))
 rcases cnd h with ⟨p, h⟩ | ⟨p, h⟩
 ·refine WC.condT' z p (sq (rg (wY (ya z) z (nl (th (rt (At.thenR ?_)))))))
  obtain rfl := some1 h
  have ae : Stp [] (Lg.O0 A) w V ac := (su_ e z)
  exact At.res (.inl z) z (.tmp z .nil) ⟨z, (se_ ae z z)⟩
 ·refine WC.condF' z p (sk (th (sq (sq (rg (wY (ym z) z ?_))))))
  have I := aa.i e z z
  obtain ⟨a6, af, h⟩ := bnd h
  refine WL.call (vals := [v0, vi 20]) kok7 z z (c_ref12_Some (A := fun _ => True) (Sl.all I) af) ?_
  rintro aX ah ⟨rfl, ai⟩
  obtain ⟨D, aL, aM, l⟩ := adoptE V (fun k => 1) ai
  refine wY (Y.not z) z (nl (th ?_))
  rcases cnd h with ⟨q, h⟩ | ⟨q, h⟩
  ·refine WC.condT' z q (sq (rg (wY (ya z) z (nl (th (rt (At.thenR ?_)))))))
   obtain rfl := some1 h
   have aj : Stp [] (Lg.O0 A) w D ah := (tr_ (su_ e z) (su_ l z))
   exact At.res (.inl z) z (.tmp z .nil) ⟨z, (se_ aj z z)⟩
  ·refine WC.condF' z q (sk (th (sq (rg (wY (ym z) z (wY (ym z) z ?_))))))
   have J := I.i l z z
   obtain ⟨⟨aN, c, j⟩, ak, h⟩ := bnd h
   refine WL.call (vals := [v0, vi a1]) kok8 z z (c_rollup_Roll (A := imm D) J ak) ?_
   rintro aY al ⟨W, rfl, am, aO⟩
   obtain ⟨F, K, M, G⟩ := adoptE D (fun k => 1) am
   have an : Sl rep_api_Point al (imm F) W aN := Sl.adoptI (O := D) aO (fun _ hk => hk) (fun _ _ => Nat.le_refl _) K M
   refine wY (ym z) z (wY (yx z z) z (wY (yx z z) z (wY (yx z z) z (wY (ya z) z (wY (ya z) z (wY (ya z) z (nl (th (sq ?_)))))))))
   refine rg (wY (ym z) z (wY (ym z) z ?_))
   have ao := J.i G z z
   obtain ⟨a, ap, h⟩ := bnd h
   refine WL.call (vals := [v0, vi a1]) kok9 z z (c_ref36_Roll (A := imm F) ao ap) ?_
   rintro aZ aq ⟨aP, rfl, ar, aQ⟩
   obtain ⟨X, P, Q, H⟩ := adoptE F (fun k => 1) ar
   have au : Sl rep_api_Point aq (imm X) aP a.L := Sl.adoptI (O := F) aQ (fun _ hk => hk) (fun _ _ => Nat.le_refl _) P Q
   refine WL.alloc (O := X) 11 [sn, vi 0, vi 0] ty29 z z ?_
   intro Z aR a2 m av
   have R := au.i m z z
   have ax := h
   obtain ⟨S, T, U, rfl⟩ := R.shape
   have h := ax
   refine WL.store (v := ag [(vl S T U), vi a.At, vi a.E]) (cells' := [(vl S T U), vi a.At, vi a.E]) ty29 z z av z (le_ z) z z ?_
   intro a3 n r
   refine nl (th (sq (rg (wY (ym z) z (wY (yf fo29_0 z) z (wY (yl ty22 z z (r.cell 0 _ z)) z ?_))))))
   have aA := ((an.i H z z).i m z z).i n z z
   have aC := R.i n z z
   obtain ⟨d, aD, h⟩ := bnd h
   refine WL.call (vals := [W, (vl S T U)]) kok10 z z (c_ref12_SameAll (A := fun _ => True) (Sl.all aA) (Sl.all aC) aD) ?_
   rintro a4 t ⟨rfl, aE⟩
   obtain ⟨aS, aT, aU, o⟩ := adoptE aR (fun k => 1) aE
   refine wY (ym z) z ?_
   refine WL.cut 5 (σ := Unit) (fun _ w' => t = w') (fun _ => [(7, vi j), (8, pt Z 0), (33, vB (d && (decide (c = a.At))))]) ?_ ?_
   ·refine WL.part 28 z (fun x => ?_) (fun x => ?_)
    ·refine ug z z (wY (ym z) z (ug z z (wY (yf fo29_1 z) z (ug z z ?_))))
     have aF := r.st o z
     refine wY (yl ty3 z z (aF.cell 1 _ z)) z (ug z z (wY (Y.eql_i z z) z (wY (Y.pick (b := true) z z) z (WL.ren (v' := vB (d && (decide (c = a.At)))) 33 z (congrArg vB (andT x)) ?_))))
     exact nl (At.join () z (.cons z (.cons z (.cons z .nil))))
    ·refine WL.gS z z z z (WL.gS z z z z (WL.gS z z z z (WL.gS z z z z (wY (Y.pick (b := false) z z) z (WL.ren (v' := vB (d && (decide (c = a.At)))) 33 z (congrArg vB (andF x)) ?_)))))
     exact nl (At.join () z (.cons z (.cons z (.cons z .nil))))
   ·rintro _ _ rfl
    refine (show WL _ _ _ _ _ [(7, vi j), (8, pt Z 0), (33, vB (d && (decide (c = a.At))))] _ from ?_)
    refine wY (ym z) z ?_
    refine WL.cut 5 (σ := Unit) (fun _ w' => t = w') (fun _ => [(39, vB ((d && (decide (c = a.At))) && (decide (j = a.E))))]) ?_ ?_
    ·refine WL.part 34 z (fun C => ?_) (fun C => ?_)
     ·refine ug z z (wY (ym z) z (ug z z (wY (yf fo29_2 z) z (ug z z ?_))))
      have aG := r.st o z
      refine wY (yl ty25 z z (aG.cell 2 _ z)) z (ug z z (wY (Y.eql_i z z) z (wY (Y.pick (b := true) z z) z (WL.ren (v' := vB ((d && (decide (c = a.At))) && (decide (j = a.E)))) 39 z (congrArg vB (andT C)) ?_))))
      exact nl (At.join () z (.cons z .nil))
     ·refine WL.gS z z z z (WL.gS z z z z (WL.gS z z z z (WL.gS z z z z (wY (Y.pick (b := false) z z) z (WL.ren (v' := vB ((d && (decide (c = a.At))) && (decide (j = a.E)))) 39 z (congrArg vB (andF C)) ?_)))))
      exact nl (At.join () z (.cons z .nil))
    ·rintro _ _ rfl
     refine (show WL _ _ _ _ _ [(39, vB ((d && (decide (c = a.At))) && (decide (j = a.E))))] _ from ?_)
     obtain ⟨a7, aH, h⟩ := lt1 h
     refine WL.yE (ya z) (congrArg vB aH.symm) z (nl (th (rt ?_)))
     obtain rfl := some1 h
     have aI : Stp [11] (Lg.O0 A) w aS t := (tr_ (su_ e z) (tr_ (su_ l z) (tr_ (su_ G z) (tr_ (su_ H z) (tr_ (su_ m z) (tr_ (su_ n z) (su_ o z)))))))
     exact At.res (.inl z) z (.tmp z .nil) ⟨z, (se_ aI z z)⟩
end Go.Lg
