/- The walks of OtlpWrites and of what it calls, printed by gen.py. -/
import Derived.Test.YtihlealbhlgikaaGreatOwLgOtWOtlpWritesx1
set_option linter.unusedVariables false
namespace Go.Lg
open Go Go.Proofs
set_option maxRecDepth 100000
set_option maxHeartbeats 4000000
theorem c_slices_Index_int_int {A : Nat → Prop} {a0 : List Int} {v0 : Value} {a1 : Int} {w : World} (hs0 : Sl Rep.i w A v0 a0) {r0 : Int} (h : slices_Index_int_int a0 a1 = some r0) : Rets Tryz.prog 167 [v0, vi a1] w (fun v w' => v = vi r0 ∧ Ext w w') := by
 unfold slices_Index_int_int at h
 refine Rets.enter Tryz.func167 z z ?_
 have o : Sl Rep.i w (imm (Lg.O0 A)) v0 a0 := (Sl.start hs0)
 refine (show WC _ _ _ _ [(0, v0), (1, vi a1)] _ from ?_)
 refine sq (rg (wY (ya z) z (nl (th (sq (sq (rg (wY (ym z) z (wY (Y.len ty113 z o) z ?_)))))))))
 refine wY (ym z) z (nl (th (WC.block ?_)))
 obtain ⟨C, h, q⟩ := flow1 h
 obtain ⟨D, h⟩ := loop_some h
 refine WC.joinB 0 (σ := Unit) (fun x w' => C = .go () ∧ w = w') (fun x => []) ?_ ?_
 ·refine WC.loop (σ := Int) (fun x k w' => loopN k (slices_Index_int_int_lp1 a0 a1) x = some C ∧ w = w') (fun x => [(0, v0), (1, vi a1), (7, vi (a0.length : Int)), (8, vi x)]) 0 D (.cons z (.cons z (.cons z (.cons z .nil)))) ⟨h, z⟩ ?_
  rintro E D _ ⟨h, rfl⟩
  obtain ⟨P, W, rfl, h, c⟩ := rnd1 h
  unfold slices_Index_int_int_lp1 at h
  try dsimp only at h
  refine (show WC _ _ _ _ [(0, v0), (1, vi a1), (7, vi (a0.length : Int)), (8, vi E)] _ from ?_)
  refine sq (rg (wY (Y.lss_i z z) z (nl (th (sq ?_)))))
  rcases cnd h with ⟨d, h⟩ | ⟨d, h⟩
  ·refine WC.condT' z d (sk (th (sq (WC.block (sq (rg (wY (ym z) z (wY (ya z) z (nl ?_)))))))))
   refine th (sq (rg (wY (ym z) z (wY (ym z) z (wY (ym z) z ?_)))))
   obtain ⟨Q, F, h⟩ := bnd h
   obtain ⟨X, S, T, U, G, H, I, j, r, J⟩ := Sl.at2 o F
   obtain rfl := r
   replace j : CellsAt _ _ _ [vi Q] := j
   have t := CAt.imm j J
   refine wY (Y.indexAddr ty113 ty3 z G z H I) z (wY (yl ty3 z z t.at_) z (wY (Y.eql_i z z) z (nl (th ?_))))
   rcases cnd h with ⟨l, h⟩ | ⟨l, h⟩
   ·refine WC.condT' z l (sq (rg (wY (ym z) z (wY (ya z) z (nl (th (rt (At.inBlockR (At.thenR ?_)))))))))
    refine At.loopR ?_
    have h := outr1 h c q
    refine At.joinBR (At.inBlockR (At.thenR ?_))
    obtain rfl := some1 h
    have K : Stp [] (Lg.O0 A) w (Lg.O0 A) w := (sr_ _ _ _)
    exact At.res (.inl z) z (.tmp z .nil) ⟨z, (se_ K z z)⟩
   ·refine WC.condF' z l (sk (At.inBlock (th (rg (wY (Y.add_i z z) z (wY (ym z) z (nl ?_)))))))
    exact At.round (w64 (E + 1)) P (Nat.lt_succ_self _) ⟨next1 h c, z⟩ (.cons z (.cons z (.cons z (.cons z .nil))))
  ·refine WC.condF' z d (WC.exit (At.thenX (At.loopX ?_)))
   exact At.hitB (σ := Unit) () ⟨brk1 h c, z⟩ .nil
 ·rintro _ _ ⟨rfl, rfl⟩
  replace h := flowK_go q
  refine (show At _ _ _ [] _ from ?_)
  refine At.inBlockHit (th (sq (rg (wY (ya z) z (nl (th (rt ?_)))))))
  obtain rfl := some1 h
  have M : Stp [] (Lg.O0 A) w (Lg.O0 A) w := (sr_ _ _ _)
  exact At.res (.inl z) z (.tmp z .nil) ⟨z, (se_ M z z)⟩
theorem c_slices_Contains_int_int {A : Nat → Prop} {a0 : List Int} {v0 : Value} {a1 : Int} {w : World} (hs0 : Sl Rep.i w A v0 a0) {r0 : Bool} (h : slices_Contains_int_int a0 a1 = some r0) : Rets Tryz.prog 157 [v0, vi a1] w (fun v w' => v = vB r0 ∧ Ext w w') := by
 unfold slices_Contains_int_int at h
 refine Rets.enter Tryz.func157 z z ?_
 have d : Sl Rep.i w (imm (Lg.O0 A)) v0 a0 := (Sl.start hs0)
 refine (show WC _ _ _ _ [(0, v0), (1, vi a1)] _ from ?_)
 refine sq (rg (wY (ya z) z (nl (th (sq (rg (wY (ym z) z (wY (ym z) z ?_))))))))
 obtain ⟨F, j, h⟩ := bnd h
 refine WL.call (vals := [v0, vi a1]) kok167 z z (c_slices_Index_int_int (A := fun _ => True) (Sl.all d) j) ?_
 rintro E l ⟨rfl, o⟩
 obtain ⟨t, C, D, c⟩ := adoptE (Lg.O0 A) (fun k => 1) o
 refine wY (Y.geq_i z z) z ?_
 obtain ⟨G, q, h⟩ := lt1 h
 refine WL.yE (ya z) (congrArg vB q.symm) z (nl (th (rt ?_)))
 obtain rfl := some1 h
 have r : Stp [] (Lg.O0 A) w t l := (su_ c z)
 exact At.res (.inl z) z (.tmp z .nil) ⟨z, (se_ r z z)⟩
theorem c_otlp_has {A : Nat → Prop} {a0 : List api_Fld} {v0 : Value} {a1 : List Int} {v1 : Value} {w : World} (hs0 : Sl rep_api_Fld w A v0 a0) (hs1 : Sl Rep.i w A v1 a1) {r0 : Bool} (h : otlp_has a0 a1 = some r0) : Rets Tryz.prog 137 [v0, v1] w (fun v w' => v = vB r0 ∧ Ext w w') := by
 unfold otlp_has at h
 refine Rets.enter Tryz.func137 z z ?_
 have ae : Sl rep_api_Fld w (imm (Lg.O0 A)) v0 a0 := (Sl.start hs0)
 have I : Sl Rep.i w (imm (Lg.O0 A)) v1 a1 := (Sl.start hs1)
 refine (show WC _ _ _ _ [(0, v0), (1, v1)] _ from ?_)
 refine sq (rg ?_)
 have af := h
 obtain ⟨X, Z, aa, rfl⟩ := I.shape
 have h := af
 refine WL.box (O := (Lg.O0 A)) 11 [(vl X Z aa)] z z z ?_
 intro j t l o ah
 refine wY (ya z) z (nl (th (sq (rg (wY (ym z) z (wY (Y.mkfunc (fv := []) (cv := [pt j 0]) z z) z ?_))))))
 obtain ⟨aJ, h, ai⟩ := bnd h
 refine WL.callJ (vals := [v0, Value.func (.func 156) (List.toArray []) (List.toArray [pt j 0])]) (σ := (Bool × Own)) (fun x w' => x.1 = aJ ∧ Stp [] t l x.2 w') (fun x => vB x.1) kok155 z z ?_ ?_
 ·refine Rets.enter Tryz.func155 z z ?_
  refine (show WC _ _ _ _ [(0, v0), (1, Value.func (.func 156) (List.toArray []) (List.toArray [pt j 0]))] _ from ?_)
  refine sq (rg (wY (ya z) z (nl (th (sq (rg (wY (ym z) z (wY (ym z) z ?_))))))))
  obtain ⟨aK, h, aj⟩ := bnd h
  refine WL.callJ (vals := [v0, Value.func (.func 156) (List.toArray []) (List.toArray [pt j 0])]) (σ := (Int × Own)) (fun x w' => x.1 = aK ∧ Stp [] t l x.2 w') (fun x => vi x.1) kok166 z z ?_ ?_
  ·refine Rets.enter Tryz.func166 z z ?_
   refine (show WC _ _ _ _ [(0, v0), (1, Value.func (.func 156) (List.toArray []) (List.toArray [pt j 0]))] _ from ?_)
   refine sq (rg (wY (ya z) z (nl (th (sq (sq (rg (wY (ym z) z ?_))))))))
   have J := ae.i o z z
   refine wY (Y.len ty70 z J) z (wY (ym z) z (nl (th (WC.block ?_))))
   obtain ⟨ab, h, K⟩ := flow1 h
   obtain ⟨ac, h⟩ := loop_some h
   refine WC.joinB 0 (σ := Own) (fun x w' => ab = .go () ∧ Stp [] t l x w') (fun x => []) ?_ ?_
   ·refine WC.loop (σ := (Int × Own)) (fun x k w' => loopN k (otlp_has_lp1 a0 a1) x.1 = some ab ∧ Stp [] t l x.2 w') (fun x => [(0, v0), (1, Value.func (.func 156) (List.toArray []) (List.toArray [pt j 0])), (7, vi (a0.length : Int)), (8, vi x.1)]) (0, t) ac (.cons z (.cons z (.cons z (.cons z .nil)))) ⟨h, (sr_ _ _ _)⟩ ?_
    rintro ⟨M, P⟩ ac ak ⟨h, d⟩
    obtain ⟨aL, bd, rfl, h, C⟩ := rnd1 h
    unfold otlp_has_lp1 at h
    try dsimp only at h d
    refine (show WC _ _ _ _ [(0, v0), (1, Value.func (.func 156) (List.toArray []) (List.toArray [pt j 0])), (7, vi (a0.length : Int)), (8, vi M)] _ from ?_)
    refine sq (rg (wY (Y.lss_i z z) z (nl (th (sq ?_)))))
    rcases cnd h with ⟨D, h⟩ | ⟨D, h⟩
    ·refine WC.condT' z D (sk (th (sq (WC.block (sq (rg (wY (ym z) z (wY (ya z) z (nl ?_)))))))))
     refine th (sq (rg (wY (ym z) z (wY (ym z) z (wY (ym z) z ?_)))))
     obtain ⟨c, al, h⟩ := bnd h
     have am := J.i d z z
     obtain ⟨bf, a4, a5, a6, an, ao, ap, E, S, aq⟩ := Sl.at2 am al
     obtain ⟨_, _, rfl, rfl, ⟨_, _, rfl, rfl, ⟨_, _, rfl, rfl, ⟨Q, rfl, ar⟩⟩⟩⟩ := S
     replace E : CellsAt _ _ _ [vi c.Num, vi c.Type_, vu c.V, Q] := E
     have T := CAt.imm E aq
     refine wY (Y.indexAddr ty70 ty72 z an z ao ap) z (wY (yL ty72 z z T.at_ z) z ?_)
     obtain ⟨aM, h, au⟩ := bnd h
     refine WL.callV (fv := []) (cv := [pt j 0]) (vals := [ag [vi c.Num, vi c.Type_, vu c.V, Q]]) (σ := (Bool × Own)) (fun x w' => x.1 = aM ∧ Stp [] P ak x.2 w') (fun x => vB x.1) kok156 z z z ?_ ?_
     ·refine Rets.enter Tryz.func156 z z ?_
      refine (show WC _ _ _ _ [(0, ag [vi c.Num, vi c.Type_, vu c.V, Q]), (1, pt j 0)] _ from ?_)
      refine sq (rg ?_)
      have av := h
      obtain ⟨aN, aO, aP, rfl⟩ := ar.shape
      have h := av
      refine WL.box (O := P) 12 [vi c.Num, vi c.Type_, vu c.V, (vl aN aO aP)] z z z ?_
      intro bg aQ a7 q ax
      refine wY (ya z) z (nl (th (sq (rg ?_))))
      have az := (ah.st d z).st q z
      refine wY (yl ty113 z z (az.cell 0 _ z)) z (wY (yf fo72_0 z) z (wY (yl ty3 z z (ax.cell 0 _ z)) z ?_))
      have aD := ((I.i o z z).i d z z).i q z z
      obtain ⟨aR, aE, h⟩ := bnd h
      refine WL.call (vals := [(vl X Z aa), vi c.Num]) kok157 z z (c_slices_Contains_int_int (A := fun _ => True) (Sl.all aD) aE) ?_
      rintro a8 a9 ⟨rfl, aF⟩
      obtain ⟨aS, aT, aU, U⟩ := adoptE aQ (fun k => 1) aF
      refine wY (ya z) z (nl (th (rt ?_)))
      exact At.res (.inl z) z (.tmp z .nil) ⟨(aR, aS), ⟨some1 h, (tr_ (su_ q z) (su_ U z))⟩, z⟩
     ·rintro ⟨x64, ad⟩ ba ⟨rfl, r⟩
      replace h := au
      try dsimp only at h r
      refine (show WL _ _ _ _ _ ((16, vB x64) :: _) _ from ?_)
      refine nl (th ?_)
      rcases cnd h with ⟨F, h⟩ | ⟨F, h⟩
      ·refine WC.condT' z F (sq (rg (wY (ym z) z (wY (ya z) z (nl (th (rt (At.inBlockR (At.thenR ?_)))))))))
       refine At.loopR ?_
       have h := outr1 h C K
       refine At.joinBR (At.inBlockR (At.thenR ?_))
       exact At.res (.inl z) z (.tmp z .nil) ⟨(M, ad), ⟨some1 h, (tr_ (su_ d z) (su_ r z))⟩, z⟩
      ·refine WC.condF' z F (sk (At.inBlock (th (rg (wY (Y.add_i z z) z (wY (ym z) z (nl ?_)))))))
       exact At.round (w64 (M + 1), ad) aL (Nat.lt_succ_self _) ⟨next1 h C, (tr_ (su_ d z) (su_ r z))⟩ (.cons z (.cons z (.cons z (.cons z .nil))))
    ·refine WC.condF' z D (WC.exit (At.thenX (At.loopX ?_)))
     exact At.hitB (σ := Own) P ⟨brk1 h C, (su_ d z)⟩ .nil
   ·rintro aW bb ⟨rfl, W⟩
    replace h := flowK_go K
    refine (show At _ _ _ [] _ from ?_)
    refine At.inBlockHit (th (sq (rg (wY (ya z) z (nl (th (rt ?_)))))))
    exact At.res (.inl z) z (.tmp z .nil) ⟨((-1), aW), ⟨some1 h, (su_ W z)⟩, z⟩
  ·rintro ⟨aX, aY⟩ bc ⟨rfl, G⟩
   replace h := aj
   try dsimp only at h G
   refine (show WL _ _ _ _ _ ((7, vi aX) :: _) _ from ?_)
   refine wY (Y.geq_i z z) z ?_
   obtain ⟨aZ, aG, h⟩ := lt1 h
   refine WL.yE (ya z) (congrArg vB aG.symm) z (nl (th (rt ?_)))
   exact At.res (.inl z) z (.tmp z .nil) ⟨(aZ, aY), ⟨some1 h, (su_ G z)⟩, z⟩
 ·rintro ⟨a2, a3⟩ aH ⟨rfl, H⟩
  replace h := ai
  try dsimp only at h H
  refine (show WL _ _ _ _ _ ((7, vB a2) :: _) _ from ?_)
  refine wY (ya z) z (nl (th (rt ?_)))
  obtain rfl := some1 h
  have aI : Stp [] (Lg.O0 A) w a3 aH := (tr_ (su_ o z) (su_ H z))
  exact At.res (.inl z) z (.tmp z .nil) ⟨z, (se_ aI z z)⟩
theorem c_otlp_form {A : Nat → Prop} {a0 : List api_Fld} {v0 : Value} {a1 : Int} {w : World} (hs0 : Sl rep_api_Fld w A v0 a0) {r0 : Bool} (h : otlp_form a0 a1 = some r0) : Rets Tryz.prog 135 [v0, vi a1] w (fun v w' => v = vB r0 ∧ Ext w w') := by
 unfold otlp_form at h
 refine Rets.enter Tryz.func135 z z ?_
 have ae : Sl rep_api_Fld w (imm (Lg.O0 A)) v0 a0 := (Sl.start hs0)
 refine (show WC _ _ _ _ [(0, v0), (1, vi a1)] _ from ?_)
 refine sq (rg (wY (ya z) z (nl (th (sq (rg (wY (ym z) z ?_)))))))
 obtain ⟨a3, ar, h⟩ := bnd h
 refine WL.call (vals := [v0, vi 4]) kok72 z z (c_wire_All (A := fun _ => True) (Sl.all ae) ar) ?_
 rintro au av ⟨_, rfl, ax, a4⟩
 obtain ⟨aq, a5, af, j⟩ := adoptE (Lg.O0 A) (fun k => 1) ax
 have ay : Sl rep_api_Fld av (frs aq) au a3 := Sl.adoptF a4 (fun k hk => ⟨hk, z⟩) af
 refine wY (Y.len ty70 z ay) z (wY (ym z) z ?_)
 have I := ae.i j z z
 obtain ⟨a6, az, h⟩ := bnd h
 refine WL.call (vals := [v0, vi 6]) kok72 z z (c_wire_All (A := fun _ => True) (Sl.all I) az) ?_
 rintro aA q ⟨_, rfl, aC, a7⟩
 obtain ⟨t, a8, ah, d⟩ := adoptE aq (fun k => 1) aC
 have aD : Sl rep_api_Fld q (frs t) aA a6 := Sl.adoptF a7 (fun k hk => ⟨hk, z⟩) ah
 refine wY (Y.len ty70 z aD) z ?_
 obtain ⟨c, ad, h⟩ := lt1 h
 refine WL.yE (ya z) (congrArg vi ad.symm) z ?_
 obtain ⟨l, ai, h⟩ := lt1 h
 refine WL.yE (ya z) (congrArg vi ai.symm) z (nl (th (sq (WC.block (sq (sq (rg (wY (ym z) z (wY (Y.eql_i z z) z ?_)))))))))
 refine wY (ym z) z ?_
 refine WL.cut 5 (σ := Unit) (fun _ w' => q = w') (fun _ => [(0, v0), (1, vi a1), (5, vi c), (6, vi l), (21, vB ((decide (a1 = 2)) && (!decide (w64 (c + l) = 1))))]) ?_ ?_
 ·refine WL.part 16 z (fun J => ?_) (fun J => ?_)
  ·refine ug z z (wY (ym z) z (ug z z (wY (ym z) z (ug z z (wY (Y.add_i z z) z (ug z z (wY (Y.neq_i z z) z (wY (Y.pick (b := true) z z) z (WL.ren (v' := vB ((decide (a1 = 2)) && (!decide (w64 (c + l) = 1)))) 21 z (congrArg vB (andT J)) ?_)))))))))
   exact nl (At.join () z (.cons z (.cons z (.cons z (.cons z (.cons z .nil))))))
  ·refine WL.gS z z z z (WL.gS z z z z (WL.gS z z z z (WL.gS z z z z (wY (Y.pick (b := false) z z) z (WL.ren (v' := vB ((decide (a1 = 2)) && (!decide (w64 (c + l) = 1)))) 21 z (congrArg vB (andF J)) ?_)))))
   exact nl (At.join () z (.cons z (.cons z (.cons z (.cons z (.cons z .nil))))))
 ·rintro _ _ rfl
  refine (show WL _ _ _ _ _ [(0, v0), (1, vi a1), (5, vi c), (6, vi l), (21, vB ((decide (a1 = 2)) && (!decide (w64 (c + l) = 1))))] _ from ?_)
  obtain ⟨bx, aE, h⟩ := lt1 h
  refine WL.yE (ya z) (congrArg vB aE.symm) z (nl (th ?_))
  rcases cnd h with ⟨K, h⟩ | ⟨K, h⟩
  ·refine WC.condT' z K (sk (th ?_))
   rcases cnd h with ⟨M, h⟩ | ⟨M, h⟩
   ·refine WC.condT' z M (sq (rg (wY (ya z) z (nl (th (rt (At.inBlockR (At.thenR ?_))))))))
    obtain rfl := some1 h
    have aF : Stp [] (Lg.O0 A) w t q := (tr_ (su_ j z) (su_ d z))
    exact At.res (.inl z) z (.tmp z .nil) ⟨z, (se_ aF z z)⟩
   ·refine WC.condF' z M (sk (At.inBlock (th (sq (rg (wY (ya z) z (nl (th (rt ?_)))))))))
    obtain rfl := some1 h
    have aG : Stp [] (Lg.O0 A) w t q := (tr_ (su_ j z) (su_ d z))
    exact At.res (.inl z) z (.tmp z .nil) ⟨z, (se_ aG z z)⟩
  ·refine WC.condF' z K (sq (rg (wY (ym z) z (wY (Y.neq_i z z) z (wY (ym z) z ?_)))))
   refine WL.cut 3 (σ := Unit) (fun _ w' => q = w') (fun _ => [(0, v0), (1, vi a1), (5, vi c), (27, vB ((!decide (a1 = 2)) && (decide (0 < l))))]) ?_ ?_
   ·refine WL.part 24 z (fun P => ?_) (fun P => ?_)
    ·refine ug z z (wY (ym z) z (ug z z (wY (Y.gtr_i z z) z (wY (Y.pick (b := true) z z) z (WL.ren (v' := vB ((!decide (a1 = 2)) && (decide (0 < l)))) 27 z (congrArg vB (andT P)) ?_)))))
     exact nl (At.join () z (.cons z (.cons z (.cons z (.cons z .nil)))))
    ·refine WL.gS z z z z (WL.gS z z z z (wY (Y.pick (b := false) z z) z (WL.ren (v' := vB ((!decide (a1 = 2)) && (decide (0 < l)))) 27 z (congrArg vB (andF P)) ?_)))
     exact nl (At.join () z (.cons z (.cons z (.cons z (.cons z .nil)))))
   ·rintro _ _ rfl
    refine (show WL _ _ _ _ _ [(0, v0), (1, vi a1), (5, vi c), (27, vB ((!decide (a1 = 2)) && (decide (0 < l))))] _ from ?_)
    obtain ⟨bz, aH, h⟩ := lt1 h
    refine WL.yE (ya z) (congrArg vB aH.symm) z (nl (th ?_))
    rcases cnd h with ⟨Q, h⟩ | ⟨Q, h⟩
    ·refine WC.condT' z Q (sk (th ?_))
     rcases cnd h with ⟨S, h⟩ | ⟨S, h⟩
     ·refine WC.condT' z S (sq (rg (wY (ya z) z (nl (th (rt (At.inBlockR (At.thenR ?_))))))))
      obtain rfl := some1 h
      have aI : Stp [] (Lg.O0 A) w t q := (tr_ (su_ j z) (su_ d z))
      exact At.res (.inl z) z (.tmp z .nil) ⟨z, (se_ aI z z)⟩
     ·refine WC.condF' z S (sk (At.inBlock (th (sq (rg (wY (ya z) z (nl (th (rt ?_)))))))))
      obtain rfl := some1 h
      have aJ : Stp [] (Lg.O0 A) w t q := (tr_ (su_ j z) (su_ d z))
      exact At.res (.inl z) z (.tmp z .nil) ⟨z, (se_ aJ z z)⟩
    ·refine WC.condF' z Q (sq (rg (wY (ym z) z (wY (Y.neq_i z z) z (wY (ym z) z ?_)))))
     obtain ⟨a9, h, aK⟩ := bnd h
     refine WL.cut 4 (σ := (Bool × Own)) (fun x w' => x.1 = a9 ∧ Stp [] t q x.2 w') (fun x => [(0, v0), (1, vi a1), (5, vi c), (34, vB x.1)]) ?_ ?_
     ·rcases cnd h with ⟨T, h⟩ | ⟨T, h⟩
      ·refine WL.ren 30 z (congrArg vB T) (ug z z (wY (ym z) z (ug z z (WL.buildSlice (O := t) (R := Rep.i) (vals := [(0, vi 31)]) 11 [vi 31] (xs := [31]) (by decide) ty113 ty3 (by decide) (by decide) (fe_ z) (by kernel_rfl) z ⟨[vi 31], [], z, z, z⟩ z ?_))))
       intro ba bb bp aa aL
       refine ug z z ?_
       have aN := (I.i d z z).i aa z z
       obtain ⟨bc, aO, h⟩ := bnd h
       refine WL.call (vals := [v0, ba]) kok137 z z (c_otlp_has (A := fun _ => True) (Sl.all aN) (aL.src.sl) aO) ?_
       rintro bq br ⟨rfl, aP⟩
       obtain ⟨bd, bf, bg, ak⟩ := adoptE bb (fun k => 1) aP
       refine wY (Y.pick (b := true) z z) z ?_
       exact nl (At.join (σ := (Bool × Own)) (bc, bd) ⟨some1 h, (tr_ (su_ aa z) (su_ ak z))⟩ (.cons z (.cons z (.cons z (.cons z .nil)))))
      ·refine WL.ren 30 z (congrArg vB T) (WL.gS z z z z (WL.gS z z z z (WL.gS z z z z (wY (Y.pick (b := false) z z) z ?_))))
       exact nl (At.join (σ := (Bool × Own)) (false, t) ⟨some1 h, (sr_ _ _ _)⟩ (.cons z (.cons z (.cons z (.cons z .nil)))))
     ·rintro ⟨bh, H⟩ U ⟨rfl, o⟩
      replace h := aK
      try dsimp only at h o
      refine (show WL _ _ _ _ _ [(0, v0), (1, vi a1), (5, vi c), (34, vB bh)] _ from ?_)
      refine wY (ya z) z (nl (th ?_))
      rcases cnd h with ⟨W, h⟩ | ⟨W, h⟩
      ·refine WC.condT' z W (sk (th ?_))
       rcases cnd h with ⟨X, h⟩ | ⟨X, h⟩
       ·refine WC.condT' z X (sq (rg (wY (ya z) z (nl (th (rt (At.inBlockR (At.thenR ?_))))))))
        obtain rfl := some1 h
        have aQ : Stp [] (Lg.O0 A) w H U := (tr_ (su_ j z) (tr_ (su_ d z) (su_ o z)))
        exact At.res (.inl z) z (.tmp z .nil) ⟨z, (se_ aQ z z)⟩
       ·refine WC.condF' z X (sk (At.inBlock (th (sq (rg (wY (ya z) z (nl (th (rt ?_)))))))))
        obtain rfl := some1 h
        have aR : Stp [] (Lg.O0 A) w H U := (tr_ (su_ j z) (tr_ (su_ d z) (su_ o z)))
        exact At.res (.inl z) z (.tmp z .nil) ⟨z, (se_ aR z z)⟩
      ·refine WC.condF' z W (sq (rg (wY (ym z) z (wY (Y.neq_i z z) z (wY (ym z) z ?_)))))
       obtain ⟨bi, h, aS⟩ := bnd h
       refine WL.cut 4 (σ := (Bool × Own)) (fun x w' => x.1 = bi ∧ Stp [] H U x.2 w') (fun x => [(1, vi a1), (5, vi c), (41, vB x.1)]) ?_ ?_
       ·rcases cnd h with ⟨Z, h⟩ | ⟨Z, h⟩
        ·refine WL.ren 37 z (congrArg vB Z) (ug z z (wY (ym z) z (ug z z (WL.buildSlice (O := H) (R := Rep.i) (vals := [(0, vi 8), (1, vi 9), (2, vi 10), (3, vi 11)]) 12 [vi 8, vi 9, vi 10, vi 11] (xs := [8, 9, 10, 11]) (by decide) ty113 ty3 (by decide) (by decide) (fe_ z) (by kernel_rfl) z ⟨[vi 8], [vi 9, vi 10, vi 11], z, z, ⟨[vi 9], [vi 10, vi 11], z, z, ⟨[vi 10], [vi 11], z, z, ⟨[vi 11], [], z, z, z⟩⟩⟩⟩ z ?_))))
         intro bj bk bs ab aT
         refine ug z z ?_
         have aX := ((I.i d z z).i o z z).i ab z z
         obtain ⟨bl, aY, h⟩ := bnd h
         refine WL.call (vals := [v0, bj]) kok137 z z (c_otlp_has (A := fun _ => True) (Sl.all aX) (aT.src.sl) aY) ?_
         rintro bt bu ⟨rfl, aZ⟩
         obtain ⟨bm, bn, a2, aj⟩ := adoptE bk (fun k => 1) aZ
         refine wY (Y.pick (b := true) z z) z ?_
         exact nl (At.join (σ := (Bool × Own)) (bl, bm) ⟨some1 h, (tr_ (su_ ab z) (su_ aj z))⟩ (.cons z (.cons z (.cons z .nil))))
        ·refine WL.ren 37 z (congrArg vB Z) (WL.gS z z z z (WL.gS z z z z (WL.gS z z z z (wY (Y.pick (b := false) z z) z ?_))))
         exact nl (At.join (σ := (Bool × Own)) (false, H) ⟨some1 h, (sr_ _ _ _)⟩ (.cons z (.cons z (.cons z .nil))))
       ·rintro ⟨bo, ac⟩ C ⟨rfl, r⟩
        replace h := aS
        try dsimp only at h r
        refine (show WL _ _ _ _ _ [(1, vi a1), (5, vi c), (41, vB bo)] _ from ?_)
        refine wY (ya z) z (nl (th ?_))
        rcases cnd h with ⟨D, h⟩ | ⟨D, h⟩
        ·refine WC.condT' z D (sk (th ?_))
         rcases cnd h with ⟨E, h⟩ | ⟨E, h⟩
         ·refine WC.condT' z E (sq (rg (wY (ya z) z (nl (th (rt (At.inBlockR (At.thenR ?_))))))))
          obtain rfl := some1 h
          have al : Stp [] (Lg.O0 A) w ac C := (tr_ (su_ j z) (tr_ (su_ d z) (tr_ (su_ o z) (su_ r z))))
          exact At.res (.inl z) z (.tmp z .nil) ⟨z, (se_ al z z)⟩
         ·refine WC.condF' z E (sk (At.inBlock (th (sq (rg (wY (ya z) z (nl (th (rt ?_)))))))))
          obtain rfl := some1 h
          have am : Stp [] (Lg.O0 A) w ac C := (tr_ (su_ j z) (tr_ (su_ d z) (tr_ (su_ o z) (su_ r z))))
          exact At.res (.inl z) z (.tmp z .nil) ⟨z, (se_ am z z)⟩
        ·refine WC.condF' z D (rg (wY (ym z) z (wY (Y.eql_i z z) z (wY (ym z) z ?_))))
         refine WL.cut 3 (σ := Unit) (fun _ w' => C = w') (fun _ => [(47, vB ((decide (a1 = 4)) && (decide (0 < c))))]) ?_ ?_
         ·refine WL.part 44 z (fun F => ?_) (fun F => ?_)
          ·refine ug z z (wY (ym z) z (ug z z (wY (Y.gtr_i z z) z (wY (Y.pick (b := true) z z) z (WL.ren (v' := vB ((decide (a1 = 4)) && (decide (0 < c)))) 47 z (congrArg vB (andT F)) ?_)))))
           exact nl (At.join () z (.cons z .nil))
          ·refine WL.gS z z z z (WL.gS z z z z (wY (Y.pick (b := false) z z) z (WL.ren (v' := vB ((decide (a1 = 4)) && (decide (0 < c)))) 47 z (congrArg vB (andF F)) ?_)))
           exact nl (At.join () z (.cons z .nil))
         ·rintro _ _ rfl
          refine (show WL _ _ _ _ _ [(47, vB ((decide (a1 = 4)) && (decide (0 < c))))] _ from ?_)
          obtain ⟨bw, an, h⟩ := lt1 h
          refine WL.yE (ya z) (congrArg vB an.symm) z (nl (th ?_))
          rcases cnd h with ⟨G, h⟩ | ⟨G, h⟩
          ·refine WC.condT' z G (sq (rg (wY (ya z) z (nl (th (rt (At.inBlockR (At.thenR ?_))))))))
           obtain rfl := some1 h
           have ao : Stp [] (Lg.O0 A) w ac C := (tr_ (su_ j z) (tr_ (su_ d z) (tr_ (su_ o z) (su_ r z))))
           exact At.res (.inl z) z (.tmp z .nil) ⟨z, (se_ ao z z)⟩
          ·refine WC.condF' z G (sk (At.inBlock (th (sq (rg (wY (ya z) z (nl (th (rt ?_)))))))))
           obtain rfl := some1 h
           have ap : Stp [] (Lg.O0 A) w ac C := (tr_ (su_ j z) (tr_ (su_ d z) (tr_ (su_ o z) (su_ r z))))
           exact At.res (.inl z) z (.tmp z .nil) ⟨z, (se_ ap z z)⟩
theorem c_slices_Grow_api_Pair_api_Pair {a1 : Int} {w : World} {r0 : List api_Pair} (h : slices_Grow_api_Pair_api_Pair a1 = some r0) : Rets Tryz.prog 154 [sn, vi a1] w (fun v w' => ∃ (u0 : Value), v = u0 ∧ Ext w w' ∧ RowF rep_api_Pair 67 w w' u0 r0) := by
  unfold slices_Grow_api_Pair_api_Pair at h
  rcases cnd h with ⟨hc, h⟩ | ⟨_, h⟩
  case inr => cases h
  obtain rfl := some1 h
  simp only [Bool.and_eq_true, decide_eq_true_eq] at hc
  have j : w64 (0 - 0) = 0 := by decide +kernel
  have l : w64 (a1 - w64 (0 - 0)) = a1 := by rw [j, Int.sub_zero]; unfold w64; omega
  refine Rets.enter Tryz.func154 z z ?_
  refine (show WC _ _ _ _ [(0, .slice none 0 0), (1, vi a1)] _ from ?_)
  refine sq (rg (wY (ya z) z (nl (th ?_))))
  refine sq (sq (rg ?_))
  refine wY (ym z) z ?_
  refine wY (Y.lss_i (b := 0) z z) z (nl (th ?_))
  refine WC.condF (congrArg (fun b => some (vB b)) (decide_eq_false (p := a1 < 0) (by omega))) (sk (th ?_))
  refine sq (sq (rg ?_))
  refine wY (ym z) z (wY (ym z) z (wY (Y.cap ty32 z) z (wY (ym z) z (wY (Y.lenv ty32 z) z ?_))))
  refine wY (Y.sub_i (a := 0) (b := 0) z z) z (WL.yE (Y.sub_i (a := a1) (b := w64 (0 - 0)) z z) (congrArg vi l) z ?_)
  refine wY (ya z) z (nl (th (sq (rg ?_))))
  refine wY (ym z) z ?_
  refine wY (Y.gtr_i (b := 0) z z) z (nl (th ?_))
  by_cases hp : 0 < a1
  · refine WC.condT (congrArg (fun b => some (vB b)) (decide_eq_true (p := 0 < a1) hp)) (rg ?_)
    refine wY (ym z) z (wY (ym z) z (wY (Y.cap ty32 z) z (wY (Y.sliceNil ty32 ty67 z z) z (wY (ym z) z ?_))))
    refine WL.appendMk (O := Lg.O0 (fun _ => False)) (R := rep_api_Pair) (u := (api_Pair.mk [] [])) 11 (by decide) ty32 ty3.u ty67 (by decide) (by decide) (by decide) z z ⟨hp, by unfold LIM; omega⟩ (fun _ _ => ⟨[vs []], [vs []], z, z, z⟩) z ?_
    intro C r t d o
    refine wY (ym z) z (wY (Y.lenv ty32 z) z ?_)
    refine WL.sliceOwn ty32 ty67 z z z o (show slc (List.replicate a1.toNat _) 0 0 = some [] from by unfold slc; rw [if_pos ⟨Int.le_refl _, Int.le_refl _, by rw [List.length_replicate]; omega⟩]; exact z) z ?_
    intro D q
    refine wY (ya z) z (nl (th ?_))
    refine sq (rg (wY (ym z) z (wY (ya z) z (nl (th (rt ?_))))))
    have c : Stp [] (Lg.O0 (fun _ => False)) w r t := (su_ d z)
    exact At.res (.inl z) z (.tmp z .nil) ⟨_, z, se_ c z z, OwnSl.outF q c low0 z⟩
  · refine WC.condF (congrArg (fun b => some (vB b)) (decide_eq_false (p := 0 < a1) hp)) (sk (th ?_))
    refine sq (rg (wY (ym z) z (wY (ya z) z (nl (th (rt ?_))))))
    exact At.res (.inl z) z (.tmp z .nil) ⟨_, z, Ext.refl w, RowF.nil⟩
theorem c_slices_Concat_api_Pair_api_Pair {A : Nat → Prop} {a0 : List (List api_Pair)} {v0 : Value} {w : World} (hs0 : Sl (Rep.sl rep_api_Pair) w A v0 a0) {r0 : List api_Pair} (h : slices_Concat_api_Pair_api_Pair a0 = some r0) : Rets Tryz.prog 136 [v0] w (fun v w' => ∃ (u0 : Value), v = u0 ∧ Ext w w' ∧ RowF rep_api_Pair 67 w w' u0 r0) := by
 unfold slices_Concat_api_Pair_api_Pair at h
 refine Rets.enter Tryz.func136 z z ?_
 have r : Sl (Rep.sl rep_api_Pair) w (imm (Lg.O0 A)) v0 a0 := (Sl.start hs0)
 refine (show WC _ _ _ _ [(0, v0)] _ from ?_)
 refine sq (rg (wY (ya z) z (nl (th (sq (rg (wY (ya z) z (nl (th ?_)))))))))
 refine sq (sq (rg (wY (ym z) z (wY (Y.len ty188 z r) z (wY (ym z) z (nl (th ?_)))))))
 obtain ⟨aY, h, ay⟩ := bnd h
 refine WC.join (σ := Int) (fun x w' => x = aY ∧ w = w') (fun x => [(0, v0), (3, vi x)]) ?_ ?_
 ·refine WC.block ?_
  obtain ⟨an, h, az⟩ := flow1 h
  obtain ⟨ao, h⟩ := loop_some h
  refine WC.joinB 0 (σ := Int) (fun x w' => an = .go x ∧ w = w') (fun x => [(0, v0), (3, vi x)]) ?_ ?_
  ·refine WC.loop (σ := (Int × Int)) (fun x k w' => loopN k (slices_Concat_api_Pair_api_Pair_lp1 a0) (x.1, x.2) = some an ∧ w = w') (fun x => [(0, v0), (3, vi x.1), (9, v0), (10, vi (a0.length : Int)), (11, vi x.2)]) (0, 0) ao (.cons z (.cons z (.cons z (.cons z (.cons z .nil))))) ⟨h, z⟩ ?_
   rintro ⟨j, J⟩ ao _ ⟨h, rfl⟩
   obtain ⟨aZ, bk, rfl, h, S⟩ := rnd1 h
   unfold slices_Concat_api_Pair_api_Pair_lp1 at h
   try dsimp only at h
   refine (show WC _ _ _ _ [(0, v0), (3, vi j), (9, v0), (10, vi (a0.length : Int)), (11, vi J)] _ from ?_)
   refine sq (rg (wY (Y.lss_i z z) z (nl (th (sq ?_)))))
   rcases cnd h with ⟨t, h⟩ | ⟨t, h⟩
   ·refine WC.condT' z t (sk (th (sq ?_)))
    obtain ⟨a1, h, aA⟩ := bnd h
    refine WC.join (σ := Int) (fun x w' => x = a1 ∧ w = w') (fun x => [(0, v0), (3, vi x), (9, v0), (10, vi (a0.length : Int)), (11, vi J)]) ?_ ?_
    ·refine WC.block (sq (rg ?_))
     obtain ⟨bl, aC, h⟩ := bnd h
     obtain ⟨bm, bb, bc, bg, aD, aE, aF, C, ac, aG⟩ := Sl.at2 r aC
     obtain ⟨a2, rfl, aH⟩ := ac
     replace C : CellsAt _ _ _ [a2] := C
     have ad := CAt.imm C aG
     refine wY (Y.indexAddr ty188 ty32 z aD z aE aF) z (wY (yl ty32 z z ad.at_) z (wY (ya z) z (nl (th (sq (rg (wY (ym z) z (wY (ym z) z (wY (Y.len ty32 z aH) z ?_)))))))))
     refine wY (Y.add_i z z) z ?_
     obtain ⟨T, Q, h⟩ := lt1 h
     refine WL.yE (ya z) (congrArg vi Q.symm) z (nl (th (sq (rg (wY (ym z) z (wY (Y.lss_i z z) z (nl (th ?_))))))))
     rcases cnd h with ⟨D, h⟩ | ⟨D, h⟩
     ·refine WC.condT' z D (rg ?_)
      cases h
     ·refine WC.condF' z D (sk (At.inBlock ?_))
      exact At.join (σ := Int) T ⟨some1 h, z⟩ (.cons z (.cons z (.cons z (.cons z (.cons z .nil)))))
    ·rintro l _ ⟨rfl, rfl⟩
     replace h := aA
     try dsimp only at h
     refine (show At _ _ _ [(0, v0), (3, vi l), (9, v0), (10, vi (a0.length : Int)), (11, vi J)] _ from ?_)
     refine th (rg (wY (Y.add_i z z) z (wY (ym z) z (nl ?_))))
     exact At.round (l, w64 (J + 1)) aZ (Nat.lt_succ_self _) ⟨next1 h S, z⟩ (.cons z (.cons z (.cons z (.cons z (.cons z .nil)))))
   ·refine WC.condF' z t (WC.exit (At.thenX (At.loopX ?_)))
    exact At.hitB (σ := Int) j ⟨brk1 h S, z⟩ (.cons z (.cons z .nil))
  ·rintro o _ ⟨rfl, rfl⟩
   replace h := flowK_go az
   try dsimp only at h
   refine (show At _ _ _ [(0, v0), (3, vi o)] _ from ?_)
   refine At.inBlockHit ?_
   exact At.join (σ := Int) o ⟨some1 h, z⟩ (.cons z (.cons z .nil))
 ·rintro q _ ⟨rfl, rfl⟩
  replace h := ay
  try dsimp only at h
  refine (show At _ _ _ [(0, v0), (3, vi q)] _ from ?_)
  refine th (sq (rg (wY (ym z) z ?_)))
  obtain ⟨ap, aI, h⟩ := bnd h
  refine WL.call (vals := [sn, vi q]) kok154 z z (c_slices_Grow_api_Pair_api_Pair aI) ?_
  rintro E F ⟨_, rfl, aJ, a3⟩
  obtain ⟨U, a4, W, K⟩ := adoptE (Lg.O0 A) (fun k => if ob E = some k then 11 else 1) aJ
  have aK : OwnSl 11 rep_api_Pair 67 U F E ap := RowF.adopt 11 flat_api_Pair a3 W (fun k hk => if_pos hk)
  refine wY (ya z) z (nl (th (sq (sq (rg (wY (ym z) z ?_))))))
  have X := r.i K z z
  refine wY (Y.len ty188 z X) z (wY (ym z) z (nl (th (WC.block ?_))))
  obtain ⟨aq, h, aL⟩ := flow1 h
  obtain ⟨ar, h⟩ := loop_some h
  refine WC.joinB 2 (σ := (List api_Pair × Own × Value)) (fun x w' => aq = .go x.1 ∧ Stp [11, 1001] U F x.2.1 w' ∧ OwnSl 1002 rep_api_Pair 67 x.2.1 w' x.2.2 x.1) (fun x => [(6, x.2.2)]) ?_ ?_
  ·obtain ⟨a5, ae, aM⟩ := OwnSl.rlb 1001 rfl aK
   refine WC.loop (σ := (List api_Pair × Int × Own × Value)) (fun x k w' => loopN k (slices_Concat_api_Pair_api_Pair_lp2 a0) (x.1, x.2.1) = some aq ∧ Stp [11, 1001] U F x.2.2.1 w' ∧ OwnSl 1001 rep_api_Pair 67 x.2.2.1 w' x.2.2.2 x.1) (fun x => [(6, x.2.2.2), (25, v0), (26, vi (a0.length : Int)), (27, vi x.2.1)]) (ap, 0, a5, E) ar (.cons z (.cons z (.cons z (.cons z .nil)))) ⟨h, (su_ ae z), aM⟩ ?_
   rintro ⟨d, au, bn, av⟩ ar bh ⟨h, c, G⟩
   obtain ⟨a6, bo, rfl, h, Z⟩ := rnd1 h
   unfold slices_Concat_api_Pair_api_Pair_lp2 at h
   try dsimp only at h c G
   refine (show WC _ _ _ _ [(6, av), (25, v0), (26, vi (a0.length : Int)), (27, vi au)] _ from ?_)
   refine sq (rg (wY (Y.lss_i z z) z (nl (th (sq ?_)))))
   rcases cnd h with ⟨H, h⟩ | ⟨H, h⟩
   ·refine WC.condT' z H (sk (th (sq (WC.block (sq (rg ?_))))))
    obtain ⟨bp, aN, h⟩ := bnd h
    have aO := X.i c z z
    obtain ⟨bq, bd, bf, bi, aP, aQ, aR, I, af, aS⟩ := Sl.at2 aO aN
    obtain ⟨a7, rfl, aT⟩ := af
    replace I : CellsAt _ _ _ [a7] := I
    have ah := CAt.imm I aS
    refine wY (Y.indexAddr ty188 ty32 z aP z aQ aR) z (wY (yl ty32 z z ah.at_) z (wY (ya z) z (nl (th (rg (wY (ym z) z (wY (ym z) z ?_)))))))
    obtain ⟨aU, ai, h⟩ := bnd h
    refine WL.append (by decide) ty32 ty67 z (by decide) z z G (Sl.src aT) ai z ?_
    intro a8 a9 bj aj ak
    refine wY (ya z) z (nl (At.inBlock (th (rg (wY (Y.add_i z z) z (wY (ym z) z (nl ?_)))))))
    exact At.round (aU, w64 (au + 1), a9, a8) a6 (Nat.lt_succ_self _) ⟨next1 h Z, (tr_ (su_ c z) (su_ aj z)), ak⟩ (.cons z (.cons z (.cons z (.cons z .nil))))
   ·refine WC.condF' z H (WC.exit (At.thenX (At.loopX ?_)))
    obtain ⟨aW, aa, al⟩ := OwnSl.rlb 1002 rfl G
    exact At.hitB (σ := (List api_Pair × Own × Value)) (d, aW, av) ⟨brk1 h Z, (tr_ (su_ c z) (su_ aa z)), al⟩ (.cons z .nil)
  ·rintro ⟨am, ba, ax⟩ aX ⟨rfl, M, ab⟩
   replace h := flowK_go aL
   try dsimp only at h M ab
   refine (show At _ _ _ [(6, ax)] _ from ?_)
   refine At.inBlockHit (th (sq (rg (wY (ym z) z (wY (ya z) z (nl (th (rt ?_))))))))
   obtain rfl := some1 h
   have P : Stp [11, 1001] (Lg.O0 A) w ba aX := (tr_ (su_ K z) (su_ M z))
   exact At.res (.inl z) z (.tmp z .nil) ⟨ax, z, (se_ P z z), (OwnSl.outF ab P low0 z)⟩
theorem c_pack_Zag {a0 : UInt64} {w : World} {r0 : Int} (h : pack_Zag a0 = some r0) : Rets Tryz.prog 158 [vu a0] w (fun v w' => v = vi r0 ∧ Ext w w') := by
 unfold pack_Zag at h
 refine Rets.enter Tryz.func158 z z ?_
 refine (show WC _ _ _ _ [(0, vu a0)] _ from ?_)
 refine sq (rg (wY (ya z) z (nl (th (sq (rg (wY (ym z) z (wY (Y.shr_uu (m := 1) z z) z (wY (Y.conv_ui ty33.u ty3.u z) z ?_)))))))))
 refine wY (ym z) z (wY (Y.and_u (b := 1) z z) z (wY (Y.conv_ui ty33.u ty3.u z) z (wY (Y.neg_i z) z (wY (Y.xor_i z z) z ?_))))
 obtain ⟨j, c, h⟩ := lt1 h
 refine WL.yE (ya z) (congrArg vi c.symm) z (nl (th (rt ?_)))
 obtain rfl := some1 h
 have d : Stp [] (Lg.O0 (fun _ => False)) w (Lg.O0 (fun _ => False)) w := (sr_ _ _ _)
 exact At.res (.inl z) z (.tmp z .nil) ⟨z, (se_ d z z)⟩
theorem c_otlp_reader_wide {v0_1 : Value} {a0 : otlp_reader} {b0 : Nat} {a1 : UInt64} {w : World} (hb0 : w.heap[b0]? = some (.cells (List.toArray [vi a0.e, v0_1]) 101 (0, 0))) {r0 : Int} {q0 : otlp_reader} (h : otlp_reader_wide a0 a1 = some (r0, q0)) : Rets Tryz.prog 138 [pt b0 0, vu a1] w (fun v w' => v = vi r0 ∧ Mod (fun k => k = b0) w w' ∧ w'.heap[b0]? = some (.cells (List.toArray [vi q0.e, v0_1]) 101 (0, 0))) := by
 unfold otlp_reader_wide at h
 refine Rets.enter Tryz.func138 z z ?_
 have C : Blk 3 (Lg.OB b0 3 (Lg.O0 (fun _ => False))) w b0 101 [vi a0.e, v0_1] := ⟨(if_pos z), hb0⟩
 refine (show WC _ _ _ _ [(0, pt b0 0), (1, vu a1)] _ from ?_)
 refine sq (rg (wY (ya z) z (nl (th (sq (rg (wY (ym z) z ?_)))))))
 obtain ⟨c, D, h⟩ := bnd h
 refine WL.call (vals := [vu a1]) kok158 z z (c_pack_Zag D) ?_
 rintro U E ⟨rfl, F⟩
 obtain ⟨K, M, P, l⟩ := adoptE (Lg.OB b0 3 (Lg.O0 (fun _ => False))) (fun k => 1) F
 refine wY (ya z) z (nl (th (sq (rg (wY (ym z) z (wY (ym z) z (wY (Y.gtr_i z z) z (wY (ym z) z ?_))))))))
 refine WL.cut 3 (σ := Unit) (fun _ w' => E = w') (fun _ => [(5, vi c), (8, pt b0 0), (14, vB ((decide (1099511627776 < c)) || (decide (c < (-1099511627776)))))]) ?_ ?_
 ·refine WL.part 11 z (fun d => ?_) (fun d => ?_)
  ·refine WL.gS z z z z (WL.gS z z z z (wY (Y.pick (b := true) z z) z (WL.ren (v' := vB ((decide (1099511627776 < c)) || (decide (c < (-1099511627776))))) 14 z (congrArg vB (orT d)) ?_)))
   exact nl (At.join () z (.cons z (.cons z (.cons z .nil))))
  ·refine ug z z (wY (ym z) z (ug z z (wY (Y.lss_i z z) z (wY (Y.pick (b := false) z z) z (WL.ren (v' := vB ((decide (1099511627776 < c)) || (decide (c < (-1099511627776))))) 14 z (congrArg vB (orF d)) ?_)))))
   exact nl (At.join () z (.cons z (.cons z (.cons z .nil))))
 ·rintro _ _ rfl
  refine (show WL _ _ _ _ _ [(5, vi c), (8, pt b0 0), (14, vB ((decide (1099511627776 < c)) || (decide (c < (-1099511627776)))))] _ from ?_)
  have j := C.st l z
  obtain ⟨Q, G, h⟩ := bnd h
  refine WL.call (vals := [pt b0 0, vB ((decide (1099511627776 < c)) || (decide (c < (-1099511627776)))), vi 4]) kok113 z z (c_otlp_reader_fail (a0 := a0) j.blk G) ?_
  rintro W o ⟨rfl, H, S⟩
  obtain ⟨t, q, T, r⟩ := adopt K (fun k => 1) [3] H (memB j.lab rfl)
  have I : Blk 3 t o b0 101 [vi Q.e, v0_1] := Blk.adopt j q S
  refine nl (th (sq (rg (wY (ym z) z (wY (ya z) z (nl (th (rt ?_))))))))
  obtain ⟨rfl, rfl⟩ := tup2 h
  have J : Stp [3] (Lg.OB b0 3 (Lg.O0 (fun _ => False))) w t o := (tr_ (su_ l z) (su_ r z))
  exact At.res (.inl z) z (.tmp z .nil) ⟨z, (Stp.modL J sB1 z z), I.blk⟩
theorem c_wire_Unpacked {A : Nat → Prop} {a0 : List UInt8} {v0 : Value} {w : World} (hs0 : Sl Rep.b w A v0 a0) {r0 : List UInt64} {r1 : Int} (h : wire_Unpacked a0 = some (r0, r1)) : Rets Tryz.prog 159 [v0] w (fun v w' => ∃ (u0 : Value), v = tp [u0, vi r1] ∧ Ext w w' ∧ RowF Rep.u 33 w w' u0 r0) := by
 unfold wire_Unpacked at h
 refine Rets.enter Tryz.func159 z z ?_
 have X : Sl Rep.b w (imm (Lg.O0 A)) v0 a0 := (Sl.start hs0)
 refine (show WC _ _ _ _ [(0, v0)] _ from ?_)
 refine sq (rg (wY (ya z) z (wY (ya z) z (nl (th (sq (rg (wY (ya z) z (nl ?_)))))))))
 refine th (sq (sq (rg (wY (ya z) z (nl (th (WC.block ?_)))))))
 obtain ⟨Q, h, D⟩ := flow1 h
 obtain ⟨S, h⟩ := loop_some h
 refine WC.joinB 0 (σ := (List UInt64 × Own × Value)) (fun x w' => Q = .go x.1 ∧ Stp [1001] (Lg.O0 A) w x.2.1 w' ∧ OwnSl 1002 Rep.u 33 x.2.1 w' x.2.2 x.1) (fun x => [(4, x.2.2)]) ?_ ?_
 ·refine WC.loop (σ := (List UInt64 × Int × Own × Value)) (fun x k w' => loopN k (wire_Unpacked_lp1 a0) (x.1, x.2.1) = some Q ∧ Stp [1001] (Lg.O0 A) w x.2.2.1 w' ∧ OwnSl 1001 Rep.u 33 x.2.2.1 w' x.2.2.2 x.1) (fun x => [(0, v0), (4, x.2.2.2), (5, vi x.2.1)]) ([], 0, (Lg.O0 A), sn) S (.cons z (.cons z (.cons z .nil))) ⟨h, (sr_ _ _ _), (OwnSl.nil 1001 Rep.u 33)⟩ ?_
  rintro ⟨I, E, am, T⟩ S ay ⟨h, c, j⟩
  obtain ⟨an, aD, rfl, h, l⟩ := rnd1 h
  unfold wire_Unpacked_lp1 at h
  try dsimp only at h c j
  refine (show WC _ _ _ _ [(0, v0), (4, T), (5, vi E)] _ from ?_)
  refine sq (sq (rg (wY (ym z) z (wY (ym z) z ?_))))
  have F := X.i c z z
  refine wY (Y.len ty51 z F) z (wY (Y.lss_i z z) z (nl (th ?_)))
  rcases cnd h with ⟨o, h⟩ | ⟨o, h⟩
  ·refine WC.condT' z o (sk (th (WC.block (sq (rg (wY (ym z) z (wY (ym z) z ?_)))))))
   obtain ⟨⟨r, aE, aF⟩, Z, h⟩ := bnd h
   refine WL.call (vals := [v0, vi E]) kok153 z z (c_wire_GetVar (A := fun _ => True) (Sl.all F) Z) ?_
   rintro az aa ⟨rfl, ab⟩
   obtain ⟨U, ao, ap, d⟩ := adoptE am (fun k => 1) ab
   refine wY (ym z) z (wY (yx z z) z (wY (yx z z) z (wY (yx z z) z (wY (ya z) z (wY (ya z) z (wY (ya z) z (nl (th (sq ?_)))))))))
   refine sq (rg (wY (ym z) z (wY (Y.neq_i z z) z (nl (th ?_)))))
   rcases cnd h with ⟨q, h⟩ | ⟨q, h⟩
   ·refine WC.condT' z q (sq (rg (wY (ym z) z (wY (ya z) z (wY (ya z) z (nl (th (rt (At.thenR ?_)))))))))
    refine At.inBlockR (At.loopR ?_)
    have h := outr1 h l D
    refine At.joinBR (At.inBlockR (At.thenR ?_))
    obtain ⟨rfl, rfl⟩ := tup2 h
    have ac : Stp [1001] (Lg.O0 A) w U aa := (tr_ (su_ c z) (su_ d z))
    exact At.res (.inl z) z (.tmp z (.tmp z .nil)) ⟨sn, z, (se_ ac z z), RowF.nil⟩
   ·refine WC.condF' z q (sk (th (sq (rg (wY (ym z) z (wY (ym z) z (WL.buildSlice (O := U) (R := Rep.u) (vals := [(0, vu r)]) 11 [vu r] (xs := [r]) (by decide) ty34 ty33 (by decide) (by decide) (fe_ z) (by kernel_rfl) z ⟨[vu r], [], z, z, z⟩ z ?_)))))))
    intro aG aH aA t ad
    obtain ⟨ae, J, h⟩ := bnd h
    have ah := (j.st d z z z).st t z z z
    refine WL.append (by decide) ty34 ty33 z (by decide) z z ah ad.src J z ?_
    intro aq ar aC K ai
    refine wY (ya z) z (nl (th (rg (wY (ym z) z (wY (ym z) z (wY (Y.add_i z z) z ?_))))))
    obtain ⟨aj, M, h⟩ := lt1 h
    refine WL.yE (ya z) (congrArg vi M.symm) z (nl (At.inBlock ?_))
    exact At.round (ae, aj, ar, aq) an (Nat.lt_succ_self _) ⟨next1 h l, (tr_ (su_ c z) (tr_ (su_ d z) (tr_ (su_ t z) (su_ K z)))), ai⟩ (.cons z (.cons z (.cons z .nil)))
  ·refine WC.condF' z o (WC.exit (At.thenX (At.loopX ?_)))
   obtain ⟨au, P, ak⟩ := OwnSl.rlb 1002 rfl j
   exact At.hitB (σ := (List UInt64 × Own × Value)) (I, au, T) ⟨brk1 h l, (tr_ (su_ c z) (su_ P z)), ak⟩ (.cons z .nil)
 ·rintro ⟨ax, av, W⟩ al ⟨rfl, C, G⟩
  replace h := flowK_go D
  try dsimp only at h C G
  refine (show At _ _ _ [(4, W)] _ from ?_)
  refine At.inBlockHit (th (sq (rg (wY (ym z) z (wY (ya z) z (wY (ya z) z (nl (th (rt ?_)))))))))
  obtain ⟨rfl, rfl⟩ := tup2 h
  have H : Stp [1001] (Lg.O0 A) w av al := (su_ C z)
  exact At.res (.inl z) z (.tmp z (.tmp z .nil)) ⟨W, z, (se_ H z z), (OwnSl.outF G H low0 z)⟩
theorem c_otlp_reader_side {A : Nat → Prop} {v0_1 : Value} {a0 : otlp_reader} {b0 : Nat} {a1 : List UInt8} {v1 : Value} {w : World} (hb0 : w.heap[b0]? = some (.cells (List.toArray [vi a0.e, v0_1]) 101 (0, 0))) (hs1 : Sl Rep.b w A v1 a1) (hA : ∀ k, A k → k ≠ b0) {r0 : api_Side} {q0 : otlp_reader} (h : otlp_reader_side a0 a1 = some (r0, q0)) : Rets Tryz.prog 139 [pt b0 0, v1] w (fun v w' => ∃ (ac : Value), v = ag [vi r0.Offset, ac] ∧ Mod (fun k => k = b0) w w' ∧ RowF Rep.u 33 w w' ac r0.Counts ∧ w'.heap[b0]? = some (.cells (List.toArray [vi q0.e, v0_1]) 101 (0, 0))) := by
 unfold otlp_reader_side at h
 refine Rets.enter Tryz.func139 z z ?_
 have bf : Blk 3 (Lg.OB b0 3 (Lg.O0 A)) w b0 101 [vi a0.e, v0_1] := ⟨(if_pos z), hb0⟩
 have bg : Sl Rep.b w (imm (Lg.OB b0 3 (Lg.O0 A))) v1 a1 := (Sl.OB (Sl.start hs1) (fun k hk => (hA k (O0_A k hk))))
 refine (show WC _ _ _ _ [(0, pt b0 0), (1, v1)] _ from ?_)
 refine sq (rg (WL.alloc (O := (Lg.OB b0 3 (Lg.O0 A))) 11 [vi 0, sn] ty36 z z ?_))
 intro cm bT cc J bh
 refine nl (th (sq (rg (wY (ym z) z (wY (ym z) z (WL.makeMap (O := bT) 12 z ?_))))))
 intro bU a6 cd t bi
 refine WL.insert (a := 1) (b := 0) ty104.u ty3.u z z z bi z ?_
 intro ce C S
 replace S : MBlk _ _ _ _ [(1, 0)] := S
 refine WL.insert (a := 2) (b := 2) ty104.u ty3.u z z z S z ?_
 intro cf D K
 replace K : MBlk _ _ _ _ [(1, 0), (2, 2)] := K
 refine wY (ym z) z ?_
 have M := (((bf.st J z).st t z).st C z).st D z
 have bp := (((bg.i J z z).i t z z).i C z z).i D z z
 obtain ⟨⟨bW, a7⟩, bq, h⟩ := bnd h
 refine WL.call (vals := [pt b0 0, v1, Value.map (some bU)]) kok73 z z (c_otlp_reader_open (A := out [3] a6) (a0 := a0) M.blk (Sl.notin (L := [3]) bp z z) ⟨_, z, (out_lab K.lab z), K.blk⟩ (fun k hk => out_ne M.lab z k hk) bq) ?_
 rintro T ad ⟨_, rfl, br, bX, bY⟩
 obtain ⟨ae, af, ah, W⟩ := adopt a6 (fun k => 1) [3] br (memB M.lab rfl)
 have ai : Sl rep_api_Fld ad (frs ae) T bW := Sl.adoptF bX (fun k hk => ⟨hk, z⟩) ah
 have bs : Blk 3 ae ad b0 101 [vi a7.e, v0_1] := Blk.adopt M af bY
 refine wY (ya z) z (nl (th (sq (rg (wY (ym z) z (wY (ym z) z ?_))))))
 obtain ⟨a8, bt, h⟩ := bnd h
 refine WL.call (vals := [T, vi 1]) kok114 z z (c_otlp_last (A := fun _ => True) (Sl.all ai) bt) ?_
 rintro cg bu ⟨bZ, rfl, bw, b1⟩
 obtain ⟨a9, b2, aj, E⟩ := adoptE ae (fun k => 1) bw
 have ch : Sl Rep.b bu (frs a9) bZ a8.B := Sl.adoptF b1 (fun k hk => ⟨hk, z⟩) aj
 refine wY (Y.fieldSc ty72.u z z z ty33 z z z) z ?_
 have U := bs.st E z
 obtain ⟨⟨l, ba⟩, bx, h⟩ := bnd h
 refine WL.call (vals := [pt b0 0, vu a8.V]) kok138 z z (c_otlp_reader_wide (a0 := (otlp_reader.mk a7.e a0.out)) U.blk bx) ?_
 rintro ci bz ⟨rfl, bA, b3⟩
 obtain ⟨bb, ak, b4, P⟩ := adopt a9 (fun k => 1) [3] bA (memB U.lab rfl)
 have bB : Blk 3 bb bz b0 101 [vi ba.e, v0_1] := Blk.adopt U ak b3
 refine wY (yb (vals := [(0, vi l)]) (cells := [vi l, sn]) (fe_ z) (by kernel_rfl)) z (WL.alloc (O := bb) 13 [vi 0, sn] ty36 z z ?_)
 intro cn b5 cj F bC
 refine WL.store (v := ag [vi l, sn]) (cells' := [vi l, sn]) ty36 z z bC z (le_ z) z z ?_
 intro ck G bD
 refine nl (th (sq (rg (wY (ym z) z ?_))))
 have bI := (((ai.f E z).f P z).f F z).f G z
 obtain ⟨b6, bJ, h⟩ := bnd h
 refine WL.call (vals := [T, vi 2]) kok114 z z (c_otlp_last (A := fun _ => True) (Sl.all bI) bJ) ?_
 rintro cl bK ⟨bc, rfl, bL, b7⟩
 obtain ⟨bd, b8, al, H⟩ := adoptE b5 (fun k => 1) bL
 have aq : Sl Rep.b bK (frs bd) bc b6.B := Sl.adoptF b7 (fun k hk => ⟨hk, z⟩) al
 refine wY (Y.fieldSc ty72.u z z z ty51 z z z) z ?_
 obtain ⟨⟨bM, am⟩, ar, h⟩ := bnd h
 refine WL.call (vals := [bc]) kok159 z z (c_wire_Unpacked (A := fun _ => True) (Sl.all aq) ar) ?_
 rintro b9 au ⟨an, rfl, av, bO⟩
 obtain ⟨ao, bR, aa, o⟩ := adoptE bd (fun k => if ob an = some k then 14 else 1) av
 have ax : OwnSl 14 Rep.u 33 ao au an bM := RowF.adopt 14 Flat.u bO aa (fun k hk => if_pos hk)
 refine wY (ym z) z (wY (yx z z) z (wY (yx z z) z (wY (ya z) z (wY (ya z) z (nl (th (sq (rg (wY (ym z) z ?_)))))))))
 refine wY (ym z) z (wY (Y.neq_i z z) z (wY (ym z) z ?_))
 have Q := (((bB.st F z).st G z).st H z).st o z
 obtain ⟨bP, aC, h⟩ := bnd h
 refine WL.call (vals := [pt b0 0, vB (!decide (am = 0)), vi am]) kok113 z z (c_otlp_reader_fail (a0 := (otlp_reader.mk ba.e a0.out)) Q.blk aC) ?_
 rintro ca aD ⟨rfl, aE, bQ⟩
 obtain ⟨ap, ab, bS, q⟩ := adopt ao (fun k => 1) [3] aE (memB Q.lab rfl)
 have aF : Blk 3 ap aD b0 101 [vi bP.e, v0_1] := Blk.adopt Q ab bQ
 refine nl (th (sq (rg (wY (ym z) z (wY (yf fo36_1 z) z ?_)))))
 have X := ax.st q z z z
 have aG := h
 obtain ⟨c, d, j, rfl⟩ := X.shape
 have h := aG
 have aJ := ((bD.st H z).st o z).st q z
 refine WL.store (v := (vl c d j)) (cells' := [vi l, (vl c d j)]) ty34 z z aJ z (le_ z) z z ?_
 intro cb r aK
 refine nl (th (sq (rg (wY (yL ty36 z z (aK.cells 0 [vi l, (vl c d j)] z) z) z ?_))))
 have aX := (((((((((((bh.st t z).st C z).st D z).st W z).st E z).st P z).st F z).st G z).st H z).st o z).st q z).st r z
 refine WL.store (v := ag [vi l, (vl c d j)]) (cells' := [vi l, (vl c d j)]) ty36 z z aX z (le_ z) z z ?_
 intro aY I aZ
 refine nl (th (rt ?_))
 obtain ⟨rfl, rfl⟩ := tup2 h
 have Z : Stp [3, 11, 12, 13] (Lg.OB b0 3 (Lg.O0 A)) w ap aY := (tr_ (su_ J z) (tr_ (su_ t z) (tr_ (su_ C z) (tr_ (su_ D z) (tr_ (su_ W z) (tr_ (su_ E z) (tr_ (su_ P z) (tr_ (su_ F z) (tr_ (su_ G z) (tr_ (su_ H z) (tr_ (su_ o z) (tr_ (su_ q z) (tr_ (su_ r z) (su_ I z))))))))))))))
 have a3 := (X.st r z z z).st I z z z
 have a5 := (aF.st r z).st I z
 exact At.res (.inl z) z (.cell z (aZ.runAg 0 [vi l, (vl c d j)] ty36 z z z) .nil) ⟨(vl c d j), z, (Stp.modL Z sB1 z z), (OwnSl.outF a3 Z (lowB low0 z z) z), a5.blk⟩
theorem c_otlp_Decode {A : Nat → Prop} {a0 : List UInt8} {v0 : Value} {w : World} (hs0 : Sl Rep.b w A v0 a0) {r0 : List api_Point} {r1 : Int} (h : otlp_Decode a0 = some (r0, r1)) : Rets Tryz.prog 40 [v0] w (fun v w' => ∃ (u0 : Value), v = tp [u0, vi r1] ∧ Ext w w' ∧ Sl rep_api_Point w' (fun k => w.heap.size ≤ k) u0 r0) := by
 unfold otlp_Decode at h
 refine Rets.enter Tryz.func40 z z ?_
 have xq : Sl Rep.b w (imm (Lg.O0 A)) v0 a0 := (Sl.start hs0)
 refine (show WC _ _ _ _ [(0, v0)] _ from ?_)
 refine sq (rg (wY (ya z) z (wY (ya z) z (nl (th (sq (rg (wY (yb (vals := []) (cells := [vi 0, sn]) (fe_ z) (by kernel_rfl)) z (WL.box (O := (Lg.O0 A)) 11 [vi 0, sn] z z z ?_)))))))))
 intro c zN B7 bL xr
 refine wY (ya z) z (nl (th (sq (sq (rg (wY (ym z) z (wY (ym z) z (WL.makeMap (O := zN) 12 z ?_))))))))
 intro zO xl B8 bE xt
 refine WL.insert (a := 1) (b := 2) ty104.u ty3.u z z z xt z ?_
 intro B9 bG dH
 replace dH : MBlk _ _ _ _ [(1, 2)] := dH
 refine wY (ym z) z ?_
 have dI := (xr.st bE z).st bG z
 have xx := ((xq.i bL z z).i bE z z).i bG z z
 obtain ⟨⟨zP, xm⟩, xy, h⟩ := bnd h
 refine WL.call (vals := [pt c 0, v0, Value.map (some zO)]) kok73 z z (c_otlp_reader_open (A := out [11] xl) (a0 := (otlp_reader.mk 0 [])) dI.blk (Sl.notin (L := [11]) xx z z) ⟨_, z, (out_lab dH.lab z), dH.blk⟩ (fun k hk => out_ne dI.lab z k hk) xy) ?_
 rintro ik il ⟨_, rfl, xz, zQ, zR⟩
 obtain ⟨im, io, ip, bQ⟩ := adopt xl (fun k => 1) [11] xz (memB dI.lab rfl)
 have xA : Sl rep_api_Fld il (frs im) ik zP := Sl.adoptF zQ (fun k hk => ⟨hk, z⟩) ip
 have xB : Blk 11 im il c 101 [vi xm.e, sn] := Blk.adopt dI io zR
 obtain ⟨ci, xC, h⟩ := bnd h
 refine WL.call (vals := [ik, vi 1]) kok72 z z (c_wire_All (A := fun _ => True) (Sl.all xA) xC) ?_
 rintro bZ dJ ⟨_, rfl, xD, zS⟩
 obtain ⟨e1, zT, iq, bM⟩ := adoptE im (fun k => 1) xD
 have ir : Sl rep_api_Fld dJ (frs e1) bZ ci := Sl.adoptF zS (fun k hk => ⟨hk, z⟩) iq
 refine wY (Y.len ty70 z ir) z (wY (ym z) z (nl (th ?_)))
 obtain ⟨zV, h, xE⟩ := bnd h
 refine WC.join (σ := (Int × List api_Point × Own × Value)) (fun x w' => (x.1, x.2.1) = zV ∧ Stp [11, 13, 14, 15, 16, 17, 19, 20, 21, 22, 23, 24, 25, 28, 30, 31, 1001, 1002, 1006, 1007, 1008, 1009, 1010, 1011, 1012, 1013, 1014, 1020, 1021] e1 dJ x.2.2.1 w' ∧ OwnSl 1016 (frR rep_api_Point w.heap.size) 40 x.2.2.1 w' x.2.2.2 x.2.1 ∧ Blk 11 x.2.2.1 w' c 101 [vi x.1, x.2.2.2]) (fun x => [(4, pt c 0)]) ?_ ?_
 ·refine WC.block ?_
  obtain ⟨xn, h, xG⟩ := flow1 h
  obtain ⟨xo, h⟩ := loop_some h
  refine WC.joinB 0 (σ := (Int × List api_Point × Own × Value)) (fun x w' => xn = .go (x.1, x.2.1) ∧ Stp [11, 13, 14, 15, 16, 17, 19, 20, 21, 22, 23, 24, 25, 28, 30, 31, 1001, 1002, 1006, 1007, 1008, 1009, 1010, 1011, 1012, 1013, 1020, 1021] e1 dJ x.2.2.1 w' ∧ OwnSl 1014 (frR rep_api_Point w.heap.size) 40 x.2.2.1 w' x.2.2.2 x.2.1 ∧ Blk 11 x.2.2.1 w' c 101 [vi x.1, x.2.2.2]) (fun x => [(4, pt c 0)]) ?_ ?_
  ·have xH := xB.st bM z
   refine WC.loop (σ := (Int × List api_Point × Int × Own × Value)) (fun x k w' => loopN k (otlp_Decode_lp1 ci) (x.1, x.2.1, x.2.2.1) = some xn ∧ Stp [11, 13, 14, 15, 16, 17, 19, 20, 21, 22, 23, 24, 25, 28, 30, 31, 1001, 1002, 1006, 1007, 1008, 1009, 1010, 1011, 1012, 1013, 1020, 1021] e1 dJ x.2.2.2.1 w' ∧ OwnSl 1013 (frR rep_api_Point w.heap.size) 40 x.2.2.2.1 w' x.2.2.2.2 x.2.1 ∧ Blk 11 x.2.2.2.1 w' c 101 [vi x.1, x.2.2.2.2]) (fun x => [(4, pt c 0), (18, bZ), (19, vi (ci.length : Int)), (20, vi x.2.2.1)]) (xm.e, [], 0, e1, sn) xo (.cons z (.cons z (.cons z (.cons z .nil)))) ⟨h, (sr_ _ _ _), (OwnSl.nil 1013 (frR rep_api_Point w.heap.size) 40), xH⟩ ?_
   rintro ⟨xp, gm, cF, zW, gn⟩ xo Ca ⟨h, bO, fz, fA⟩
   obtain ⟨zX, Cx, rfl, h, it⟩ := rnd1 h
   unfold otlp_Decode_lp1 at h
   try dsimp only at h bO fz fA
   refine (show WC _ _ _ _ [(4, pt c 0), (18, bZ), (19, vi (ci.length : Int)), (20, vi cF)] _ from ?_)
   refine sq (rg (wY (Y.lss_i z z) z (nl (th (sq ?_)))))
   rcases cnd h with ⟨fB, h⟩ | ⟨fB, h⟩
   ·refine WC.condT' z fB (sk (th (sq (WC.block (sq (rg ?_))))))
    obtain ⟨cl, xI, h⟩ := bnd h
    have pJ := ir.f bO z
    obtain ⟨Cy, zY, zZ, Cb, xJ, xK, xL, fC, pK, pL⟩ := Sl.at2 pJ xI
    obtain ⟨_, _, rfl, rfl, ⟨_, _, rfl, rfl, ⟨_, _, rfl, rfl, ⟨xM, rfl, pM⟩⟩⟩⟩ := pK
    replace fC : CellsAt _ _ _ [vi cl.Num, vi cl.Type_, vu cl.V, xM] := fC
    have iu := CAt.frs fC pL
    refine wY (Y.indexAddr ty70 ty72 z xJ z xK xL) z (wY (yL ty72 z z iu.at_ z) z (WL.alloc (O := zW) 13 [vi 0, vi 0, vu 0, sn] ty72 z z ?_))
    intro Cc xN AM bp pN
    have gp := pM.f bp z
    have pO := h
    obtain ⟨fD, fF, fG, rfl⟩ := gp.shape
    have h := pO
    refine WL.store (v := ag [vi cl.Num, vi cl.Type_, vu cl.V, (vl fD fF fG)]) (cells' := [vi cl.Num, vi cl.Type_, vu cl.V, (vl fD fF fG)]) ty72 z z pN z (le_ z) z z ?_
    intro AN bq pP
    refine nl (th (sq (rg (wY (ym z) z (wY (yf fo72_3 z) z (wY (yl ty51 z z (pP.cell 3 _ z)) z (WL.makeMap (O := xN) 14 z ?_)))))))
    intro xO iv AO br pQ
    refine WL.insert (a := 1) (b := 2) ty104.u ty3.u z z z pQ z ?_
    intro AP bs dK
    replace dK : MBlk _ _ _ _ [(1, 2)] := dK
    refine WL.insert (a := 2) (b := 2) ty104.u ty3.u z z z dK z ?_
    intro AQ bt cG
    replace cG : MBlk _ _ _ _ [(1, 2), (2, 2)] := cG
    refine wY (ym z) z ?_
    have cH := ((((fA.st bp z).st bq z).st br z).st bs z).st bt z
    have pY := (((gp.f bq z).f br z).f bs z).f bt z
    obtain ⟨⟨xP, iw⟩, pZ, h⟩ := bnd h
    refine WL.call (vals := [pt c 0, (vl fD fF fG), Value.map (some xO)]) kok73 z z (c_otlp_reader_open (A := out [11] iv) (a0 := (otlp_reader.mk xp gm)) cH.blk (Sl.notin (L := [11]) (Sl.mono pY frs_imm) z z) ⟨_, z, (out_lab cG.lab z), cG.blk⟩ (fun k hk => out_ne cH.lab z k hk) pZ) ?_
    rintro dL gq ⟨_, rfl, p0, xQ, xR⟩
    obtain ⟨fH, hO, hP, bP⟩ := adopt iv (fun k => 1) [11] p0 (memB cH.lab rfl)
    have gr : Sl rep_api_Fld gq (frs fH) dL xP := Sl.adoptF xQ (fun k hk => ⟨hk, z⟩) hP
    have p1 : Blk 11 fH gq c 101 [vi iw.e, gn] := Blk.adopt cH hO xR
    refine wY (ya z) z (nl (th (sq (rg (wY (ym z) z (wY (ym z) z ?_))))))
    obtain ⟨xS, p3, h⟩ := bnd h
    refine WL.call (vals := [dL, vi 1]) kok72 z z (c_wire_All (A := fun _ => True) (Sl.all gr) p3) ?_
    rintro gs p4 ⟨_, rfl, p5, xT⟩
    obtain ⟨fI, zx, hQ, bu⟩ := adoptE fH (fun k => 1) p5
    have p6 : Sl rep_api_Fld p4 (frs fI) gs xS := Sl.adoptF xT (fun k hk => ⟨hk, z⟩) hQ
    have cI := p1.st bu z
    obtain ⟨⟨iy, iz⟩, p8, h⟩ := bnd h
    refine WL.call (vals := [pt c 0, gs]) kok74 z z (c_otlp_reader_attrs (A := out [11] fI) (a0 := (otlp_reader.mk iw.e gm)) cI.blk (Sl.notin (L := [11]) (Sl.mono p6 frs_imm) z z) (fun k hk => out_ne cI.lab z k hk) p8) ?_
    rintro aR gt ⟨_, rfl, p9, xU, xV⟩
    obtain ⟨fJ, hR, hS, bH⟩ := adopt fI (fun k => if ob aR = some k then 15 else 1) [11] p9 (memB cI.lab rfl)
    have qa : OwnSl 15 rep_api_Pair 67 fJ gt aR iy := RowF.adopt 15 flat_api_Pair xU hS (fun k hk => if_pos hk)
    have qb : Blk 11 fJ gt c 101 [vi iz.e, gn] := Blk.adopt cI hR xV
    refine wY (ya z) z (nl (th (sq (rg (wY (ym z) z ?_)))))
    have qd := (gr.f bu z).f bH z
    obtain ⟨dM, qe, h⟩ := bnd h
    refine WL.call (vals := [dL, vi 2]) kok72 z z (c_wire_All (A := fun _ => True) (Sl.all qd) qe) ?_
    rintro dN cJ ⟨_, rfl, qf, xW⟩
    obtain ⟨dO, zy, hT, bw⟩ := adoptE fJ (fun k => 1) qf
    have gu : Sl rep_api_Fld cJ (frs dO) dN dM := Sl.adoptF xW (fun k hk => ⟨hk, z⟩) hT
    refine wY (Y.len ty70 z gu) z (wY (ym z) z (nl (th ?_)))
    obtain ⟨xX, h, qg⟩ := bnd h
    refine WC.join (σ := (Int × List api_Point × Own × Value)) (fun x w' => (x.1, x.2.1) = xX ∧ Stp [11, 15, 16, 17, 19, 20, 21, 22, 23, 24, 25, 28, 30, 31, 1001, 1002, 1006, 1007, 1008, 1009, 1010, 1011, 1013, 1020, 1021] dO cJ x.2.2.1 w' ∧ OwnSl 1012 (frR rep_api_Point w.heap.size) 40 x.2.2.1 w' x.2.2.2 x.2.1 ∧ Blk 11 x.2.2.1 w' c 101 [vi x.1, x.2.2.2]) (fun x => [(4, pt c 0), (18, bZ), (19, vi (ci.length : Int)), (20, vi cF)]) ?_ ?_
    ·refine WC.block ?_
     obtain ⟨iA, h, qh⟩ := flow1 h
     obtain ⟨iB, h⟩ := loop_some h
     refine WC.joinB 2 (σ := (Int × List api_Point × Own × Value)) (fun x w' => iA = .go (x.1, x.2.1) ∧ Stp [11, 15, 16, 17, 19, 20, 21, 22, 23, 24, 25, 28, 30, 31, 1001, 1002, 1006, 1007, 1008, 1009, 1010, 1013, 1020, 1021] dO cJ x.2.2.1 w' ∧ OwnSl 1011 (frR rep_api_Point w.heap.size) 40 x.2.2.1 w' x.2.2.2 x.2.1 ∧ Blk 11 x.2.2.1 w' c 101 [vi x.1, x.2.2.2]) (fun x => [(4, pt c 0), (18, bZ), (19, vi (ci.length : Int)), (20, vi cF)]) ?_ ?_
     ·have qq := ((((((((fz.st bp z z z).st bq z z z).st br z z z).st bs z z z).st bt z z z).st bP z z z).st bu z z z).st bH z z z).st bw z z z
      obtain ⟨Cd, c1, qr⟩ := OwnSl.rlb 1010 rfl qq
      have qt := (qa.st bw z z z).st c1 z z z
      obtain ⟨xY, c2, qu⟩ := OwnSl.giveF rfl flat_api_Pair qt
      have qv := qr.st c2 z z z
      have qy := ((qb.st bw z).st c1 z).st c2 z
      refine WC.loop (σ := (Int × List api_Point × List api_Pair × Int × Own × Value)) (fun x k w' => loopN k (otlp_Decode_lp2 dM) (x.1, x.2.1, x.2.2.1, x.2.2.2.1) = some iA ∧ Stp [11, 15, 16, 17, 19, 20, 21, 22, 23, 24, 25, 28, 30, 31, 1001, 1002, 1006, 1007, 1008, 1009, 1010, 1013, 1020, 1021] dO cJ x.2.2.2.2.1 w' ∧ OwnSl 1010 (frR rep_api_Point w.heap.size) 40 x.2.2.2.2.1 w' x.2.2.2.2.2 x.2.1 ∧ Blk 11 x.2.2.2.2.1 w' c 101 [vi x.1, x.2.2.2.2.2] ∧ Sl rep_api_Pair w' (frs x.2.2.2.2.1) aR x.2.2.1) (fun x => [(4, pt c 0), (8, aR), (18, bZ), (19, vi (ci.length : Int)), (20, vi cF), (35, dN), (36, vi (dM.length : Int)), (37, vi x.2.2.2.1)]) (iz.e, gm, iy, 0, xY, gn) iB (.cons z (.cons z (.cons z (.cons z (.cons z (.cons z (.cons z (.cons z .nil)))))))) ⟨h, (tr_ (su_ c1 z) (su_ c2 z)), qv, qy, qu⟩ ?_
      rintro ⟨iC, cj, bS, iD, xZ, ck⟩ iB AR ⟨h, bx, cK, dP, dQ⟩
      obtain ⟨x0, Ce, rfl, h, gw⟩ := rnd1 h
      unfold otlp_Decode_lp2 at h
      try dsimp only at h bx cK dP dQ
      refine (show WC _ _ _ _ [(4, pt c 0), (8, aR), (18, bZ), (19, vi (ci.length : Int)), (20, vi cF), (35, dN), (36, vi (dM.length : Int)), (37, vi iD)] _ from ?_)
      refine sq (rg (wY (Y.lss_i z z) z (nl (th (sq ?_)))))
      rcases cnd h with ⟨dR, h⟩ | ⟨dR, h⟩
      ·refine WC.condT' z dR (sk (th (sq (WC.block (sq (rg ?_))))))
       obtain ⟨b0, qz, h⟩ := bnd h
       have qA := gu.f bx z
       obtain ⟨Cf, z0, z1, AS, qB, qC, qD, dS, iE, qE⟩ := Sl.at2 qA qz
       obtain ⟨_, _, rfl, rfl, ⟨_, _, rfl, rfl, ⟨_, _, rfl, rfl, ⟨x1, rfl, qF⟩⟩⟩⟩ := iE
       replace dS : CellsAt _ _ _ [vi b0.Num, vi b0.Type_, vu b0.V, x1] := dS
       have iF := CAt.frs dS qE
       refine wY (Y.indexAddr ty70 ty72 z qB z qC qD) z (wY (yL ty72 z z iF.at_ z) z (WL.alloc (O := xZ) 16 [vi 0, vi 0, vu 0, sn] ty72 z z ?_))
       intro Cg iG AT aS qG
       have gz := qF.f aS z
       have qH := h
       obtain ⟨c3, c4, c5, rfl⟩ := gz.shape
       have h := qH
       refine WL.store (v := ag [vi b0.Num, vi b0.Type_, vu b0.V, (vl c3 c4 c5)]) (cells' := [vi b0.Num, vi b0.Type_, vu b0.V, (vl c3 c4 c5)]) ty72 z z qG z (le_ z) z z ?_
       intro qI aT qJ
       refine nl (th (rg (wY (ym z) z (wY (yf fo72_3 z) z (wY (yl ty51 z z (qJ.cell 3 _ z)) z (wY (ym z) z ?_))))))
       obtain ⟨x2, h, qK⟩ := bnd h
       refine WL.callJ (vals := [pt c 0, (vl c3 c4 c5), aR]) (σ := (Int × List api_Point × List api_Pair × Own × Value)) (fun x w' => (x.1, x.2.1, x.2.2.1) = x2 ∧ Stp [11, 17, 19, 20, 21, 22, 23, 24, 25, 28, 30, 31, 1001, 1002, 1006, 1007, 1008, 1010, 1020, 1021] iG qI x.2.2.2.1 w' ∧ OwnSl 1009 (frR rep_api_Point w.heap.size) 40 x.2.2.2.1 w' x.2.2.2.2 x.2.1 ∧ Blk 11 x.2.2.2.1 w' c 101 [vi x.1, x.2.2.2.2] ∧ Sl rep_api_Pair w' (frs x.2.2.2.1) aR x.2.2.1) (fun x => tp []) kok75 z z ?_ ?_
       ·refine Rets.enter Tryz.func75 z z ?_
        refine (show WC _ _ _ _ [(0, pt c 0), (1, (vl c3 c4 c5)), (2, aR)] _ from ?_)
        refine sq (rg (wY (ym z) z (wY (ym z) z (WL.makeMap (O := iG) 17 z ?_))))
        intro x3 iH AU aF qL
        refine WL.insert (a := 1) (b := 2) ty104.u ty3.u z z z qL z ?_
        intro AV aG dT
        replace dT : MBlk _ _ _ _ [(1, 2)] := dT
        refine WL.insert (a := 5) (b := 2) ty104.u ty3.u z z z dT z ?_
        intro AW aH dU
        replace dU : MBlk _ _ _ _ [(1, 2), (5, 2)] := dU
        refine WL.insert (a := 7) (b := 2) ty104.u ty3.u z z z dU z ?_
        intro AX aI dV
        replace dV : MBlk _ _ _ _ [(1, 2), (5, 2), (7, 2)] := dV
        refine WL.insert (a := 10) (b := 2) ty104.u ty3.u z z z dV z ?_
        intro AY aJ dW
        replace dW : MBlk _ _ _ _ [(1, 2), (5, 2), (7, 2), (10, 2)] := dW
        refine WL.insert (a := 30) (b := 2) ty104.u ty3.u z z z dW z ?_
        intro AZ aK cL
        replace cL : MBlk _ _ _ _ [(1, 2), (5, 2), (7, 2), (10, 2), (30, 2)] := cL
        refine wY (ym z) z ?_
        have cM := (((((((dP.st aS z).st aT z).st aF z).st aG z).st aH z).st aI z).st aJ z).st aK z
        have qZ := ((((((gz.f aT z).f aF z).f aG z).f aH z).f aI z).f aJ z).f aK z
        obtain ⟨⟨iI, iJ⟩, q0, h⟩ := bnd h
        refine WL.call (vals := [pt c 0, (vl c3 c4 c5), Value.map (some x3)]) kok73 z z (c_otlp_reader_open (A := out [11] iH) (a0 := (otlp_reader.mk iC cj)) cM.blk (Sl.notin (L := [11]) (Sl.mono qZ frs_imm) z z) ⟨_, z, (out_lab cL.lab z), cL.blk⟩ (fun k hk => out_ne cM.lab z k hk) q0) ?_
        rintro bI gB ⟨_, rfl, q1, x4, x5⟩
        obtain ⟨fK, hU, hV, a1⟩ := adopt iH (fun k => 1) [11] q1 (memB cM.lab rfl)
        have gC : Sl rep_api_Fld gB (frs fK) bI iI := Sl.adoptF x4 (fun k hk => ⟨hk, z⟩) hV
        have q2 : Blk 11 fK gB c 101 [vi iJ.e, ck] := Blk.adopt cM hU x5
        refine wY (ya z) z (nl (th (sq (rg (wY (ya z) z (nl (th (sq (sq ?_)))))))))
        refine rg (WL.buildSlice (O := fK) (R := Rep.i) (vals := [(0, vi 5), (1, vi 7), (2, vi 10), (3, vi 30)]) 18 [vi 5, vi 7, vi 10, vi 30] (xs := [5, 7, 10, 30]) (by decide) ty113 ty3 (by decide) (by decide) (fe_ z) (by kernel_rfl) z ⟨[vi 5], [vi 7, vi 10, vi 30], z, z, ⟨[vi 7], [vi 10, vi 30], z, z, ⟨[vi 10], [vi 30], z, z, ⟨[vi 30], [], z, z, z⟩⟩⟩⟩ z ?_)
        intro iK dX dY ab gE
        refine wY (Y.len ty113 z gE.src.sl) z (wY (ym z) z (nl (th ?_)))
        obtain ⟨x6, h, q3⟩ := bnd h
        refine WC.join (σ := (List api_Fld × Own × Value)) (fun x w' => x.1 = x6 ∧ Stp [1001, 1002] dX dY x.2.1 w' ∧ OwnSl 1003 (frR rep_api_Fld w.heap.size) 72 x.2.1 w' x.2.2 x.1) (fun x => [(0, pt c 0), (2, aR), (6, bI), (7, x.2.2)]) ?_ ?_
        ·refine WC.block ?_
         obtain ⟨iL, h, q4⟩ := flow1 h
         obtain ⟨iM, h⟩ := loop_some h
         refine WC.joinB 0 (σ := (List api_Fld × Own × Value)) (fun x w' => iL = .go x.1 ∧ Stp [1001] dX dY x.2.1 w' ∧ OwnSl 1002 (frR rep_api_Fld w.heap.size) 72 x.2.1 w' x.2.2 x.1) (fun x => [(0, pt c 0), (2, aR), (6, bI), (7, x.2.2)]) ?_ ?_
         ·refine WC.loop (σ := (List api_Fld × Int × Own × Value)) (fun x k w' => loopN k (otlp_Decode_lp3 iI) (x.1, x.2.1) = some iL ∧ Stp [1001] dX dY x.2.2.1 w' ∧ OwnSl 1001 (frR rep_api_Fld w.heap.size) 72 x.2.2.1 w' x.2.2.2 x.1) (fun x => [(0, pt c 0), (2, aR), (6, bI), (7, x.2.2.2), (22, iK), (23, vi ([5, 7, 10, 30].length : Int)), (24, vi x.2.1)]) ([], 0, dX, sn) iM (.cons z (.cons z (.cons z (.cons z (.cons z (.cons z (.cons z .nil))))))) ⟨h, (sr_ _ _ _), (OwnSl.nil 1001 (frR rep_api_Fld w.heap.size) 72)⟩ ?_
          rintro ⟨fL, iN, x7, iO⟩ iM A0 ⟨h, bW, dZ⟩
          obtain ⟨x8, Ch, rfl, h, gG⟩ := rnd1 h
          unfold otlp_Decode_lp3 at h
          try dsimp only at h bW dZ
          refine (show WC _ _ _ _ [(0, pt c 0), (2, aR), (6, bI), (7, iO), (22, iK), (23, vi ([5, 7, 10, 30].length : Int)), (24, vi iN)] _ from ?_)
          refine sq (rg (wY (Y.lss_i z z) z (nl (th (sq ?_)))))
          rcases cnd h with ⟨d0, h⟩ | ⟨d0, h⟩
          ·refine WC.condT' z d0 (sk (th (sq (WC.block (sq (rg ?_))))))
           obtain ⟨iP, q5, h⟩ := bnd h
           have gH := gE.st bW z z z
           obtain ⟨Ci, z2, A1, gI, q6, q7, d1, iQ⟩ := OwnSl.at gH q5
           obtain rfl := iQ
           replace d1 : CellsAt _ _ _ [vi iP] := d1
           have iR := CAt.own gH gI d1
           refine wY (Y.indexAddr ty113 ty3 z gI z q6 q7) z (wY (yl ty3 z z iR.at_) z (wY (ya z) z (nl (th (rg (wY (ym z) z (wY (ym z) z (wY (ym z) z ?_))))))))
           have q9 := (gC.f ab z).f bW z
           obtain ⟨x9, ra, h⟩ := bnd h
           refine WL.call (vals := [bI, vi iP]) kok72 z z (c_wire_All (A := fun _ => True) (Sl.all q9) ra) ?_
           rintro rb gJ ⟨_, rfl, rc, yc⟩
           obtain ⟨iS, zA, hW, c6⟩ := adoptE x7 (fun k => 1) rc
           have rd : Sl rep_api_Fld gJ (frs iS) rb x9 := Sl.adoptF yc (fun k hk => ⟨hk, z⟩) hW
           obtain ⟨re, iT, h⟩ := bnd h
           have rf : Stp [11, 12, 13, 14, 15, 16, 17, 19, 20, 21, 22, 23, 24, 25, 28, 30, 31, 1001, 1002, 1006, 1007, 1008, 1009, 1010, 1011, 1012, 1013, 1020, 1021] (Lg.O0 A) w iS gJ := (tr_ (su_ bL z) (tr_ (su_ bE z) (tr_ (su_ bG z) (tr_ (su_ bQ z) (tr_ (su_ bM z) (tr_ (su_ bO z) (tr_ (su_ bp z) (tr_ (su_ bq z) (tr_ (su_ br z) (tr_ (su_ bs z) (tr_ (su_ bt z) (tr_ (su_ bP z) (tr_ (su_ bu z) (tr_ (su_ bH z) (tr_ (su_ bw z) (tr_ (su_ bx z) (tr_ (su_ aS z) (tr_ (su_ aT z) (tr_ (su_ aF z) (tr_ (su_ aG z) (tr_ (su_ aH z) (tr_ (su_ aI z) (tr_ (su_ aJ z) (tr_ (su_ aK z) (tr_ (su_ a1 z) (tr_ (su_ ab z) (tr_ (su_ bW z) (su_ c6 z))))))))))))))))))))))))))))
           have rh := dZ.st c6 z z z
           refine WL.append (by decide) ty70 ty72 z (by decide) z z rh (Sl.srcB (Sl.frB rd rf low0)) iT z ?_
           intro yd ye A2 iU ri
           refine wY (ya z) z (nl (At.inBlock (th (rg (wY (Y.add_i z z) z (wY (ym z) z (nl ?_)))))))
           exact At.round (re, w64 (iN + 1), ye, yd) x8 (Nat.lt_succ_self _) ⟨next1 h gG, (tr_ (su_ bW z) (tr_ (su_ c6 z) (su_ iU z))), ri⟩ (.cons z (.cons z (.cons z (.cons z (.cons z (.cons z (.cons z .nil)))))))
          ·refine WC.condF' z d0 (WC.exit (At.thenX (At.loopX ?_)))
           obtain ⟨yg, iV, rj⟩ := OwnSl.rlb 1002 rfl dZ
           exact At.hitB (σ := (List api_Fld × Own × Value)) (fL, yg, iO) ⟨brk1 h gG, (tr_ (su_ bW z) (su_ iV z)), rj⟩ (.cons z (.cons z (.cons z (.cons z .nil))))
         ·rintro ⟨fN, Cj, iW⟩ A3 ⟨rfl, e2, gK⟩
          replace h := flowK_go q4
          try dsimp only at h e2 gK
          refine (show At _ _ _ [(0, pt c 0), (2, aR), (6, bI), (7, iW)] _ from ?_)
          refine At.inBlockHit ?_
          obtain ⟨yh, iX, rk⟩ := OwnSl.rlb 1003 rfl gK
          exact At.join (σ := (List api_Fld × Own × Value)) (fN, yh, iW) ⟨some1 h, (tr_ (su_ e2 z) (su_ iX z)), rk⟩ (.cons z (.cons z (.cons z (.cons z .nil))))
        ·rintro ⟨fO, yi, yj⟩ A4 ⟨rfl, aL, d2⟩
         replace h := q3
         try dsimp only at h aL d2
         refine (show At _ _ _ [(0, pt c 0), (2, aR), (6, bI), (7, yj)] _ from ?_)
         refine th (sq (rg (wY (ym z) z (wY (ym z) z (wY (Y.len ty70 z (Sl.unfr d2.src.sl)) z (wY (Y.neq_i z z) z ?_))))))
         have d3 := (q2.st ab z).st aL z
         obtain ⟨fP, rm, h⟩ := bnd h
         refine WL.call (vals := [pt c 0, vB (!decide ((fO.length : Int) = 1)), vi 3]) kok113 z z (c_otlp_reader_fail (a0 := (otlp_reader.mk iJ.e cj)) d3.blk rm) ?_
         rintro A5 rn ⟨rfl, ro, yk⟩
         obtain ⟨iY, hX, zB, aU⟩ := adopt yi (fun k => 1) [11] ro (memB d3.lab rfl)
         have d4 : Blk 11 iY rn c 101 [vi fP.e, ck] := Blk.adopt d3 hX yk
         refine nl (th (sq (sq (rg (wY (ym z) z (wY (yn z) z (wY (yf fo101_0 z) z (wY (yl ty25 z z (d4.cell 0 _ z)) z (wY (Y.neq_i z z) z ?_)))))))))
         refine nl (th ?_)
         rcases cnd h with ⟨d5, h⟩ | ⟨d5, h⟩
         ·refine WC.condT' z d5 (rt (At.thenR ?_))
          have rE := (((((((((((cK.st aS z z z).st aT z z z).st aF z z z).st aG z z z).st aH z z z).st aI z z z).st aJ z z z).st aK z z z).st a1 z z z).st ab z z z).st aL z z z).st aU z z z
          obtain ⟨yo, c7, rF⟩ := OwnSl.rlb 1009 rfl rE
          have rG := d4.st c7 z
          have rU := ((((((((((((dQ.f aS z).f aT z).f aF z).f aG z).f aH z).f aI z).f aJ z).f aK z).f a1 z).f ab z).f aL z).f aU z).f c7 z
          exact At.res (.inl z) z .nil ⟨(fP.e, cj, bS, yo, ck), ⟨some1 h, (tr_ (su_ aF z) (tr_ (su_ aG z) (tr_ (su_ aH z) (tr_ (su_ aI z) (tr_ (su_ aJ z) (tr_ (su_ aK z) (tr_ (su_ a1 z) (tr_ (su_ ab z) (tr_ (su_ aL z) (tr_ (su_ aU z) (su_ c7 z))))))))))), rF, rG, rU⟩, z⟩
         ·refine WC.condF' z d5 (sk (th (sq (rg (WL.makeMap (O := iY) 19 z ?_)))))
          intro Ck yp A6 a6 rV
          refine WL.insert (a := 5) (b := 3) ty104.u ty3.u z z z rV z ?_
          intro A7 a7 d6
          replace d6 : MBlk _ _ _ _ [(5, 3)] := d6
          refine WL.insert (a := 7) (b := 2) ty104.u ty3.u z z z d6 z ?_
          intro A8 a8 d7
          replace d7 : MBlk _ _ _ _ [(5, 3), (7, 2)] := d7
          refine WL.insert (a := 10) (b := 4) ty104.u ty3.u z z z d7 z ?_
          intro A9 a9 d8
          replace d8 : MBlk _ _ _ _ [(5, 3), (7, 2), (10, 4)] := d8
          refine WL.insert (a := 30) (b := 5) ty104.u ty3.u z z z d8 z ?_
          intro Ba ba d9
          replace d9 : MBlk _ _ _ _ [(5, 3), (7, 2), (10, 4), (30, 5)] := d9
          refine wY (ym z) z (wY (ym z) z ?_)
          obtain ⟨ea, rW, h⟩ := bnd h
          have cN := (((((d2.st aU z z z).st a6 z z z).st a7 z z z).st a8 z z z).st a9 z z z).st ba z z z
          obtain ⟨Cl, z3, Bb, gL, r4, r5, eb, iZ⟩ := OwnSl.at cN rW
          obtain ⟨_, _, rfl, rfl, ⟨_, _, rfl, rfl, ⟨_, _, rfl, rfl, ⟨yq, rfl, Bc⟩⟩⟩⟩ := iZ
          replace eb : CellsAt _ _ _ [vi ea.Num, vi ea.Type_, vu ea.V, yq] := eb
          have i0 := CAt.own cN gL eb
          refine wY (Y.indexAddr ty70 ty72 z gL z r4 r5) z (wY (yf fo72_0 z) z (wY (yl ty3 z z (i0.at_.sub 0 [vi ea.Num] z)) z (wY (Y.lookup1 (es := [(5, 3), (7, 2), (10, 4), (30, 5)]) (A := fun _ => True) ty104.u ty3.u ty3 z z ⟨_, z, trivial, d9.blk⟩) z ?_)))
          obtain ⟨q, fQ, h⟩ := lt1 h
          refine WL.yE (ya z) (congrArg vi fQ.symm) z (nl (th (sq (rg (wY (ym z) z (wY (ym z) z ?_))))))
          obtain ⟨fR, r6, h⟩ := bnd h
          obtain ⟨Cm, z4, Bd, gM, r7, r8, ec, i1⟩ := OwnSl.at cN r6
          obtain ⟨_, _, rfl, rfl, ⟨_, _, rfl, rfl, ⟨_, _, rfl, rfl, ⟨fT, rfl, r9⟩⟩⟩⟩ := i1
          replace ec : CellsAt _ _ _ [vi fR.Num, vi fR.Type_, vu fR.V, fT] := ec
          have i2 := CAt.own cN gM ec
          refine wY (Y.indexAddr ty70 ty72 z gM z r7 r8) z (wY (yf fo72_3 z) z (wY (yl ty51 z z (i2.at_.sub 3 [fT] z)) z (WL.makeMap (O := yp) 20 z ?_)))
          intro yr i3 Be bb sa
          refine WL.insert (a := 1) (b := 2) ty104.u ty3.u z z z sa z ?_
          intro Bf bc ed
          replace ed : MBlk _ _ _ _ [(1, 2)] := ed
          refine WL.insert (a := 2) (b := 0) ty104.u ty3.u z z z ed z ?_
          intro Bg bd ee
          replace ee : MBlk _ _ _ _ [(1, 2), (2, 0)] := ee
          refine WL.insert (a := 3) (b := 0) ty104.u ty3.u z z z ee z ?_
          intro Bh bf cO
          replace cO : MBlk _ _ _ _ [(1, 2), (2, 0), (3, 0)] := cO
          refine wY (ym z) z ?_
          have cP := ((((((((d4.st a6 z).st a7 z).st a8 z).st a9 z).st ba z).st bb z).st bc z).st bd z).st bf z
          have sw := (((r9.frb_st bb z z).frb_st bc z z).frb_st bd z z).frb_st bf z z
          obtain ⟨⟨ys, i4⟩, sA, h⟩ := bnd h
          refine WL.call (vals := [pt c 0, fT, Value.map (some yr)]) kok73 z z (c_otlp_reader_open (A := out [11] i3) (a0 := (otlp_reader.mk fP.e cj)) cP.blk (Sl.notin (L := [11]) (Sl.frbI sw) z z) ⟨_, z, (out_lab cO.lab z), cO.blk⟩ (fun k hk => out_ne cP.lab z k hk) sA) ?_
          rintro bT gO ⟨_, rfl, sC, yt, yu⟩
          obtain ⟨fU, hY, hZ, bJ⟩ := adopt i3 (fun k => 1) [11] sC (memB cP.lab rfl)
          have gQ : Sl rep_api_Fld gO (frs fU) bT ys := Sl.adoptF yt (fun k hk => ⟨hk, z⟩) hZ
          have sD : Blk 11 fU gO c 101 [vi i4.e, ck] := Blk.adopt cP hY yu
          refine wY (ya z) z (nl (th (sq (rg (wY (ym z) z ?_)))))
          obtain ⟨b2, sE, h⟩ := bnd h
          refine WL.call (vals := [bT, vi 2]) kok114 z z (c_otlp_last (A := fun _ => True) (Sl.all gQ) sE) ?_
          rintro Bi sG ⟨yv, rfl, sH, yw⟩
          obtain ⟨i5, zC, h0, bg⟩ := adoptE fU (fun k => 1) sH
          have Bj : Sl Rep.b sG (frs i5) yv b2.B := Sl.adoptF yw (fun k hk => ⟨hk, z⟩) h0
          refine wY (Y.fieldSc ty72.u z z z ty33 z z z) z (wY (ym z) z ?_)
          have gR := gQ.f bg z
          obtain ⟨d, sI, h⟩ := bnd h
          refine WL.call (vals := [bT, vi 3]) kok114 z z (c_otlp_last (A := fun _ => True) (Sl.all gR) sI) ?_
          rintro Bk gU ⟨yy, rfl, sJ, yz⟩
          obtain ⟨i6, zD, h1, bh⟩ := adoptE i5 (fun k => 1) sJ
          have Bl : Sl Rep.b gU (frs i6) yy d.B := Sl.adoptF yz (fun k hk => ⟨hk, z⟩) h1
          refine wY (Y.fieldSc ty72.u z z z ty33 z z z) z (wY (ya z) z (wY (ya z) z (nl (th (sq (rg (wY (ym z) z (wY (ym z) z (wY (Y.gtr_u (b := 2) z z) z ?_)))))))))
          refine wY (ym z) z ?_
          refine WL.cut 3 (σ := Unit) (fun _ w' => gU = w') (fun _ => [(0, pt c 0), (2, aR), (6, bI), (10, vi q), (11, bT), (12, vu b2.V), (13, vu d.V), (65, pt c 0), (71, vB ((decide (2 < b2.V)) || (decide (1 < d.V))))]) ?_ ?_
          ·refine WL.part 68 z (fun ef => ?_) (fun ef => ?_)
           ·refine WL.gS z z z z (WL.gS z z z z (wY (Y.pick (b := true) z z) z (WL.ren (v' := vB ((decide (2 < b2.V)) || (decide (1 < d.V)))) 71 z (congrArg vB (orT ef)) ?_)))
            exact nl (At.join () z (.cons z (.cons z (.cons z (.cons z (.cons z (.cons z (.cons z (.cons z (.cons z .nil))))))))))
           ·refine ug z z (wY (ym z) z (ug z z (wY (Y.gtr_u (b := 1) z z) z (wY (Y.pick (b := false) z z) z (WL.ren (v' := vB ((decide (2 < b2.V)) || (decide (1 < d.V)))) 71 z (congrArg vB (orF ef)) ?_)))))
            exact nl (At.join () z (.cons z (.cons z (.cons z (.cons z (.cons z (.cons z (.cons z (.cons z (.cons z .nil))))))))))
          ·rintro _ _ rfl
           refine (show WL _ _ _ _ _ [(0, pt c 0), (2, aR), (6, bI), (10, vi q), (11, bT), (12, vu b2.V), (13, vu d.V), (65, pt c 0), (71, vB ((decide (2 < b2.V)) || (decide (1 < d.V))))] _ from ?_)
           have eg := (sD.st bg z).st bh z
           obtain ⟨i7, sL, h⟩ := bnd h
           refine WL.call (vals := [pt c 0, vB ((decide (2 < b2.V)) || (decide (1 < d.V))), vi 3]) kok113 z z (c_otlp_reader_fail (a0 := (otlp_reader.mk i4.e cj)) eg.blk sL) ?_
           rintro Bm sM ⟨rfl, sN, yA⟩
           obtain ⟨i8, h2, zE, bz⟩ := adopt i6 (fun k => 1) [11] sN (memB eg.lab rfl)
           have sO : Blk 11 i8 sM c 101 [vi i7.e, ck] := Blk.adopt eg h2 yA
           refine nl (th (sq (rg (wY (ym z) z ?_))))
           have s5 := (((((((((((((((gC.f ab z).f aL z).f aU z).f a6 z).f a7 z).f a8 z).f a9 z).f ba z).f bb z).f bc z).f bd z).f bf z).f bJ z).f bg z).f bh z).f bz z
           obtain ⟨j, s6, h⟩ := bnd h
           refine WL.call (vals := [bI, vi 1]) kok114 z z (c_otlp_last (A := fun _ => True) (Sl.all s5) s6) ?_
           rintro Bn s7 ⟨yB, rfl, s8, yC⟩
           obtain ⟨i9, zF, h3, bA⟩ := adoptE i8 (fun k => 1) s8
           have s9 : Sl Rep.b s7 (frs i9) yB j.B := Sl.adoptF yC (fun k hk => ⟨hk, z⟩) h3
           refine wY (Y.fieldSc ty72.u z z z ty51 z z z) z (wY (Y.b2s ty51 ty5 ty9 z s9) z (wY (ym z) z (wY (ym z) z (wY (ym z) z (wY (Y.eql_u (b := 1) z z) z ?_)))))
           have eh := (((((((((((((((((((((((((dQ.f aS z).f aT z).f aF z).f aG z).f aH z).f aI z).f aJ z).f aK z).f a1 z).f ab z).f aL z).f aU z).f a6 z).f a7 z).f a8 z).f a9 z).f ba z).f bb z).f bc z).f bd z).f bf z).f bJ z).f bg z).f bh z).f bz z).f bA z
           have tE := h
           obtain ⟨bB, bC, bD, rfl⟩ := eh.shape
           have h := tE
           refine wY (yb (vals := [(0, vs j.B), (1, (vl bB bC bD)), (2, vi q), (4, vB (decide (d.V = 1)))]) (cells := [vs j.B, (vl bB bC bD), vi q, vi 0, vB (decide (d.V = 1)), vi 0, vi 0, vi 0, vu 0, vu 0, vi 0, vu 0, vi 0, sn, vi 0, sn, vi 0]) (fe_ z) (by kernel_rfl)) z (WL.alloc (O := i9) 21 [vs [], sn, vi 0, vi 0, vB false, vi 0, vi 0, vi 0, vu 0, vu 0, vi 0, vu 0, vi 0, sn, vi 0, sn, vi 0] ty40 z z ?_)
           intro c8 fV Bo bi tF
           refine WL.store (v := ag [vs j.B, (vl bB bC bD), vi q, vi 0, vB (decide (d.V = 1)), vi 0, vi 0, vi 0, vu 0, vu 0, vi 0, vu 0, vi 0, sn, vi 0, sn, vi 0]) (cells' := [vs j.B, (vl bB bC bD), vi q, vi 0, vB (decide (d.V = 1)), vi 0, vi 0, vi 0, vu 0, vu 0, vi 0, vu 0, vi 0, sn, vi 0, sn, vi 0]) ty40 z z tF z (le_ z) z z ?_
           intro tG bj gV
           refine nl (th (sq ?_))
           obtain ⟨yD, h, tH⟩ := bnd h
           refine WC.join (σ := (Int × Own)) (fun x w' => x.1 = yD ∧ Stp [21] fV tG x.2 w' ∧ Blk 21 x.2 w' c8 40 [vs j.B, (vl bB bC bD), vi q, vi x.1, vB (decide (d.V = 1)), vi 0, vi 0, vi 0, vu 0, vu 0, vi 0, vu 0, vi 0, sn, vi 0, sn, vi 0]) (fun x => [(0, pt c 0), (11, bT), (14, pt c8 0)]) ?_ ?_
           ·refine sq (rg (wY (ym z) z (wY (Y.gtr_u (b := 0) z z) z (nl (th ?_)))))
            rcases cnd h with ⟨ei, h⟩ | ⟨ei, h⟩
            ·refine WC.condT' z ei (rg (wY (ym z) z (wY (Y.min_u (b := 2) z z) z (wY (Y.sub_u (a := 3) z z) z (wY (Y.conv_ui ty33.u ty3.u z) z (wY (yf fo40_3 z) z ?_))))))
             obtain ⟨fY, tI, h⟩ := lt1 h
             refine WL.ren 87 z (congrArg vi tI.symm) (WL.store (v := vi fY) (cells' := [vs j.B, (vl bB bC bD), vi q, vi fY, vB (decide (d.V = 1)), vi 0, vi 0, vi 0, vu 0, vu 0, vi 0, vu 0, vi 0, sn, vi 0, sn, vi 0]) ty3 z z gV z (le_ z) z z ?_)
             intro Bp ja tJ
             refine nl ?_
             exact At.join (σ := (Int × Own)) (fY, fV) ⟨some1 h, (su_ ja z), tJ⟩ (.cons z (.cons z (.cons z .nil)))
            ·refine WC.condF' z ei (sk ?_)
             exact At.join (σ := (Int × Own)) (0, fV) ⟨some1 h, (sr_ _ _ _), gV⟩ (.cons z (.cons z (.cons z .nil)))
           ·rintro ⟨r, yF⟩ Bq ⟨rfl, a2, gW⟩
            replace h := tH
            try dsimp only at h a2 gW
            refine (show At _ _ _ [(0, pt c 0), (11, bT), (14, pt c8 0)] _ from ?_)
            refine th (sq (rg (wY (ym z) z ?_)))
            have tP := (((((gR.f bh z).f bz z).f bA z).f bi z).f bj z).f a2 z
            obtain ⟨ej, tQ, h⟩ := bnd h
            refine WL.call (vals := [bT, vi 1]) kok72 z z (c_wire_All (A := fun _ => True) (Sl.all tP) tQ) ?_
            rintro ek em ⟨_, rfl, tR, yG⟩
            obtain ⟨f0, zG, h4, bk⟩ := adoptE yF (fun k => 1) tR
            have gX : Sl rep_api_Fld em (frs f0) ek ej := Sl.adoptF yG (fun k hk => ⟨hk, z⟩) h4
            refine wY (Y.len ty70 z gX) z (wY (ym z) z (nl (th (WC.block ?_))))
            obtain ⟨jb, h, tS⟩ := flow1 h
            obtain ⟨jc, h⟩ := loop_some h
            refine WC.joinB 2 (σ := (Int × List api_Point × Own × Value)) (fun x w' => jb = .go (x.1, x.2.1) ∧ Stp [11, 22, 23, 24, 25, 28, 30, 31, 1006, 1007, 1010, 1020, 1021] f0 em x.2.2.1 w' ∧ OwnSl 1008 (frR rep_api_Point w.heap.size) 40 x.2.2.1 w' x.2.2.2 x.2.1 ∧ Blk 11 x.2.2.1 w' c 101 [vi x.1, x.2.2.2]) (fun x => []) ?_ ?_
            ·have un := (((((((((((((((((((((((((((((cK.st aS z z z).st aT z z z).st aF z z z).st aG z z z).st aH z z z).st aI z z z).st aJ z z z).st aK z z z).st a1 z z z).st ab z z z).st aL z z z).st aU z z z).st a6 z z z).st a7 z z z).st a8 z z z).st a9 z z z).st ba z z z).st bb z z z).st bc z z z).st bd z z z).st bf z z z).st bJ z z z).st bg z z z).st bh z z z).st bz z z z).st bA z z z).st bi z z z).st bj z z z).st a2 z z z).st bk z z z
             obtain ⟨yH, e5, uo⟩ := OwnSl.rlb 1007 rfl un
             have uw := (((((sO.st bA z).st bi z).st bj z).st a2 z).st bk z).st e5 z
             refine WC.loop (σ := (Int × List api_Point × Int × Own × Value)) (fun x k w' => loopN k (otlp_Decode_lp4 bS q d j r ej) (x.1, x.2.1, x.2.2.1) = some jb ∧ Stp [11, 22, 23, 24, 25, 28, 30, 31, 1006, 1007, 1010, 1020, 1021] f0 em x.2.2.2.1 w' ∧ OwnSl 1007 (frR rep_api_Point w.heap.size) 40 x.2.2.2.1 w' x.2.2.2.2 x.2.1 ∧ Blk 11 x.2.2.2.1 w' c 101 [vi x.1, x.2.2.2.2]) (fun x => [(0, pt c 0), (14, pt c8 0), (90, ek), (91, vi (ej.length : Int)), (92, vi x.2.2.1)]) (i7.e, cj, 0, yH, ck) jc (.cons z (.cons z (.cons z (.cons z (.cons z .nil))))) ⟨h, (su_ e5 z), uo, uw⟩ ?_
             rintro ⟨jd, bR, je, yI, bK⟩ jc Br ⟨h, bl, cm, en⟩
             obtain ⟨yJ, Cn, rfl, h, gY⟩ := rnd1 h
             unfold otlp_Decode_lp4 at h
             try dsimp only at h bl cm en
             refine (show WC _ _ _ _ [(0, pt c 0), (14, pt c8 0), (90, ek), (91, vi (ej.length : Int)), (92, vi je)] _ from ?_)
             refine sq (rg (wY (Y.lss_i z z) z (nl (th (sq ?_)))))
             rcases cnd h with ⟨eo, h⟩ | ⟨eo, h⟩
             ·refine WC.condT' z eo (sk (th (sq (WC.block (sq (rg ?_))))))
              obtain ⟨b1, ux, h⟩ := bnd h
              have uy := gX.f bl z
              obtain ⟨Co, z5, z6, Bs, uz, uA, uB, ep, jf, uC⟩ := Sl.at2 uy ux
              obtain ⟨_, _, rfl, rfl, ⟨_, _, rfl, rfl, ⟨_, _, rfl, rfl, ⟨yK, rfl, uD⟩⟩⟩⟩ := jf
              replace ep : CellsAt _ _ _ [vi b1.Num, vi b1.Type_, vu b1.V, yK] := ep
              have jg := CAt.frs ep uC
              refine wY (Y.indexAddr ty70 ty72 z uz z uA uB) z (wY (yL ty72 z z jg.at_ z) z (WL.alloc (O := yI) 22 [vi 0, vi 0, vu 0, sn] ty72 z z ?_))
              intro Cp jh Bt aW uE
              have gZ := uD.f aW z
              have uF := h
              obtain ⟨c9, da, db, rfl⟩ := gZ.shape
              have h := uF
              refine WL.store (v := ag [vi b1.Num, vi b1.Type_, vu b1.V, (vl c9 da db)]) (cells' := [vi b1.Num, vi b1.Type_, vu b1.V, (vl c9 da db)]) ty72 z z uE z (le_ z) z z ?_
              intro uG aX uH
              refine nl (th (rg (wY (ym z) z (wY (yf fo72_3 z) z (wY (yl ty51 z z (uH.cell 3 _ z)) z ?_)))))
              have uL := (((gW.st bk z).st bl z).st aW z).st aX z
              refine wY (yL ty40 z z (uL.cells 0 [vs j.B, (vl bB bC bD), vi q, vi r, vB (decide (d.V = 1)), vi 0, vi 0, vi 0, vu 0, vu 0, vi 0, vu 0, vi 0, sn, vi 0, sn, vi 0] z) z) z ?_
              obtain ⟨yM, h, uM⟩ := bnd h
              refine WL.callJ (vals := [pt c 0, (vl c9 da db), ag [vs j.B, (vl bB bC bD), vi q, vi r, vB (decide (d.V = 1)), vi 0, vi 0, vi 0, vu 0, vu 0, vi 0, vu 0, vi 0, sn, vi 0, sn, vi 0]]) (σ := (Int × List api_Point × Own × Value)) (fun x w' => (x.1, x.2.1) = yM ∧ Stp [11, 23, 24, 25, 28, 30, 31, 1007, 1020, 1021] jh uG x.2.2.1 w' ∧ OwnSl 1006 (frR rep_api_Point w.heap.size) 40 x.2.2.1 w' x.2.2.2 x.2.1 ∧ Blk 11 x.2.2.1 w' c 101 [vi x.1, x.2.2.2]) (fun x => tp []) kok115 z z ?_ ?_
              ·refine Rets.enter Tryz.func115 z z ?_
               refine (show WC _ _ _ _ [(0, pt c 0), (1, (vl c9 da db)), (2, ag [vs j.B, (vl bB bC bD), vi q, vi r, vB (decide (d.V = 1)), vi 0, vi 0, vi 0, vu 0, vu 0, vi 0, vu 0, vi 0, sn, vi 0, sn, vi 0])] _ from ?_)
               refine sq (rg (WL.box (O := jh) 23 [vs j.B, (vl bB bC bD), vi q, vi r, vB (decide (d.V = 1)), vi 0, vi 0, vi 0, vu 0, vu 0, vi 0, vu 0, vi 0, sn, vi 0, sn, vi 0] z z z ?_))
               intro bU yN Bu aM uN
               refine nl (th (sq (rg (wY (ym z) z (wY (ym z) z (WL.makeMap (O := yN) 24 z ?_))))))
               intro yO ji Bv ac uO
               refine WL.insert (a := 2) (b := 1) ty104.u ty3.u z z z uO z ?_
               intro Bw ad er
               replace er : MBlk _ _ _ _ [(2, 1)] := er
               refine WL.insert (a := 3) (b := 1) ty104.u ty3.u z z z er z ?_
               intro Bx ae et
               replace et : MBlk _ _ _ _ [(2, 1), (3, 1)] := et
               refine WL.insert (a := 4) (b := 1) ty104.u ty3.u z z z et z ?_
               intro By af eu
               replace eu : MBlk _ _ _ _ [(2, 1), (3, 1), (4, 1)] := eu
               refine WL.insert (a := 6) (b := 1) ty104.u ty3.u z z z eu z ?_
               intro Bz ah ew
               replace ew : MBlk _ _ _ _ [(2, 1), (3, 1), (4, 1), (6, 1)] := ew
               refine WL.insert (a := 7) (b := 2) ty104.u ty3.u z z z ew z ?_
               intro BA ai ex
               replace ex : MBlk _ _ _ _ [(2, 1), (3, 1), (4, 1), (6, 1), (7, 2)] := ex
               refine WL.insert (a := 8) (b := 0) ty104.u ty3.u z z z ex z ?_
               intro BB aj ey
               replace ey : MBlk _ _ _ _ [(2, 1), (3, 1), (4, 1), (6, 1), (7, 2), (8, 0)] := ey
               refine WL.insert (a := 9) (b := 0) ty104.u ty3.u z z z ey z ?_
               intro BC ak ez
               replace ez : MBlk _ _ _ _ [(2, 1), (3, 1), (4, 1), (6, 1), (7, 2), (8, 0), (9, 0)] := ez
               refine WL.insert (a := 10) (b := 2) ty104.u ty3.u z z z ez z ?_
               intro BD al eA
               replace eA : MBlk _ _ _ _ [(2, 1), (3, 1), (4, 1), (6, 1), (7, 2), (8, 0), (9, 0), (10, 2)] := eA
               refine WL.insert (a := 11) (b := 2) ty104.u ty3.u z z z eA z ?_
               intro BE am eB
               replace eB : MBlk _ _ _ _ [(2, 1), (3, 1), (4, 1), (6, 1), (7, 2), (8, 0), (9, 0), (10, 2), (11, 2)] := eB
               refine WL.insert (a := 31) (b := 1) ty104.u ty3.u z z z eB z ?_
               intro BF an cQ
               replace cQ : MBlk _ _ _ _ [(2, 1), (3, 1), (4, 1), (6, 1), (7, 2), (8, 0), (9, 0), (10, 2), (11, 2), (31, 1)] := cQ
               refine wY (ym z) z ?_
               have cR := (((((((((((((en.st aW z).st aX z).st aM z).st ac z).st ad z).st ae z).st af z).st ah z).st ai z).st aj z).st ak z).st al z).st am z).st an z
               have vg := ((((((((((((gZ.f aX z).f aM z).f ac z).f ad z).f ae z).f af z).f ah z).f ai z).f aj z).f ak z).f al z).f am z).f an z
               obtain ⟨⟨yP, jj⟩, vh, h⟩ := bnd h
               refine WL.call (vals := [pt c 0, (vl c9 da db), Value.map (some yO)]) kok73 z z (c_otlp_reader_open (A := out [11] ji) (a0 := (otlp_reader.mk jd bR)) cR.blk (Sl.notin (L := [11]) (Sl.mono vg frs_imm) z z) ⟨_, z, (out_lab cQ.lab z), cQ.blk⟩ (fun k hk => out_ne cR.lab z k hk) vh) ?_
               rintro aN g0 ⟨_, rfl, vj, yQ, yR⟩
               obtain ⟨f1, h5, h6, aY⟩ := adopt ji (fun k => 1) [11] vj (memB cR.lab rfl)
               have g1 : Sl rep_api_Fld g0 (frs f1) aN yP := Sl.adoptF yQ (fun k hk => ⟨hk, z⟩) h6
               have vk : Blk 11 f1 g0 c 101 [vi jj.e, bK] := Blk.adopt cR h5 yR
               refine wY (ya z) z (nl (th (sq (rg (wY (ym z) z (wY (ym z) z (wY (yf fo40_2 z) z ?_)))))))
               have g2 := (((((((((((uN.st ac z).st ad z).st ae z).st af z).st ah z).st ai z).st aj z).st ak z).st al z).st am z).st an z).st aY z
               refine wY (yl ty3 z z (g2.cell 2 _ z)) z ?_
               obtain ⟨yS, vC, h⟩ := bnd h
               refine WL.call (vals := [aN, vi q]) kok135 z z (c_otlp_form (A := fun _ => True) (Sl.all g1) vC) ?_
               rintro BG BH ⟨rfl, vD⟩
               obtain ⟨yT, zH, zI, ao⟩ := adoptE f1 (fun k => 1) vD
               refine wY (Y.not z) z ?_
               have eC := vk.st ao z
               obtain ⟨jk, vE, h⟩ := bnd h
               refine WL.call (vals := [pt c 0, vB (!yS), vi 3]) kok113 z z (c_otlp_reader_fail (a0 := (otlp_reader.mk jj.e bR)) eC.blk vE) ?_
               rintro BI vG ⟨rfl, vH, yU⟩
               obtain ⟨jl, h7, zJ, aO⟩ := adopt yT (fun k => 1) [11] vH (memB eC.lab rfl)
               have vI : Blk 11 jl vG c 101 [vi jk.e, bK] := Blk.adopt eC h7 yU
               refine nl (th (sq (rg (wY (ym z) z ?_))))
               have g3 := (g1.f ao z).f aO z
               obtain ⟨b3, vK, h⟩ := bnd h
               refine WL.call (vals := [aN, vi 2]) kok114 z z (c_otlp_last (A := fun _ => True) (Sl.all g3) vK) ?_
               rintro BJ vL ⟨yV, rfl, vM, yW⟩
               obtain ⟨jm, zK, h8, ap⟩ := adoptE jl (fun k => 1) vM
               have BK : Sl Rep.b vL (frs jm) yV b3.B := Sl.adoptF yW (fun k hk => ⟨hk, z⟩) h8
               refine wY (Y.fieldSc ty72.u z z z ty33 z z z) z (wY (ym z) z ?_)
               have g4 := g3.f ap z
               obtain ⟨b4, vN, h⟩ := bnd h
               refine WL.call (vals := [aN, vi 3]) kok114 z z (c_otlp_last (A := fun _ => True) (Sl.all g4) vN) ?_
               rintro BL g5 ⟨yX, rfl, vO, yY⟩
               obtain ⟨jn, zL, h9, aq⟩ := adoptE jm (fun k => 1) vO
               have BM : Sl Rep.b g5 (frs jn) yX b4.B := Sl.adoptF yY (fun k hk => ⟨hk, z⟩) h9
               refine wY (Y.fieldSc ty72.u z z z ty33 z z z) z (wY (ya z) z (wY (ya z) z (nl (th (sq (rg (wY (ym z) z (wY (ym z) z (wY (Y.gtr_u (b := 9007199254740992) z z) z ?_)))))))))
               refine wY (ym z) z ?_
               refine WL.cut 3 (σ := Unit) (fun _ w' => g5 = w') (fun _ => [(0, pt c 0), (5, pt bU 0), (6, aN), (7, vu b3.V), (8, vu b4.V), (28, pt c 0), (34, vB ((decide (9007199254740992 < b3.V)) || (decide (9007199254740992 < b4.V))))]) ?_ ?_
               ·refine WL.part 31 z (fun eD => ?_) (fun eD => ?_)
                ·refine WL.gS z z z z (WL.gS z z z z (wY (Y.pick (b := true) z z) z (WL.ren (v' := vB ((decide (9007199254740992 < b3.V)) || (decide (9007199254740992 < b4.V)))) 34 z (congrArg vB (orT eD)) ?_)))
                 exact nl (At.join () z (.cons z (.cons z (.cons z (.cons z (.cons z (.cons z (.cons z .nil))))))))
                ·refine ug z z (wY (ym z) z (ug z z (wY (Y.gtr_u (b := 9007199254740992) z z) z (wY (Y.pick (b := false) z z) z (WL.ren (v' := vB ((decide (9007199254740992 < b3.V)) || (decide (9007199254740992 < b4.V)))) 34 z (congrArg vB (orF eD)) ?_)))))
                 exact nl (At.join () z (.cons z (.cons z (.cons z (.cons z (.cons z (.cons z (.cons z .nil))))))))
               ·rintro _ _ rfl
                refine (show WL _ _ _ _ _ [(0, pt c 0), (5, pt bU 0), (6, aN), (7, vu b3.V), (8, vu b4.V), (28, pt c 0), (34, vB ((decide (9007199254740992 < b3.V)) || (decide (9007199254740992 < b4.V))))] _ from ?_)
                have eE := (vI.st ap z).st aq z
                obtain ⟨f2, vQ, h⟩ := bnd h
                refine WL.call (vals := [pt c 0, vB ((decide (9007199254740992 < b3.V)) || (decide (9007199254740992 < b4.V))), vi 4]) kok113 z z (c_otlp_reader_fail (a0 := (otlp_reader.mk jk.e bR)) eE.blk vQ) ?_
                rintro BN vR ⟨rfl, vS, yZ⟩
                obtain ⟨f3, ia, zM, aP⟩ := adopt jn (fun k => 1) [11] vS (memB eE.lab rfl)
                have eF : Blk 11 f3 vR c 101 [vi f2.e, bK] := Blk.adopt eE ia yZ
                refine nl (th (sq (sq (rg (wY (ym z) z (wY (yn z) z (wY (yf fo101_0 z) z (wY (yl ty25 z z (eF.cell 0 _ z)) z (wY (Y.neq_i z z) z ?_)))))))))
                refine nl (th ?_)
                rcases cnd h with ⟨eG, h⟩ | ⟨eG, h⟩
                ·refine WC.condT' z eG (rt (At.thenR ?_))
                 have wg := (((((((((((((((((((cm.st aW z z z).st aX z z z).st aM z z z).st ac z z z).st ad z z z).st ae z z z).st af z z z).st ah z z z).st ai z z z).st aj z z z).st ak z z z).st al z z z).st am z z z).st an z z z).st aY z z z).st ao z z z).st aO z z z).st ap z z z).st aq z z z).st aP z z z
                 obtain ⟨y0, e6, wh⟩ := OwnSl.rlb 1006 rfl wg
                 have wi := eF.st e6 z
                 exact At.res (.inl z) z .nil ⟨(f2.e, bR, y0, bK), ⟨some1 h, (tr_ (su_ aM z) (tr_ (su_ ac z) (tr_ (su_ ad z) (tr_ (su_ ae z) (tr_ (su_ af z) (tr_ (su_ ah z) (tr_ (su_ ai z) (tr_ (su_ aj z) (tr_ (su_ ak z) (tr_ (su_ al z) (tr_ (su_ am z) (tr_ (su_ an z) (tr_ (su_ aY z) (tr_ (su_ ao z) (tr_ (su_ aO z) (tr_ (su_ ap z) (tr_ (su_ aq z) (tr_ (su_ aP z) (su_ e6 z))))))))))))))))))), wh, wi⟩, z⟩
                ·refine WC.condF' z eG (sk (th (sq (rg (wY (ym z) z (wY (Y.conv_ui ty33.u ty3.u z) z (wY (ym z) z (wY (Y.conv_ui ty33.u ty3.u z) z (wY (yf fo40_5 z) z ?_)))))))))
                 obtain ⟨F, wj, h⟩ := lt1 h
                 refine WL.ren 42 z (congrArg vi wj.symm) ?_
                 have wo := ((((g2.st ao z).st aO z).st ap z).st aq z).st aP z
                 refine WL.store (v := vi F) (cells' := [vs j.B, (vl bB bC bD), vi q, vi r, vB (decide (d.V = 1)), vi F, vi 0, vi 0, vu 0, vu 0, vi 0, vu 0, vi 0, sn, vi 0, sn, vi 0]) ty3 z z wo z (le_ z) z z ?_
                 intro BO a3 wp
                 refine wY (yf fo40_6 z) z ?_
                 obtain ⟨G, wq, h⟩ := lt1 h
                 refine WL.ren 44 z (congrArg vi wq.symm) (WL.store (v := vi G) (cells' := [vs j.B, (vl bB bC bD), vi q, vi r, vB (decide (d.V = 1)), vi F, vi G, vi 0, vu 0, vu 0, vi 0, vu 0, vi 0, sn, vi 0, sn, vi 0]) ty3 z z wp z (le_ z) z z ?_)
                 intro BP a4 g6
                 refine nl (th (sq (WC.drawH [11, 25] [0, 1, 2, 3, 4, 5, 6, 7, 8, 9] f3 11 fmix z (by kernel_rfl) ?_)))
                 intro BQ aQ
                 refine WD.y 0 z (by kernel_rfl) (fun _ _ _ => yf fo40_1 z) z (WD.y 1 z (by kernel_rfl) (fun BR Cq jo => have ws := g6.st aQ z; have wt := ws.st jo z; yl ty32 z z (wt.cell 1 _ z)) z (WD.y 2 z (by kernel_rfl) (fun _ _ _ => ym z) z (WD.y 3 z (by kernel_rfl) (fun _ _ _ => ym z) z (WD.heavy 4 z (by kernel_rfl) ?_))))
                 have dc := ((((g4.f aq z).f aP z).f a3 z).f a4 z).f aQ z
                 obtain ⟨wu, jt, h⟩ := bnd h
                 refine WL.call (vals := [aN, vi 7]) kok72 z z (c_wire_All (A := fun _ => True) (Sl.all dc) jt) ?_
                 rintro e7 ju ⟨_, rfl, jv, wv⟩
                 obtain ⟨eH, y1, f4, H⟩ := adoptE f3 (fun k => 1) jv
                 have jw : Sl rep_api_Fld ju (frs eH) e7 wu := Sl.adoptF wv (fun k hk => ⟨hk, z⟩) f4
                 refine nl (At.dq (su_ H z) (WD.heavy 5 z (by kernel_rfl) ?_))
                 have cn := (((eF.st a3 z).st a4 z).st aQ z).st H z
                 obtain ⟨⟨g7, eI⟩, jA, h⟩ := bnd h
                 refine WL.call (vals := [pt c 0, e7]) kok74 z z (c_otlp_reader_attrs (A := out [11] eH) (a0 := (otlp_reader.mk f2.e bR)) cn.blk (Sl.notin (L := [11]) (Sl.mono jw frs_imm) z z) (fun k hk => out_ne cn.lab z k hk) jA) ?_
                 rintro e8 co ⟨_, rfl, jB, ww, wx⟩
                 obtain ⟨g8, f5, f6, J⟩ := adopt eH (fun k => if ob e8 = some k then 25 else 1) [11] jB (memB cn.lab rfl)
                 have e9 : OwnSl 25 rep_api_Pair 67 g8 co e8 g7 := RowF.adopt 25 flat_api_Pair ww f6 (fun k hk => if_pos hk)
                 have fa : Blk 11 g8 co c 101 [vi eI.e, bK] := Blk.adopt cn f5 wx
                 refine nl (At.dq (su_ J z) (WD.heavy 6 z (by kernel_rfl) ?_))
                 have jC := h
                 obtain ⟨cS, cT, cU, rfl⟩ := e9.shape
                 have h := jC
                 obtain ⟨eJ, E, jD⟩ := OwnSl.giveF rfl flat_api_Pair e9
                 have j8 := ((((((((((((((((((((((((((((((eh.f bi z).f bj z).f a2 z).f bk z).f bl z).f aW z).f aX z).f aM z).f ac z).f ad z).f ae z).f af z).f ah z).f ai z).f aj z).f ak z).f al z).f am z).f an z).f aY z).f ao z).f aO z).f ap z).f aq z).f aP z).f a3 z).f a4 z).f aQ z).f H z).f J z).f E z
                 have j9 : Stp [11, 12, 13, 14, 15, 16, 17, 19, 20, 21, 22, 23, 24, 25, 28, 30, 31, 1001, 1002, 1006, 1007, 1008, 1009, 1010, 1011, 1012, 1013, 1020, 1021] (Lg.O0 A) w eJ co := (tr_ (su_ bL z) (tr_ (su_ bE z) (tr_ (su_ bG z) (tr_ (su_ bQ z) (tr_ (su_ bM z) (tr_ (su_ bO z) (tr_ (su_ bp z) (tr_ (su_ bq z) (tr_ (su_ br z) (tr_ (su_ bs z) (tr_ (su_ bt z) (tr_ (su_ bP z) (tr_ (su_ bu z) (tr_ (su_ bH z) (tr_ (su_ bw z) (tr_ (su_ bx z) (tr_ (su_ aS z) (tr_ (su_ aT z) (tr_ (su_ aF z) (tr_ (su_ aG z) (tr_ (su_ aH z) (tr_ (su_ aI z) (tr_ (su_ aJ z) (tr_ (su_ aK z) (tr_ (su_ a1 z) (tr_ (su_ ab z) (tr_ (su_ aL z) (tr_ (su_ aU z) (tr_ (su_ a6 z) (tr_ (su_ a7 z) (tr_ (su_ a8 z) (tr_ (su_ a9 z) (tr_ (su_ ba z) (tr_ (su_ bb z) (tr_ (su_ bc z) (tr_ (su_ bd z) (tr_ (su_ bf z) (tr_ (su_ bJ z) (tr_ (su_ bg z) (tr_ (su_ bh z) (tr_ (su_ bz z) (tr_ (su_ bA z) (tr_ (su_ bi z) (tr_ (su_ bj z) (tr_ (su_ a2 z) (tr_ (su_ bk z) (tr_ (su_ bl z) (tr_ (su_ aW z) (tr_ (su_ aX z) (tr_ (su_ aM z) (tr_ (su_ ac z) (tr_ (su_ ad z) (tr_ (su_ ae z) (tr_ (su_ af z) (tr_ (su_ ah z) (tr_ (su_ ai z) (tr_ (su_ aj z) (tr_ (su_ ak z) (tr_ (su_ al z) (tr_ (su_ am z) (tr_ (su_ an z) (tr_ (su_ aY z) (tr_ (su_ ao z) (tr_ (su_ aO z) (tr_ (su_ ap z) (tr_ (su_ aq z) (tr_ (su_ aP z) (tr_ (su_ a3 z) (tr_ (su_ a4 z) (tr_ (su_ aQ z) (tr_ (su_ H z) (tr_ (su_ J z) (su_ E z)))))))))))))))))))))))))))))))))))))))))))))))))))))))))))))))))))))))))
                 have ka : Stp [11, 12, 13, 14, 15, 16, 17, 19, 20, 21, 22, 23, 24, 25, 28, 30, 31, 1001, 1002, 1006, 1007, 1008, 1009, 1010, 1011, 1012, 1013, 1020, 1021] (Lg.O0 A) w eJ co := (tr_ (su_ bL z) (tr_ (su_ bE z) (tr_ (su_ bG z) (tr_ (su_ bQ z) (tr_ (su_ bM z) (tr_ (su_ bO z) (tr_ (su_ bp z) (tr_ (su_ bq z) (tr_ (su_ br z) (tr_ (su_ bs z) (tr_ (su_ bt z) (tr_ (su_ bP z) (tr_ (su_ bu z) (tr_ (su_ bH z) (tr_ (su_ bw z) (tr_ (su_ bx z) (tr_ (su_ aS z) (tr_ (su_ aT z) (tr_ (su_ aF z) (tr_ (su_ aG z) (tr_ (su_ aH z) (tr_ (su_ aI z) (tr_ (su_ aJ z) (tr_ (su_ aK z) (tr_ (su_ a1 z) (tr_ (su_ ab z) (tr_ (su_ aL z) (tr_ (su_ aU z) (tr_ (su_ a6 z) (tr_ (su_ a7 z) (tr_ (su_ a8 z) (tr_ (su_ a9 z) (tr_ (su_ ba z) (tr_ (su_ bb z) (tr_ (su_ bc z) (tr_ (su_ bd z) (tr_ (su_ bf z) (tr_ (su_ bJ z) (tr_ (su_ bg z) (tr_ (su_ bh z) (tr_ (su_ bz z) (tr_ (su_ bA z) (tr_ (su_ bi z) (tr_ (su_ bj z) (tr_ (su_ a2 z) (tr_ (su_ bk z) (tr_ (su_ bl z) (tr_ (su_ aW z) (tr_ (su_ aX z) (tr_ (su_ aM z) (tr_ (su_ ac z) (tr_ (su_ ad z) (tr_ (su_ ae z) (tr_ (su_ af z) (tr_ (su_ ah z) (tr_ (su_ ai z) (tr_ (su_ aj z) (tr_ (su_ ak z) (tr_ (su_ al z) (tr_ (su_ am z) (tr_ (su_ an z) (tr_ (su_ aY z) (tr_ (su_ ao z) (tr_ (su_ aO z) (tr_ (su_ ap z) (tr_ (su_ aq z) (tr_ (su_ aP z) (tr_ (su_ a3 z) (tr_ (su_ a4 z) (tr_ (su_ aQ z) (tr_ (su_ H z) (tr_ (su_ J z) (su_ E z)))))))))))))))))))))))))))))))))))))))))))))))))))))))))))))))))))))))))
                 refine WL.buildSlice (O := eJ) (R := (frR (Rep.sl rep_api_Pair) w.heap.size)) (vals := [(0, (vl bB bC bD)), (1, (vl cS cT cU))]) 26 [(vl bB bC bD), (vl cS cT cU)] (xs := [bS, g7]) (by decide) ty188 ty32 (show 0 < (Rep.sl rep_api_Pair).n by decide) (show 2 * (Rep.sl rep_api_Pair).n ≤ 65536 by decide) (fe_ z) (by kernel_rfl) z ⟨[(vl bB bC bD)], [(vl cS cT cU)], z, ⟨_, z, (Sl.frB j8 j9 low0)⟩, ⟨[(vl cS cT cU)], [], z, ⟨_, z, (Sl.frB jD ka low0)⟩, z⟩⟩ z ?_
                 intro wz wA z7 T kb
                 refine nl (At.dq (tr_ (su_ E z) (su_ T z)) (WD.heavy 7 z (by kernel_rfl) ?_))
                 obtain ⟨wB, kc, h⟩ := bnd h
                 refine WL.call (vals := [wz]) kok136 z z (c_slices_Concat_api_Pair_api_Pair (A := fun _ => True) (Sl.unfr kb.src.sl) kc) ?_
                 rintro dd ke ⟨_, rfl, kf, wC⟩
                 obtain ⟨g9, y2, f7, U⟩ := adoptE wA (fun k => if ob dd = some k then 27 else 1) kf
                 have kg : OwnSl 27 rep_api_Pair 67 g9 ke dd wB := RowF.adopt 27 flat_api_Pair wC f7 (fun k hk => if_pos hk)
                 refine nl (At.dq (su_ U z) (WD.heavy 8 z (by kernel_rfl) ?_))
                 obtain ⟨eK, kh, h⟩ := bnd h
                 refine WL.call (vals := [dd]) kok117 z z (c_label_Sorted (A := fun _ => True) (kg.src.sl) kh) ?_
                 rintro fc ki ⟨_, rfl, kj, wD⟩
                 obtain ⟨eL, y3, f8, W⟩ := adoptE g9 (fun k => if ob fc = some k then 28 else 1) kj
                 have de : OwnSl 28 rep_api_Pair 67 eL ki fc eK := RowF.adopt 28 flat_api_Pair wD f8 (fun k hk => if_pos hk)
                 refine nl (At.dq (su_ W z) (WD.y 9 z (by kernel_rfl) (fun _ _ _ => yf fo40_1 z) z (WD.phase [23] [0, 1, 2, 3, 4, 5, 6, 7, 8, 9, 10] (by kernel_rfl) (by kernel_rfl) (WD.heavy 10 z (by kernel_rfl) ?_))))
                 have kk := h
                 obtain ⟨K, M, P, rfl⟩ := de.shape
                 have h := kk
                 have ks := ((((((g6.st aQ z).st H z).st J z).st E z).st T z).st U z).st W z
                 refine WL.store (v := (vl K M P)) (cells' := [vs j.B, (vl K M P), vi q, vi r, vB (decide (d.V = 1)), vi F, vi G, vi 0, vu 0, vu 0, vi 0, vu 0, vi 0, sn, vi 0, sn, vi 0]) ty32 z z ks z (le_ z) z z ?_
                 intro kt Q fd
                 refine nl (At.dq (su_ Q z) (WD.done_ (by kernel_rfl) (th (sq ?_))))
                 obtain ⟨wE, h, ku⟩ := bnd h
                 refine WC.join (σ := (Int × Int × Own)) (fun x w' => (x.1, x.2.1) = wE ∧ Stp [23] eL kt x.2.2 w' ∧ Blk 23 x.2.2 w' bU 40 [vs j.B, (vl K M P), vi x.1, vi r, vB (decide (d.V = 1)), vi F, vi G, vi x.2.1, vu 0, vu 0, vi 0, vu 0, vi 0, sn, vi 0, sn, vi 0]) (fun x => [(0, pt c 0), (5, pt bU 0), (6, aN)]) ?_ ?_
                 ·refine sq (rg (wY (ym z) z (WL.buildSlice (O := eL) (R := Rep.i) (vals := [(0, vi 6)]) 29 [vi 6] (xs := [6]) (by decide) ty113 ty3 (by decide) (by decide) (fe_ z) (by kernel_rfl) z ⟨[vi 6], [], z, z, z⟩ z ?_)))
                  intro wF wG z8 bX kv
                  have fe := (((((((dc.f H z).f J z).f E z).f T z).f U z).f W z).f Q z).f bX z
                  obtain ⟨BS, kF, h⟩ := bnd h
                  refine WL.call (vals := [aN, wF]) kok137 z z (c_otlp_has (A := fun _ => True) (Sl.all fe) (kv.src.sl) kF) ?_
                  rintro z9 Aa ⟨rfl, kG⟩
                  obtain ⟨ha, y4, y5, bY⟩ := adoptE wG (fun k => 1) kG
                  refine nl (th ?_)
                  rcases cnd h with ⟨df, h⟩ | ⟨df, h⟩
                  ·refine WC.condT' z df (rg (wY (ym z) z ?_))
                   have kH := fe.f bY z
                   obtain ⟨wH, kI, h⟩ := bnd h
                   refine WL.call (vals := [aN, vi 6]) kok114 z z (c_otlp_last (A := fun _ => True) (Sl.all kH) kI) ?_
                   rintro Ab kJ ⟨wI, rfl, kK, wJ⟩
                   obtain ⟨hd, y6, f9, du⟩ := adoptE ha (fun k => 1) kK
                   have Ac : Sl Rep.b kJ (frs hd) wI wH.B := Sl.adoptF wJ (fun k hk => ⟨hk, z⟩) f9
                   refine wY (Y.fieldSc ty72.u z z z ty33 z z z) z (wY (Y.conv_ui ty33.u ty3.u z) z (wY (yf fo40_2 z) z ?_))
                   have kN := ((fd.st bX z).st bY z).st du z
                   refine WL.store (v := vi 1) (cells' := [vs j.B, (vl K M P), vi 1, vi r, vB (decide (d.V = 1)), vi F, vi G, vi 0, vu 0, vu 0, vi 0, vu 0, vi 0, sn, vi 0, sn, vi 0]) ty3 z z kN z (le_ z) z z ?_
                   intro Ad ib kO
                   refine wY (yf fo40_7 z) z ?_
                   obtain ⟨eM, kP, h⟩ := lt1 h
                   refine WL.ren 63 z (congrArg vi kP.symm) (WL.store (v := vi eM) (cells' := [vs j.B, (vl K M P), vi 1, vi r, vB (decide (d.V = 1)), vi F, vi G, vi eM, vu 0, vu 0, vi 0, vu 0, vi 0, sn, vi 0, sn, vi 0]) ty3 z z kO z (le_ z) z z ?_)
                   intro Ae ic kQ
                   refine nl ?_
                   exact At.join (σ := (Int × Int × Own)) (1, eM, hd) ⟨some1 h, (tr_ (su_ bX z) (tr_ (su_ bY z) (tr_ (su_ du z) (tr_ (su_ ib z) (su_ ic z))))), kQ⟩ (.cons z (.cons z (.cons z .nil)))
                  ·refine WC.condF' z df (sk ?_)
                   have kS := (fd.st bX z).st bY z
                   exact At.join (σ := (Int × Int × Own)) (q, 0, ha) ⟨some1 h, (tr_ (su_ bX z) (su_ bY z)), kS⟩ (.cons z (.cons z (.cons z .nil)))
                 ·rintro ⟨ar, t, wK⟩ Af ⟨rfl, X, ff⟩
                  replace h := ku
                  try dsimp only at h X ff
                  refine (show At _ _ _ [(0, pt c 0), (5, pt bU 0), (6, aN)] _ from ?_)
                  refine th (sq (rg (wY (ym z) z ?_)))
                  have fg := (((((((dc.f H z).f J z).f E z).f T z).f U z).f W z).f Q z).f X z
                  obtain ⟨l, k0, h⟩ := bnd h
                  refine WL.call (vals := [aN, vi 4]) kok114 z z (c_otlp_last (A := fun _ => True) (Sl.all fg) k0) ?_
                  rintro Ag k1 ⟨wL, rfl, k2, wM⟩
                  obtain ⟨he, y7, ga, Z⟩ := adoptE wK (fun k => 1) k2
                  have Ah : Sl Rep.b k1 (frs he) wL l.B := Sl.adoptF wM (fun k hk => ⟨hk, z⟩) ga
                  refine wY (Y.fieldSc ty72.u z z z ty33 z z z) z (wY (ym z) z ?_)
                  have fh := fg.f Z z
                  obtain ⟨o, k3, h⟩ := bnd h
                  refine WL.call (vals := [aN, vi 31]) kok114 z z (c_otlp_last (A := fun _ => True) (Sl.all fh) k3) ?_
                  rintro Ai k4 ⟨wN, rfl, k5, wO⟩
                  obtain ⟨cV, y8, gb, aa⟩ := adoptE he (fun k => 1) k5
                  have Aj : Sl Rep.b k4 (frs cV) wN o.B := Sl.adoptF wO (fun k hk => ⟨hk, z⟩) gb
                  refine wY (Y.fieldSc ty72.u z z z ty33 z z z) z (wY (yf fo40_8 z) z ?_)
                  have k7 := (ff.st Z z).st aa z
                  refine WL.store (v := vu l.V) (cells' := [vs j.B, (vl K M P), vi ar, vi r, vB (decide (d.V = 1)), vi F, vi G, vi t, vu l.V, vu 0, vi 0, vu 0, vi 0, sn, vi 0, sn, vi 0]) ty33 z z k7 z (le_ z) z z ?_
                  intro Ak aC k8
                  refine wY (yf fo40_9 z) z (WL.store (v := vu o.V) (cells' := [vs j.B, (vl K M P), vi ar, vi r, vB (decide (d.V = 1)), vi F, vi G, vi t, vu l.V, vu o.V, vi 0, vu 0, vi 0, sn, vi 0, sn, vi 0]) ty33 z z k8 z (le_ z) z z ?_)
                  intro k9 aD dg
                  refine nl (th (sq ?_))
                  obtain ⟨wP, h, la⟩ := bnd h
                  refine WC.join (σ := (Int × Int × UInt64 × Int × List UInt64 × Int × List UInt64 × Own × Value × Value)) (fun x w' => (x.1, x.2.1, x.2.2.1, x.2.2.2.1, x.2.2.2.2.1, x.2.2.2.2.2.1, x.2.2.2.2.2.2.1) = wP ∧ Stp [11, 23, 30, 31] cV k9 x.2.2.2.2.2.2.2.1 w' ∧ Blk 11 x.2.2.2.2.2.2.2.1 w' c 101 [vi x.1, bK] ∧ OwnSl 1020 Rep.u 33 x.2.2.2.2.2.2.2.1 w' x.2.2.2.2.2.2.2.2.1 x.2.2.2.2.1 ∧ OwnSl 1021 Rep.u 33 x.2.2.2.2.2.2.2.1 w' x.2.2.2.2.2.2.2.2.2 x.2.2.2.2.2.2.1 ∧ Blk 23 x.2.2.2.2.2.2.2.1 w' bU 40 [vs j.B, (vl K M P), vi ar, vi r, vB (decide (d.V = 1)), vi F, vi G, vi t, vu l.V, vu o.V, vi x.2.1, vu x.2.2.1, vi x.2.2.2.1, x.2.2.2.2.2.2.2.2.1, vi x.2.2.2.2.2.1, x.2.2.2.2.2.2.2.2.2, vi 0]) (fun x => [(0, pt c 0), (5, pt bU 0)]) ?_ ?_
                  ·refine sq (rg (wY (yf fo40_2 z) z (wY (yl ty3 z z (dg.cell 2 _ z)) z (wY (Y.eql_i z z) z (nl (th ?_))))))
                   rcases cnd h with ⟨dh, h⟩ | ⟨dh, h⟩
                   ·refine WC.condT' z dh (sq (rg (wY (ym z) z (wY (ym z) z ?_))))
                    have fi := ((fh.f aa z).f aC z).f aD z
                    obtain ⟨hf, ld, h⟩ := bnd h
                    refine WL.call (vals := [aN, vi 8]) kok114 z z (c_otlp_last (A := fun _ => True) (Sl.all fi) ld) ?_
                    rintro Al lf ⟨wQ, rfl, lg, wR⟩
                    obtain ⟨hg, y9, gc, b6⟩ := adoptE cV (fun k => 1) lg
                    have Am : Sl Rep.b lf (frs hg) wQ hf.B := Sl.adoptF wR (fun k hk => ⟨hk, z⟩) gc
                    refine wY (Y.fieldSc ty72.u z z z ty33 z z z) z ?_
                    have di := ((((((((((fa.st E z).st T z).st U z).st W z).st Q z).st X z).st Z z).st aa z).st aC z).st aD z).st b6 z
                    obtain ⟨⟨b7, hh⟩, ls, h⟩ := bnd h
                    refine WL.call (vals := [pt c 0, vu hf.V]) kok138 z z (c_otlp_reader_wide (a0 := (otlp_reader.mk eI.e bR)) di.blk ls) ?_
                    rintro An lu ⟨rfl, lv, wS⟩
                    obtain ⟨hi, gd, za, cu⟩ := adopt hg (fun k => 1) [11] lv (memB di.lab rfl)
                    have lw : Blk 11 hi lu c 101 [vi hh.e, bK] := Blk.adopt di gd wS
                    refine wY (ym z) z ?_
                    have fj := (fi.f b6 z).f cu z
                    obtain ⟨b8, ly, h⟩ := bnd h
                    refine WL.call (vals := [aN, vi 9]) kok114 z z (c_otlp_last (A := fun _ => True) (Sl.all fj) ly) ?_
                    rintro Ao lA ⟨wT, rfl, lB, wU⟩
                    obtain ⟨hj, zb, ge, b9⟩ := adoptE hi (fun k => 1) lB
                    have Ap : Sl Rep.b lA (frs hj) wT b8.B := Sl.adoptF wU (fun k hk => ⟨hk, z⟩) ge
                    refine wY (Y.fieldSc ty72.u z z z ty33 z z z) z (wY (yf fo40_10 z) z (wY (yf fo38_0 z) z ?_))
                    have lE := ((dg.st b6 z).st cu z).st b9 z
                    refine WL.store (v := vi b7) (cells' := [vs j.B, (vl K M P), vi ar, vi r, vB (decide (d.V = 1)), vi F, vi G, vi t, vu l.V, vu o.V, vi b7, vu 0, vi 0, sn, vi 0, sn, vi 0]) ty3 z z lE z (le_ z) z z ?_
                    intro Aq cw lF
                    refine wY (yf fo40_10 z) z (wY (yf fo38_1 z) z (WL.store (v := vu b8.V) (cells' := [vs j.B, (vl K M P), vi ar, vi r, vB (decide (d.V = 1)), vi F, vi G, vi t, vu l.V, vu o.V, vi b7, vu b8.V, vi 0, sn, vi 0, sn, vi 0]) ty33 z z lF z (le_ z) z z ?_))
                    intro Ar cx lG
                    refine nl (th (sq (rg (wY (ym z) z (wY (ym z) z ?_)))))
                    have fk := ((fj.f b9 z).f cw z).f cx z
                    obtain ⟨wV, lJ, h⟩ := bnd h
                    refine WL.call (vals := [aN, vi 10]) kok114 z z (c_otlp_last (A := fun _ => True) (Sl.all fk) lJ) ?_
                    rintro As lK ⟨hm, rfl, lL, wW⟩
                    obtain ⟨eN, zc, gf, ca⟩ := adoptE hj (fun k => 1) lL
                    have lM : Sl Rep.b lK (frs eN) hm wV.B := Sl.adoptF wW (fun k hk => ⟨hk, z⟩) gf
                    refine wY (Y.fieldSc ty72.u z z z ty51 z z z) z ?_
                    have cq := (((lw.st b9 z).st cw z).st cx z).st ca z
                    obtain ⟨⟨cb, hn⟩, lQ, h⟩ := bnd h
                    refine WL.call (vals := [pt c 0, hm]) kok139 z z (c_otlp_reader_side (A := out [11] eN) (a0 := (otlp_reader.mk hh.e bR)) cq.blk (Sl.notin (L := [11]) (Sl.mono lM frs_imm) z z) (fun k hk => out_ne cq.lab z k hk) lQ) ?_
                    rintro Au fl ⟨ho, rfl, lR, wX, wZ⟩
                    obtain ⟨eO, gg, gh, cy⟩ := adopt eN (fun k => if ob ho = some k then 30 else 1) [11] lR (memB cq.lab rfl)
                    have fm : OwnSl 30 Rep.u 33 eO fl ho cb.Counts := RowF.adopt 30 Flat.u wX gh (fun k hk => if_pos hk)
                    have lS : Blk 11 eO fl c 101 [vi hn.e, bK] := Blk.adopt cq gg wZ
                    refine wY (yf fo40_10 z) z (wY (yf fo38_2 z) z ?_)
                    have lT := h
                    obtain ⟨cW, cX, cY, rfl⟩ := fm.shape
                    have h := lT
                    have lV := (lG.st ca z).st cy z
                    refine WL.store (v := ag [vi cb.Offset, (vl cW cX cY)]) (cells' := [vs j.B, (vl K M P), vi ar, vi r, vB (decide (d.V = 1)), vi F, vi G, vi t, vu l.V, vu o.V, vi b7, vu b8.V, vi cb.Offset, (vl cW cX cY), vi 0, sn, vi 0]) ty36 z z lV z (le_ z) z z ?_
                    intro Av cc lW
                    refine nl (th (rg (wY (ym z) z (wY (ym z) z ?_))))
                    have lZ := ((fk.f ca z).f cy z).f cc z
                    obtain ⟨w0, l0, h⟩ := bnd h
                    refine WL.call (vals := [aN, vi 11]) kok114 z z (c_otlp_last (A := fun _ => True) (Sl.all lZ) l0) ?_
                    rintro Aw l1 ⟨hq, rfl, l2, w1⟩
                    obtain ⟨eP, zd, gi, cd⟩ := adoptE eO (fun k => 1) l2
                    have l3 : Sl Rep.b l1 (frs eP) hq w0.B := Sl.adoptF w1 (fun k hk => ⟨hk, z⟩) gi
                    refine wY (Y.fieldSc ty72.u z z z ty51 z z z) z ?_
                    have cr := (lS.st cc z).st cd z
                    obtain ⟨⟨cs, hr⟩, l5, h⟩ := bnd h
                    refine WL.call (vals := [pt c 0, hq]) kok139 z z (c_otlp_reader_side (A := out [11] eP) (a0 := (otlp_reader.mk hn.e bR)) cr.blk (Sl.notin (L := [11]) (Sl.mono l3 frs_imm) z z) (fun k hk => out_ne cr.lab z k hk) l5) ?_
                    rintro Ax fn ⟨hs, rfl, l6, w2, w3⟩
                    obtain ⟨ht, gj, gk, cz⟩ := adopt eP (fun k => if ob hs = some k then 31 else 1) [11] l6 (memB cr.lab rfl)
                    have fo : OwnSl 31 Rep.u 33 ht fn hs cs.Counts := RowF.adopt 31 Flat.u w2 gk (fun k hk => if_pos hk)
                    have l7 : Blk 11 ht fn c 101 [vi hr.e, bK] := Blk.adopt cr gj w3
                    refine wY (yf fo40_10 z) z (wY (yf fo38_3 z) z ?_)
                    have l8 := h
                    obtain ⟨eQ, eR, eS, rfl⟩ := fo.shape
                    have h := l8
                    have ma := (lW.st cd z).st cz z
                    refine WL.store (v := ag [vi cs.Offset, (vl eQ eR eS)]) (cells' := [vs j.B, (vl K M P), vi ar, vi r, vB (decide (d.V = 1)), vi F, vi G, vi t, vu l.V, vu o.V, vi b7, vu b8.V, vi cb.Offset, (vl cW cX cY), vi cs.Offset, (vl eQ eR eS), vi 0]) ty36 z z ma z (le_ z) z z ?_
                    intro Ay ce mb
                    refine nl ?_
                    have mf := (((fm.st cc z z z).st cd z z z).st cz z z z).st ce z z z
                    obtain ⟨BT, cf, mg⟩ := OwnSl.rlb 1020 rfl mf
                    have mi := (fo.st ce z z z).st cf z z z
                    obtain ⟨w4, cg, mj⟩ := OwnSl.rlb 1021 rfl mi
                    have mn := ((l7.st ce z).st cf z).st cg z
                    have mo := mg.st cg z z z
                    have mq := (mb.st cf z).st cg z
                    exact At.join (σ := (Int × Int × UInt64 × Int × List UInt64 × Int × List UInt64 × Own × Value × Value)) (hr.e, b7, b8.V, cb.Offset, cb.Counts, cs.Offset, cs.Counts, w4, (vl cW cX cY), (vl eQ eR eS)) ⟨some1 h, (tr_ (su_ b6 z) (tr_ (su_ cu z) (tr_ (su_ b9 z) (tr_ (su_ cw z) (tr_ (su_ cx z) (tr_ (su_ ca z) (tr_ (su_ cy z) (tr_ (su_ cc z) (tr_ (su_ cd z) (tr_ (su_ cz z) (tr_ (su_ ce z) (tr_ (su_ cf z) (su_ cg z))))))))))))), mn, mo, mj, mq⟩ (.cons z (.cons z .nil))
                   ·refine WC.condF' z dh (sk ?_)
                    have mB := (((((((((fa.st E z).st T z).st U z).st W z).st Q z).st X z).st Z z).st aa z).st aC z).st aD z
                    exact At.join (σ := (Int × Int × UInt64 × Int × List UInt64 × Int × List UInt64 × Own × Value × Value)) (eI.e, 0, 0, 0, [], 0, [], cV, sn, sn) ⟨some1 h, (sr_ _ _ _), mB, (OwnSl.nil 1020 Rep.u 33), (OwnSl.nil 1021 Rep.u 33), dg⟩ (.cons z (.cons z .nil))
                  ·rintro ⟨hu, S, I, C, hv, D, hw, eT, eU, eV⟩ mC ⟨rfl, a5, ct, dj, dk, dl⟩
                   replace h := la
                   try dsimp only at h a5 ct dj dk dl
                   refine (show At _ _ _ [(0, pt c 0), (5, pt bU 0)] _ from ?_)
                   refine th (sq ?_)
                   obtain ⟨w5, h, mD⟩ := bnd h
                   refine WC.join (σ := (Int × Own)) (fun x w' => x.1 = w5 ∧ Stp [11] eT mC x.2 w' ∧ Blk 11 x.2 w' c 101 [vi x.1, bK]) (fun x => [(0, pt c 0), (5, pt bU 0)]) ?_ ?_
                   ·refine sq (rg (wY (ym z) z (wY (yn z) z (wY (yf fo101_0 z) z (wY (yl ty25 z z (ct.cell 0 _ z)) z (wY (Y.eql_i z z) z (nl (th ?_))))))))
                    rcases cnd h with ⟨dm, h⟩ | ⟨dm, h⟩
                    ·refine WC.condT' z dm (sq (rg (wY (yL ty40 z z (dl.cells 0 [vs j.B, (vl K M P), vi ar, vi r, vB (decide (d.V = 1)), vi F, vi G, vi t, vu l.V, vu o.V, vi S, vu I, vi C, eU, vi D, eV, vi 0] z) z) z ?_)))
                     have mL := ((((((de.st Q z z z).st X z z z).st Z z z z).st aa z z z).st aC z z z).st aD z z z).st a5 z z z
                     obtain ⟨hx, mM, h⟩ := bnd h
                     refine WL.call (vals := [ag [vs j.B, (vl K M P), vi ar, vi r, vB (decide (d.V = 1)), vi F, vi G, vi t, vu l.V, vu o.V, vi S, vu I, vi C, eU, vi D, eV, vi 0]]) kok17 z z (c_point_Check (A := fun _ => True) (a0 := (api_Point.mk j.B eK ar r (decide (d.V = 1)) F G t l.V o.V (api_Hist.mk S I (api_Side.mk C hv) (api_Side.mk D hw)) 0)) (mL.src.sl) (dj.src.sl) (dk.src.sl) mM) ?_
                     rintro Az AA ⟨rfl, mN⟩
                     obtain ⟨w6, ze, zf, dw⟩ := adoptE eT (fun k => 1) mN
                     refine wY (ya z) z (nl (th (rg (wY (ym z) z (wY (ym z) z (wY (Y.neq_i z z) z (wY (ym z) z ?_)))))))
                     have dn := ct.st dw z
                     obtain ⟨hy, mO, h⟩ := bnd h
                     refine WL.call (vals := [pt c 0, vB (!decide (hx = 0)), vi hx]) kok113 z z (c_otlp_reader_fail (a0 := (otlp_reader.mk hu bR)) dn.blk mO) ?_
                     rintro AB mP ⟨rfl, mQ, w7⟩
                     obtain ⟨hz, gl, zg, ie⟩ := adopt w6 (fun k => 1) [11] mQ (memB dn.lab rfl)
                     have mR : Blk 11 hz mP c 101 [vi hy.e, bK] := Blk.adopt dn gl w7
                     refine nl ?_
                     exact At.join (σ := (Int × Own)) (hy.e, hz) ⟨some1 h, (tr_ (su_ dw z) (su_ ie z)), mR⟩ (.cons z (.cons z .nil))
                    ·refine WC.condF' z dm (sk ?_)
                     exact At.join (σ := (Int × Own)) (hu, eT) ⟨some1 h, (sr_ _ _ _), ct⟩ (.cons z (.cons z .nil))
                   ·rintro ⟨eW, w8⟩ AC ⟨rfl, aE, b5⟩
                    replace h := mD
                    try dsimp only at h aE b5
                    refine (show At _ _ _ [(0, pt c 0), (5, pt bU 0)] _ from ?_)
                    refine th (sq (rg (wY (ym z) z (wY (yn z) z (wY (yf fo101_0 z) z (wY (yl ty25 z z (b5.cell 0 _ z)) z (wY (Y.eql_i z z) z (nl (th ?_)))))))))
                    rcases cnd h with ⟨dp, h⟩ | ⟨dp, h⟩
                    ·refine WC.condT' z dp (WC.drawH [28, 1007, 1020, 1021] [0, 1, 2, 3, 4, 5, 6, 7, 8, 9] w8 11 fmix z (by kernel_rfl) ?_)
                     intro dr aZ
                     refine WD.y 0 z (by kernel_rfl) (fun _ _ _ => ym z) z (WD.y 1 z (by kernel_rfl) (fun _ _ _ => ym z) z (WD.y 2 z (by kernel_rfl) (fun _ _ _ => yn z) z (WD.y 3 z (by kernel_rfl) (fun _ _ _ => yf fo101_1 z) z (WD.y 4 z (by kernel_rfl) (fun AD BU ig => have mS := b5.st aZ z; have mT := mS.st ig z; yl ty22 z z (mT.cell 1 _ z)) z (WD.y 5 z (by kernel_rfl) (fun AE BV ih => have mU := dl.st aE z; have mV := mU.st aZ z; have mW := mV.st ih z; yL ty40 z z (mW.cells 0 [vs j.B, (vl K M P), vi ar, vi r, vB (decide (d.V = 1)), vi F, vi G, vi t, vu l.V, vu o.V, vi S, vu I, vi C, eU, vi D, eV, vi 0] z) z) z (WD.heavy 6 z (by kernel_rfl) ?_))))))
                     have fp := (dj.st aE z z z).st aZ z z z
                     have mY := h
                     obtain ⟨au, av, ax, rfl⟩ := fp.shape
                     have h := mY
                     have fq := (dk.st aE z z z).st aZ z z z
                     have m0 := h
                     obtain ⟨ay, az, aA, rfl⟩ := fq.shape
                     have h := m0
                     have m9 := ((((((((de.st Q z z z).st X z z z).st Z z z z).st aa z z z).st aC z z z).st aD z z z).st a5 z z z).st aE z z z).st aZ z z z
                     obtain ⟨BW, bm, na⟩ := OwnSl.giveF rfl flat_api_Pair m9
                     have nb := fp.st bm z z z
                     obtain ⟨BX, bn, nc⟩ := OwnSl.giveF rfl Flat.u nb
                     have nf := (fq.st bm z z z).st bn z z z
                     obtain ⟨cZ, bo, ng⟩ := OwnSl.giveF rfl Flat.u nf
                     have ni := (na.f bn z).f bo z
                     have nj : Stp [11, 12, 13, 14, 15, 16, 17, 19, 20, 21, 22, 23, 24, 25, 28, 30, 31, 1001, 1002, 1006, 1007, 1008, 1009, 1010, 1011, 1012, 1013, 1020, 1021] (Lg.O0 A) w cZ dr := (tr_ (su_ bL z) (tr_ (su_ bE z) (tr_ (su_ bG z) (tr_ (su_ bQ z) (tr_ (su_ bM z) (tr_ (su_ bO z) (tr_ (su_ bp z) (tr_ (su_ bq z) (tr_ (su_ br z) (tr_ (su_ bs z) (tr_ (su_ bt z) (tr_ (su_ bP z) (tr_ (su_ bu z) (tr_ (su_ bH z) (tr_ (su_ bw z) (tr_ (su_ bx z) (tr_ (su_ aS z) (tr_ (su_ aT z) (tr_ (su_ aF z) (tr_ (su_ aG z) (tr_ (su_ aH z) (tr_ (su_ aI z) (tr_ (su_ aJ z) (tr_ (su_ aK z) (tr_ (su_ a1 z) (tr_ (su_ ab z) (tr_ (su_ aL z) (tr_ (su_ aU z) (tr_ (su_ a6 z) (tr_ (su_ a7 z) (tr_ (su_ a8 z) (tr_ (su_ a9 z) (tr_ (su_ ba z) (tr_ (su_ bb z) (tr_ (su_ bc z) (tr_ (su_ bd z) (tr_ (su_ bf z) (tr_ (su_ bJ z) (tr_ (su_ bg z) (tr_ (su_ bh z) (tr_ (su_ bz z) (tr_ (su_ bA z) (tr_ (su_ bi z) (tr_ (su_ bj z) (tr_ (su_ a2 z) (tr_ (su_ bk z) (tr_ (su_ bl z) (tr_ (su_ aW z) (tr_ (su_ aX z) (tr_ (su_ aM z) (tr_ (su_ ac z) (tr_ (su_ ad z) (tr_ (su_ ae z) (tr_ (su_ af z) (tr_ (su_ ah z) (tr_ (su_ ai z) (tr_ (su_ aj z) (tr_ (su_ ak z) (tr_ (su_ al z) (tr_ (su_ am z) (tr_ (su_ an z) (tr_ (su_ aY z) (tr_ (su_ ao z) (tr_ (su_ aO z) (tr_ (su_ ap z) (tr_ (su_ aq z) (tr_ (su_ aP z) (tr_ (su_ a3 z) (tr_ (su_ a4 z) (tr_ (su_ aQ z) (tr_ (su_ H z) (tr_ (su_ J z) (tr_ (su_ E z) (tr_ (su_ T z) (tr_ (su_ U z) (tr_ (su_ W z) (tr_ (su_ Q z) (tr_ (su_ X z) (tr_ (su_ Z z) (tr_ (su_ aa z) (tr_ (su_ aC z) (tr_ (su_ aD z) (tr_ (su_ a5 z) (tr_ (su_ aE z) (tr_ (su_ aZ z) (tr_ (su_ bm z) (tr_ (su_ bn z) (su_ bo z))))))))))))))))))))))))))))))))))))))))))))))))))))))))))))))))))))))))))))))))))))))))
                     have nk := nc.f bo z
                     have nm : Stp [11, 12, 13, 14, 15, 16, 17, 19, 20, 21, 22, 23, 24, 25, 28, 30, 31, 1001, 1002, 1006, 1007, 1008, 1009, 1010, 1011, 1012, 1013, 1020, 1021] (Lg.O0 A) w cZ dr := (tr_ (su_ bL z) (tr_ (su_ bE z) (tr_ (su_ bG z) (tr_ (su_ bQ z) (tr_ (su_ bM z) (tr_ (su_ bO z) (tr_ (su_ bp z) (tr_ (su_ bq z) (tr_ (su_ br z) (tr_ (su_ bs z) (tr_ (su_ bt z) (tr_ (su_ bP z) (tr_ (su_ bu z) (tr_ (su_ bH z) (tr_ (su_ bw z) (tr_ (su_ bx z) (tr_ (su_ aS z) (tr_ (su_ aT z) (tr_ (su_ aF z) (tr_ (su_ aG z) (tr_ (su_ aH z) (tr_ (su_ aI z) (tr_ (su_ aJ z) (tr_ (su_ aK z) (tr_ (su_ a1 z) (tr_ (su_ ab z) (tr_ (su_ aL z) (tr_ (su_ aU z) (tr_ (su_ a6 z) (tr_ (su_ a7 z) (tr_ (su_ a8 z) (tr_ (su_ a9 z) (tr_ (su_ ba z) (tr_ (su_ bb z) (tr_ (su_ bc z) (tr_ (su_ bd z) (tr_ (su_ bf z) (tr_ (su_ bJ z) (tr_ (su_ bg z) (tr_ (su_ bh z) (tr_ (su_ bz z) (tr_ (su_ bA z) (tr_ (su_ bi z) (tr_ (su_ bj z) (tr_ (su_ a2 z) (tr_ (su_ bk z) (tr_ (su_ bl z) (tr_ (su_ aW z) (tr_ (su_ aX z) (tr_ (su_ aM z) (tr_ (su_ ac z) (tr_ (su_ ad z) (tr_ (su_ ae z) (tr_ (su_ af z) (tr_ (su_ ah z) (tr_ (su_ ai z) (tr_ (su_ aj z) (tr_ (su_ ak z) (tr_ (su_ al z) (tr_ (su_ am z) (tr_ (su_ an z) (tr_ (su_ aY z) (tr_ (su_ ao z) (tr_ (su_ aO z) (tr_ (su_ ap z) (tr_ (su_ aq z) (tr_ (su_ aP z) (tr_ (su_ a3 z) (tr_ (su_ a4 z) (tr_ (su_ aQ z) (tr_ (su_ H z) (tr_ (su_ J z) (tr_ (su_ E z) (tr_ (su_ T z) (tr_ (su_ U z) (tr_ (su_ W z) (tr_ (su_ Q z) (tr_ (su_ X z) (tr_ (su_ Z z) (tr_ (su_ aa z) (tr_ (su_ aC z) (tr_ (su_ aD z) (tr_ (su_ a5 z) (tr_ (su_ aE z) (tr_ (su_ aZ z) (tr_ (su_ bm z) (tr_ (su_ bn z) (su_ bo z))))))))))))))))))))))))))))))))))))))))))))))))))))))))))))))))))))))))))))))))))))))))
                     have nn : Stp [11, 12, 13, 14, 15, 16, 17, 19, 20, 21, 22, 23, 24, 25, 28, 30, 31, 1001, 1002, 1006, 1007, 1008, 1009, 1010, 1011, 1012, 1013, 1020, 1021] (Lg.O0 A) w cZ dr := (tr_ (su_ bL z) (tr_ (su_ bE z) (tr_ (su_ bG z) (tr_ (su_ bQ z) (tr_ (su_ bM z) (tr_ (su_ bO z) (tr_ (su_ bp z) (tr_ (su_ bq z) (tr_ (su_ br z) (tr_ (su_ bs z) (tr_ (su_ bt z) (tr_ (su_ bP z) (tr_ (su_ bu z) (tr_ (su_ bH z) (tr_ (su_ bw z) (tr_ (su_ bx z) (tr_ (su_ aS z) (tr_ (su_ aT z) (tr_ (su_ aF z) (tr_ (su_ aG z) (tr_ (su_ aH z) (tr_ (su_ aI z) (tr_ (su_ aJ z) (tr_ (su_ aK z) (tr_ (su_ a1 z) (tr_ (su_ ab z) (tr_ (su_ aL z) (tr_ (su_ aU z) (tr_ (su_ a6 z) (tr_ (su_ a7 z) (tr_ (su_ a8 z) (tr_ (su_ a9 z) (tr_ (su_ ba z) (tr_ (su_ bb z) (tr_ (su_ bc z) (tr_ (su_ bd z) (tr_ (su_ bf z) (tr_ (su_ bJ z) (tr_ (su_ bg z) (tr_ (su_ bh z) (tr_ (su_ bz z) (tr_ (su_ bA z) (tr_ (su_ bi z) (tr_ (su_ bj z) (tr_ (su_ a2 z) (tr_ (su_ bk z) (tr_ (su_ bl z) (tr_ (su_ aW z) (tr_ (su_ aX z) (tr_ (su_ aM z) (tr_ (su_ ac z) (tr_ (su_ ad z) (tr_ (su_ ae z) (tr_ (su_ af z) (tr_ (su_ ah z) (tr_ (su_ ai z) (tr_ (su_ aj z) (tr_ (su_ ak z) (tr_ (su_ al z) (tr_ (su_ am z) (tr_ (su_ an z) (tr_ (su_ aY z) (tr_ (su_ ao z) (tr_ (su_ aO z) (tr_ (su_ ap z) (tr_ (su_ aq z) (tr_ (su_ aP z) (tr_ (su_ a3 z) (tr_ (su_ a4 z) (tr_ (su_ aQ z) (tr_ (su_ H z) (tr_ (su_ J z) (tr_ (su_ E z) (tr_ (su_ T z) (tr_ (su_ U z) (tr_ (su_ W z) (tr_ (su_ Q z) (tr_ (su_ X z) (tr_ (su_ Z z) (tr_ (su_ aa z) (tr_ (su_ aC z) (tr_ (su_ aD z) (tr_ (su_ a5 z) (tr_ (su_ aE z) (tr_ (su_ aZ z) (tr_ (su_ bm z) (tr_ (su_ bn z) (su_ bo z))))))))))))))))))))))))))))))))))))))))))))))))))))))))))))))))))))))))))))))))))))))))
                     refine WL.buildSlice (O := cZ) (R := (frR rep_api_Point w.heap.size)) (vals := [(0, ag [vs j.B, (vl K M P), vi ar, vi r, vB (decide (d.V = 1)), vi F, vi G, vi t, vu l.V, vu o.V, vi S, vu I, vi C, (vl au av ax), vi D, (vl ay az aA), vi 0])]) 32 [vs j.B, (vl K M P), vi ar, vi r, vB (decide (d.V = 1)), vi F, vi G, vi t, vu l.V, vu o.V, vi S, vu I, vi C, (vl au av ax), vi D, (vl ay az aA), vi 0] (xs := [(api_Point.mk j.B eK ar r (decide (d.V = 1)) F G t l.V o.V (api_Hist.mk S I (api_Side.mk C hv) (api_Side.mk D hw)) 0)]) (by decide) ty22 ty40 (show 0 < rep_api_Point.n by decide) (show 1 * rep_api_Point.n ≤ 65536 by decide) (fe_ z) (by kernel_rfl) z ⟨[vs j.B, (vl K M P), vi ar, vi r, vB (decide (d.V = 1)), vi F, vi G, vi t, vu l.V, vu o.V, vi S, vu I, vi C, (vl au av ax), vi D, (vl ay az aA), vi 0], [], z, ⟨[vs j.B], [(vl K M P), vi ar, vi r, vB (decide (d.V = 1)), vi F, vi G, vi t, vu l.V, vu o.V, vi S, vu I, vi C, (vl au av ax), vi D, (vl ay az aA), vi 0], z, z, ⟨[(vl K M P)], [vi ar, vi r, vB (decide (d.V = 1)), vi F, vi G, vi t, vu l.V, vu o.V, vi S, vu I, vi C, (vl au av ax), vi D, (vl ay az aA), vi 0], z, ⟨_, z, (Sl.frB ni nj low0)⟩, ⟨[vi ar], [vi r, vB (decide (d.V = 1)), vi F, vi G, vi t, vu l.V, vu o.V, vi S, vu I, vi C, (vl au av ax), vi D, (vl ay az aA), vi 0], z, z, ⟨[vi r], [vB (decide (d.V = 1)), vi F, vi G, vi t, vu l.V, vu o.V, vi S, vu I, vi C, (vl au av ax), vi D, (vl ay az aA), vi 0], z, z, ⟨[vB (decide (d.V = 1))], [vi F, vi G, vi t, vu l.V, vu o.V, vi S, vu I, vi C, (vl au av ax), vi D, (vl ay az aA), vi 0], z, z, ⟨[vi F], [vi G, vi t, vu l.V, vu o.V, vi S, vu I, vi C, (vl au av ax), vi D, (vl ay az aA), vi 0], z, z, ⟨[vi G], [vi t, vu l.V, vu o.V, vi S, vu I, vi C, (vl au av ax), vi D, (vl ay az aA), vi 0], z, z, ⟨[vi t], [vu l.V, vu o.V, vi S, vu I, vi C, (vl au av ax), vi D, (vl ay az aA), vi 0], z, z, ⟨[vu l.V], [vu o.V, vi S, vu I, vi C, (vl au av ax), vi D, (vl ay az aA), vi 0], z, z, ⟨[vu o.V], [vi S, vu I, vi C, (vl au av ax), vi D, (vl ay az aA), vi 0], z, z, ⟨[vi S, vu I, vi C, (vl au av ax), vi D, (vl ay az aA)], [vi 0], z, ⟨[vi S], [vu I, vi C, (vl au av ax), vi D, (vl ay az aA)], z, z, ⟨[vu I], [vi C, (vl au av ax), vi D, (vl ay az aA)], z, z, ⟨[vi C, (vl au av ax)], [vi D, (vl ay az aA)], z, ⟨[vi C], [(vl au av ax)], z, z, ⟨_, z, (Sl.frB nk nm low0)⟩⟩, ⟨[vi D], [(vl ay az aA)], z, z, ⟨_, z, (Sl.frB ng nn low0)⟩⟩⟩⟩⟩, z⟩⟩⟩⟩⟩⟩⟩⟩⟩⟩⟩, z⟩ z ?_
                     intro BY BZ AF ch np
                     refine nl (At.dq (tr_ (su_ bm z) (tr_ (su_ bn z) (tr_ (su_ bo z) (su_ ch z)))) (WD.heavy 7 z (by kernel_rfl) ?_))
                     obtain ⟨nq, ii, h⟩ := bnd h
                     have od := (((((((((((((((((((((((((((((((((((((((((cm.st aW z z z).st aX z z z).st aM z z z).st ac z z z).st ad z z z).st ae z z z).st af z z z).st ah z z z).st ai z z z).st aj z z z).st ak z z z).st al z z z).st am z z z).st an z z z).st aY z z z).st ao z z z).st aO z z z).st ap z z z).st aq z z z).st aP z z z).st a3 z z z).st a4 z z z).st aQ z z z).st H z z z).st J z z z).st E z z z).st T z z z).st U z z z).st W z z z).st Q z z z).st X z z z).st Z z z z).st aa z z z).st aC z z z).st aD z z z).st a5 z z z).st aE z z z).st aZ z z z).st bm z z z).st bn z z z).st bo z z z).st ch z z z
                     refine WL.append (by decide) ty22 ty40 z (by decide) z z od np.src ii z ?_
                     intro B0 B1 AG cA fs
                     refine nl (At.dq (su_ cA z) (WD.y 8 z (by kernel_rfl) (fun _ _ _ => yn z) z (WD.y 9 z (by kernel_rfl) (fun _ _ _ => yf fo101_1 z) z (WD.phase [11] [0, 1, 2, 3, 4, 5, 6, 7, 8, 9, 10] (by kernel_rfl) (by kernel_rfl) (WD.heavy 10 z (by kernel_rfl) ?_)))))
                     have oe := h
                     obtain ⟨eX, eY, eZ, rfl⟩ := fs.shape
                     have h := oe
                     have om := (((((b5.st aZ z).st bm z).st bn z).st bo z).st ch z).st cA z
                     refine WL.store (v := (vl eX eY eZ)) (cells' := [vi eW, (vl eX eY eZ)]) ty22 z z om z (le_ z) z z ?_
                     intro AH cC oo
                     refine nl (At.dq (su_ cC z) (WD.done_ (by kernel_rfl) ?_))
                     have op := fs.st cC z z z
                     obtain ⟨w9, dx, oq⟩ := OwnSl.rlb 1006 rfl op
                     have os := oo.st dx z
                     exact At.res (.inr z) z .nil ⟨(eW, nq, w9, (vl eX eY eZ)), ⟨some1 h, (tr_ (su_ aM z) (tr_ (su_ ac z) (tr_ (su_ ad z) (tr_ (su_ ae z) (tr_ (su_ af z) (tr_ (su_ ah z) (tr_ (su_ ai z) (tr_ (su_ aj z) (tr_ (su_ ak z) (tr_ (su_ al z) (tr_ (su_ am z) (tr_ (su_ an z) (tr_ (su_ aY z) (tr_ (su_ ao z) (tr_ (su_ aO z) (tr_ (su_ ap z) (tr_ (su_ aq z) (tr_ (su_ aP z) (tr_ (su_ a3 z) (tr_ (su_ a4 z) (tr_ (su_ aQ z) (tr_ (su_ H z) (tr_ (su_ J z) (tr_ (su_ E z) (tr_ (su_ T z) (tr_ (su_ U z) (tr_ (su_ W z) (tr_ (su_ Q z) (tr_ (su_ X z) (tr_ (su_ Z z) (tr_ (su_ aa z) (tr_ (su_ aC z) (tr_ (su_ aD z) (tr_ (su_ a5 z) (tr_ (su_ aE z) (tr_ (su_ aZ z) (tr_ (su_ bm z) (tr_ (su_ bn z) (tr_ (su_ bo z) (tr_ (su_ ch z) (tr_ (su_ cA z) (tr_ (su_ cC z) (su_ dx z))))))))))))))))))))))))))))))))))))))))))), oq, os⟩, z⟩
                    ·refine WC.condF' z dp (sk ?_)
                     have o3 := ((((((((((((((((((((((((((((((((((((cm.st aW z z z).st aX z z z).st aM z z z).st ac z z z).st ad z z z).st ae z z z).st af z z z).st ah z z z).st ai z z z).st aj z z z).st ak z z z).st al z z z).st am z z z).st an z z z).st aY z z z).st ao z z z).st aO z z z).st ap z z z).st aq z z z).st aP z z z).st a3 z z z).st a4 z z z).st aQ z z z).st H z z z).st J z z z).st E z z z).st T z z z).st U z z z).st W z z z).st Q z z z).st X z z z).st Z z z z).st aa z z z).st aC z z z).st aD z z z).st a5 z z z).st aE z z z
                     obtain ⟨xa, dy, o4⟩ := OwnSl.rlb 1006 rfl o3
                     have o5 := b5.st dy z
                     exact At.res (.inr z) z .nil ⟨(eW, bR, xa, bK), ⟨some1 h, (tr_ (su_ aM z) (tr_ (su_ ac z) (tr_ (su_ ad z) (tr_ (su_ ae z) (tr_ (su_ af z) (tr_ (su_ ah z) (tr_ (su_ ai z) (tr_ (su_ aj z) (tr_ (su_ ak z) (tr_ (su_ al z) (tr_ (su_ am z) (tr_ (su_ an z) (tr_ (su_ aY z) (tr_ (su_ ao z) (tr_ (su_ aO z) (tr_ (su_ ap z) (tr_ (su_ aq z) (tr_ (su_ aP z) (tr_ (su_ a3 z) (tr_ (su_ a4 z) (tr_ (su_ aQ z) (tr_ (su_ H z) (tr_ (su_ J z) (tr_ (su_ E z) (tr_ (su_ T z) (tr_ (su_ U z) (tr_ (su_ W z) (tr_ (su_ Q z) (tr_ (su_ X z) (tr_ (su_ Z z) (tr_ (su_ aa z) (tr_ (su_ aC z) (tr_ (su_ aD z) (tr_ (su_ a5 z) (tr_ (su_ aE z) (su_ dy z)))))))))))))))))))))))))))))))))))), o4, o5⟩, z⟩
              ·rintro ⟨zh, zi, Cr, zj⟩ B2 ⟨rfl, ft, hC, hD⟩
               replace h := uM
               try dsimp only at h ft hC hD
               refine (show WL _ _ _ _ _ ((100, tp []) :: _) _ from ?_)
               refine nl (At.inBlock (th (rg (wY (Y.add_i z z) z (wY (ym z) z (nl ?_))))))
               obtain ⟨xb, dz, o6⟩ := OwnSl.rlb 1007 rfl hC
               have o7 := hD.st dz z
               exact At.round (zh, zi, w64 (je + 1), xb, zj) yJ (Nat.lt_succ_self _) ⟨next1 h gY, (tr_ (su_ bl z) (tr_ (su_ aW z) (tr_ (su_ aX z) (tr_ (su_ ft z) (su_ dz z))))), o6, o7⟩ (.cons z (.cons z (.cons z (.cons z (.cons z .nil)))))
             ·refine WC.condF' z eo (WC.exit (At.thenX (At.loopX ?_)))
              obtain ⟨xc, dA, o8⟩ := OwnSl.rlb 1008 rfl cm
              have o9 := en.st dA z
              exact At.hitB (σ := (Int × List api_Point × Own × Value)) (jd, bR, xc, bK) ⟨brk1 h gY, (tr_ (su_ bl z) (su_ dA z)), o8, o9⟩ .nil
            ·rintro ⟨zk, zm, Cs, zn⟩ B3 ⟨rfl, ds, hE, hF⟩
             replace h := flowK_go tS
             try dsimp only at h ds hE hF
             refine (show At _ _ _ [] _ from ?_)
             refine At.inBlockHit ?_
             obtain ⟨xd, cD, pa⟩ := OwnSl.rlb 1009 rfl hE
             have pb := hF.st cD z
             have ph := (((((eh.f bi z).f bj z).f a2 z).f bk z).f ds z).f cD z
             exact At.res (.inr z) z .nil ⟨(zk, zm, bS, xd, zn), ⟨some1 h, (tr_ (su_ aF z) (tr_ (su_ aG z) (tr_ (su_ aH z) (tr_ (su_ aI z) (tr_ (su_ aJ z) (tr_ (su_ aK z) (tr_ (su_ a1 z) (tr_ (su_ ab z) (tr_ (su_ aL z) (tr_ (su_ aU z) (tr_ (su_ a6 z) (tr_ (su_ a7 z) (tr_ (su_ a8 z) (tr_ (su_ a9 z) (tr_ (su_ ba z) (tr_ (su_ bb z) (tr_ (su_ bc z) (tr_ (su_ bd z) (tr_ (su_ bf z) (tr_ (su_ bJ z) (tr_ (su_ bg z) (tr_ (su_ bh z) (tr_ (su_ bz z) (tr_ (su_ bA z) (tr_ (su_ bi z) (tr_ (su_ bj z) (tr_ (su_ a2 z) (tr_ (su_ bk z) (tr_ (su_ ds z) (su_ cD z)))))))))))))))))))))))))))))), pa, pb, ph⟩, z⟩
       ·rintro ⟨zo, zp, fu, Ct, zq⟩ B4 ⟨rfl, fw, hG, hH, hI⟩
        replace h := qK
        try dsimp only at h fw hG hH hI
        refine (show WL _ _ _ _ _ ((45, tp []) :: _) _ from ?_)
        refine nl (At.inBlock (th (rg (wY (Y.add_i z z) z (wY (ym z) z (nl ?_))))))
        obtain ⟨xe, cE, pi⟩ := OwnSl.rlb 1010 rfl hG
        have pj := hH.st cE z
        have pk := hI.f cE z
        exact At.round (zo, zp, fu, w64 (iD + 1), xe, zq) x0 (Nat.lt_succ_self _) ⟨next1 h gw, (tr_ (su_ bx z) (tr_ (su_ aS z) (tr_ (su_ aT z) (tr_ (su_ fw z) (su_ cE z))))), pi, pj, pk⟩ (.cons z (.cons z (.cons z (.cons z (.cons z (.cons z (.cons z (.cons z .nil))))))))
      ·refine WC.condF' z dR (WC.exit (At.thenX (At.loopX ?_)))
       obtain ⟨xf, dB, pl⟩ := OwnSl.rlb 1011 rfl cK
       have pm := dP.st dB z
       exact At.hitB (σ := (Int × List api_Point × Own × Value)) (iC, cj, xf, ck) ⟨brk1 h gw, (tr_ (su_ bx z) (su_ dB z)), pl, pm⟩ (.cons z (.cons z (.cons z (.cons z .nil))))
     ·rintro ⟨zr, zs, Cu, zt⟩ B5 ⟨rfl, fx, hJ, hK⟩
      replace h := flowK_go qh
      try dsimp only at h fx hJ hK
      refine (show At _ _ _ [(4, pt c 0), (18, bZ), (19, vi (ci.length : Int)), (20, vi cF)] _ from ?_)
      refine At.inBlockHit ?_
      obtain ⟨xg, dC, pn⟩ := OwnSl.rlb 1012 rfl hJ
      have po := hK.st dC z
      exact At.join (σ := (Int × List api_Point × Own × Value)) (zr, zs, xg, zt) ⟨some1 h, (tr_ (su_ fx z) (su_ dC z)), pn, po⟩ (.cons z (.cons z (.cons z (.cons z .nil))))
    ·rintro ⟨zu, zv, Cv, zw⟩ B6 ⟨rfl, fy, hL, hM⟩
     replace h := qg
     try dsimp only at h fy hL hM
     refine (show At _ _ _ [(4, pt c 0), (18, bZ), (19, vi (ci.length : Int)), (20, vi cF)] _ from ?_)
     refine At.inBlock (th (rg (wY (Y.add_i z z) z (wY (ym z) z (nl ?_)))))
     obtain ⟨xh, dD, pp⟩ := OwnSl.rlb 1013 rfl hL
     have pq := hM.st dD z
     exact At.round (zu, zv, w64 (cF + 1), xh, zw) zX (Nat.lt_succ_self _) ⟨next1 h it, (tr_ (su_ bO z) (tr_ (su_ bp z) (tr_ (su_ bq z) (tr_ (su_ br z) (tr_ (su_ bs z) (tr_ (su_ bt z) (tr_ (su_ bP z) (tr_ (su_ bu z) (tr_ (su_ bH z) (tr_ (su_ bw z) (tr_ (su_ fy z) (su_ dD z)))))))))))), pp, pq⟩ (.cons z (.cons z (.cons z (.cons z .nil))))
   ·refine WC.condF' z fB (WC.exit (At.thenX (At.loopX ?_)))
    obtain ⟨xi, dE, ps⟩ := OwnSl.rlb 1014 rfl fz
    have pu := fA.st dE z
    exact At.hitB (σ := (Int × List api_Point × Own × Value)) (xp, gm, xi, gn) ⟨brk1 h it, (tr_ (su_ bO z) (su_ dE z)), ps, pu⟩ (.cons z .nil)
  ·rintro ⟨AI, AJ, Cz, AK⟩ Cw ⟨rfl, hN, pw, px⟩
   replace h := flowK_go xG
   try dsimp only at h hN pw px
   refine (show At _ _ _ [(4, pt c 0)] _ from ?_)
   refine At.inBlockHit ?_
   obtain ⟨xj, dF, py⟩ := OwnSl.rlb 1016 rfl pw
   have pz := px.st dF z
   exact At.join (σ := (Int × List api_Point × Own × Value)) (AI, AJ, xj, AK) ⟨some1 h, (tr_ (su_ hN z) (su_ dF z)), py, pz⟩ (.cons z .nil)
 ·rintro ⟨CA, CB, pA, AL⟩ pB ⟨rfl, c0, pC, e0⟩
  replace h := xE
  try dsimp only at h c0 pC e0
  refine (show At _ _ _ [(4, pt c 0)] _ from ?_)
  refine th (sq (sq (rg (wY (ym z) z (wY (yn z) z (wY (yf fo101_0 z) z (wY (yl ty25 z z (e0.cell 0 _ z)) z (wY (Y.neq_i z z) z (nl ?_)))))))))
  refine th ?_
  rcases cnd h with ⟨dt, h⟩ | ⟨dt, h⟩
  ·refine WC.condT' z dt (sq (WC.draw 5 pA fmix (by kernel_rfl) ?_))
   intro pD dG
   refine WS.y (ym z) z (WS.y (yn z) z (WS.y (yf fo101_0 z) z ?_))
   have pE := e0.st dG z
   refine WS.y (yl ty25 z z (pE.cell 0 _ z)) z (WS.y (ya z) z (WS.tail (wY (ya z) z (nl (th (rt (At.thenR ?_)))))))
   obtain ⟨rfl, rfl⟩ := tup2 h
   have pF : Stp [11, 12, 13, 14, 15, 16, 17, 19, 20, 21, 22, 23, 24, 25, 28, 30, 31, 1001, 1002, 1006, 1007, 1008, 1009, 1010, 1011, 1012, 1013, 1014, 1020, 1021] (Lg.O0 A) w pA pD := (tr_ (su_ bL z) (tr_ (su_ bE z) (tr_ (su_ bG z) (tr_ (su_ bQ z) (tr_ (su_ bM z) (tr_ (su_ c0 z) (su_ dG z)))))))
   exact At.res (.inl z) z (.tmp z (.tmp z .nil)) ⟨sn, z, (se_ pF z z), (Or.inl ⟨z, z⟩)⟩
  ·refine WC.condF' z dt (sk (th (sq (rg (wY (ym z) z (wY (yn z) z (wY (yf fo101_1 z) z (wY (yl ty22 z z (e0.cell 1 _ z)) z (wY (ya z) z ?_)))))))))
   refine wY (ya z) z (nl (th (rt ?_)))
   obtain ⟨rfl, rfl⟩ := tup2 h
   have pG : Stp [11, 12, 13, 14, 15, 16, 17, 19, 20, 21, 22, 23, 24, 25, 28, 30, 31, 1001, 1002, 1006, 1007, 1008, 1009, 1010, 1011, 1012, 1013, 1014, 1020, 1021] (Lg.O0 A) w pA pB := (tr_ (su_ bL z) (tr_ (su_ bE z) (tr_ (su_ bG z) (tr_ (su_ bQ z) (tr_ (su_ bM z) (su_ c0 z))))))
   obtain ⟨xk, ij, pH⟩ := OwnSl.giveB rfl pC pG low0
   have pI : Stp [11, 12, 13, 14, 15, 16, 17, 19, 20, 21, 22, 23, 24, 25, 28, 30, 31, 1001, 1002, 1006, 1007, 1008, 1009, 1010, 1011, 1012, 1013, 1014, 1016, 1020, 1021] (Lg.O0 A) w xk pB := (tr_ (su_ bL z) (tr_ (su_ bE z) (tr_ (su_ bG z) (tr_ (su_ bQ z) (tr_ (su_ bM z) (tr_ (su_ c0 z) (su_ ij z)))))))
   exact At.res (.inl z) z (.tmp z (.tmp z .nil)) ⟨AL, z, (se_ pI z z), (Sl.outFb pH)⟩
theorem c_law31_awake {w : World} {r0 : Bool} (h : law31_awake = some r0) : Rets Tryz.prog 18 [] w (fun v w' => v = vB r0 ∧ Ext w w') := by
 unfold law31_awake at h
 refine Rets.enter Tryz.func18 z z ?_
 refine (show WC _ _ _ _ [] _ from ?_)
 refine sq (rg (wY (ya z) z (nl (th (sq (rg (wY (yb (vals := [(0, vs [97]), (1, vs [49])]) (cells := [vs [97], vs [49]]) (fe_ z) (by kernel_rfl)) z (WL.buildSlice (O := (Lg.O0 (fun _ => False))) (R := rep_api_Pair) (vals := [(0, Value.agg (List.toArray [vs [97], vs [49]]))]) 11 [vs [97], vs [49]] (xs := [(api_Pair.mk [97] [49])]) (by decide) ty32 ty67 (by decide) (by decide) (fe_ z) (by kernel_rfl) z ⟨[vs [97], vs [49]], [], z, ⟨[vs [97]], [vs [49]], z, z, z⟩, z⟩ z ?_))))))))
 intro cS cb cH P ap
 have bp := h
 obtain ⟨c, d, j, rfl⟩ := ap.shape
 have h := bp
 refine wY (yb (vals := [(0, vs [120]), (1, (vl c d j)), (2, vi 1), (3, vi 2), (6, vi 10), (7, vi (-5))]) (cells := [vs [120], (vl c d j), vi 1, vi 2, vB false, vi 0, vi 10, vi (-5), vu 0, vu 0, vi 0, vu 0, vi 0, sn, vi 0, sn, vi 0]) (fe_ z) (by kernel_rfl)) z (WL.alloc (O := cb) 12 [vs [], sn, vi 0, vi 0, vB false, vi 0, vi 0, vi 0, vu 0, vu 0, vi 0, vu 0, vi 0, sn, vi 0, sn, vi 0] ty40 z z ?_)
 intro cT cU cI F bq
 refine WL.store (v := Value.agg (List.toArray [vs [120], (vl c d j), vi 1, vi 2, vB false, vi 0, vi 10, vi (-5), vu 0, vu 0, vi 0, vu 0, vi 0, sn, vi 0, sn, vi 0])) (cells' := [vs [120], (vl c d j), vi 1, vi 2, vB false, vi 0, vi 10, vi (-5), vu 0, vu 0, vi 0, vu 0, vi 0, sn, vi 0, sn, vi 0]) ty40 z z bq z (le_ z) z z ?_
 intro aq G ak
 refine nl (th (sq (rg (wY (yL ty40 z z (ak.cells 0 [vs [120], (vl c d j), vi 1, vi 2, vB false, vi 0, vi 10, vi (-5), vu 0, vu 0, vi 0, vu 0, vi 0, sn, vi 0, sn, vi 0] z) z) z (wY (yL ty40 z z (ak.cells 0 [vs [120], (vl c d j), vi 1, vi 2, vB false, vi 0, vi 10, vi (-5), vu 0, vu 0, vi 0, vu 0, vi 0, sn, vi 0, sn, vi 0] z) z) z ?_)))))
 have bs := (ap.st F z z z).st G z z z
 obtain ⟨ar, H, al⟩ := OwnSl.giveF rfl flat_api_Pair bs
 have bt : Stp [11, 12] (Lg.O0 (fun _ => False)) w ar aq := (tr_ (su_ P z) (tr_ (su_ F z) (tr_ (su_ G z) (su_ H z))))
 have bu : Stp [11, 12] (Lg.O0 (fun _ => False)) w ar aq := (tr_ (su_ P z) (tr_ (su_ F z) (tr_ (su_ G z) (su_ H z))))
 refine WL.buildSlice (O := ar) (R := (frR rep_api_Point w.heap.size)) (vals := [(0, Value.agg (List.toArray [vs [120], (vl c d j), vi 1, vi 2, vB false, vi 0, vi 10, vi (-5), vu 0, vu 0, vi 0, vu 0, vi 0, sn, vi 0, sn, vi 0])), (1, Value.agg (List.toArray [vs [120], (vl c d j), vi 1, vi 2, vB false, vi 0, vi 10, vi (-5), vu 0, vu 0, vi 0, vu 0, vi 0, sn, vi 0, sn, vi 0]))]) 13 [vs [120], (vl c d j), vi 1, vi 2, vB false, vi 0, vi 10, vi (-5), vu 0, vu 0, vi 0, vu 0, vi 0, sn, vi 0, sn, vi 0, vs [120], (vl c d j), vi 1, vi 2, vB false, vi 0, vi 10, vi (-5), vu 0, vu 0, vi 0, vu 0, vi 0, sn, vi 0, sn, vi 0] (xs := [(api_Point.mk [120] [(api_Pair.mk [97] [49])] 1 2 false 0 10 (-5) 0 0 (api_Hist.mk 0 0 (api_Side.mk 0 []) (api_Side.mk 0 [])) 0), (api_Point.mk [120] [(api_Pair.mk [97] [49])] 1 2 false 0 10 (-5) 0 0 (api_Hist.mk 0 0 (api_Side.mk 0 []) (api_Side.mk 0 [])) 0)]) (by decide) ty22 ty40 (show 0 < rep_api_Point.n by decide) (show 2 * rep_api_Point.n ≤ 65536 by decide) (fe_ z) (by kernel_rfl) z ⟨[vs [120], (vl c d j), vi 1, vi 2, vB false, vi 0, vi 10, vi (-5), vu 0, vu 0, vi 0, vu 0, vi 0, sn, vi 0, sn, vi 0], [vs [120], (vl c d j), vi 1, vi 2, vB false, vi 0, vi 10, vi (-5), vu 0, vu 0, vi 0, vu 0, vi 0, sn, vi 0, sn, vi 0], z, ⟨[vs [120]], [(vl c d j), vi 1, vi 2, vB false, vi 0, vi 10, vi (-5), vu 0, vu 0, vi 0, vu 0, vi 0, sn, vi 0, sn, vi 0], z, z, ⟨[(vl c d j)], [vi 1, vi 2, vB false, vi 0, vi 10, vi (-5), vu 0, vu 0, vi 0, vu 0, vi 0, sn, vi 0, sn, vi 0], z, ⟨_, z, (Sl.frB al bt low0)⟩, ⟨[vi 1], [vi 2, vB false, vi 0, vi 10, vi (-5), vu 0, vu 0, vi 0, vu 0, vi 0, sn, vi 0, sn, vi 0], z, z, ⟨[vi 2], [vB false, vi 0, vi 10, vi (-5), vu 0, vu 0, vi 0, vu 0, vi 0, sn, vi 0, sn, vi 0], z, z, ⟨[vB false], [vi 0, vi 10, vi (-5), vu 0, vu 0, vi 0, vu 0, vi 0, sn, vi 0, sn, vi 0], z, z, ⟨[vi 0], [vi 10, vi (-5), vu 0, vu 0, vi 0, vu 0, vi 0, sn, vi 0, sn, vi 0], z, z, ⟨[vi 10], [vi (-5), vu 0, vu 0, vi 0, vu 0, vi 0, sn, vi 0, sn, vi 0], z, z, ⟨[vi (-5)], [vu 0, vu 0, vi 0, vu 0, vi 0, sn, vi 0, sn, vi 0], z, z, ⟨[vu 0], [vu 0, vi 0, vu 0, vi 0, sn, vi 0, sn, vi 0], z, z, ⟨[vu 0], [vi 0, vu 0, vi 0, sn, vi 0, sn, vi 0], z, z, ⟨hzr, [vi 0], z, ⟨[vi 0], [vu 0, vi 0, sn, vi 0, sn], z, z, ⟨[vu 0], [vi 0, sn, vi 0, sn], z, z, ⟨[vi 0, sn], [vi 0, sn], z, ⟨[vi 0], [sn], z, z, ⟨_, z, (Or.inl ⟨z, z⟩)⟩⟩, ⟨[vi 0], [sn], z, z, ⟨_, z, (Or.inl ⟨z, z⟩)⟩⟩⟩⟩⟩, z⟩⟩⟩⟩⟩⟩⟩⟩⟩⟩⟩, ⟨[vs [120], (vl c d j), vi 1, vi 2, vB false, vi 0, vi 10, vi (-5), vu 0, vu 0, vi 0, vu 0, vi 0, sn, vi 0, sn, vi 0], [], z, ⟨[vs [120]], [(vl c d j), vi 1, vi 2, vB false, vi 0, vi 10, vi (-5), vu 0, vu 0, vi 0, vu 0, vi 0, sn, vi 0, sn, vi 0], z, z, ⟨[(vl c d j)], [vi 1, vi 2, vB false, vi 0, vi 10, vi (-5), vu 0, vu 0, vi 0, vu 0, vi 0, sn, vi 0, sn, vi 0], z, ⟨_, z, (Sl.frB al bu low0)⟩, ⟨[vi 1], [vi 2, vB false, vi 0, vi 10, vi (-5), vu 0, vu 0, vi 0, vu 0, vi 0, sn, vi 0, sn, vi 0], z, z, ⟨[vi 2], [vB false, vi 0, vi 10, vi (-5), vu 0, vu 0, vi 0, vu 0, vi 0, sn, vi 0, sn, vi 0], z, z, ⟨[vB false], [vi 0, vi 10, vi (-5), vu 0, vu 0, vi 0, vu 0, vi 0, sn, vi 0, sn, vi 0], z, z, ⟨[vi 0], [vi 10, vi (-5), vu 0, vu 0, vi 0, vu 0, vi 0, sn, vi 0, sn, vi 0], z, z, ⟨[vi 10], [vi (-5), vu 0, vu 0, vi 0, vu 0, vi 0, sn, vi 0, sn, vi 0], z, z, ⟨[vi (-5)], [vu 0, vu 0, vi 0, vu 0, vi 0, sn, vi 0, sn, vi 0], z, z, ⟨[vu 0], [vu 0, vi 0, vu 0, vi 0, sn, vi 0, sn, vi 0], z, z, ⟨[vu 0], [vi 0, vu 0, vi 0, sn, vi 0, sn, vi 0], z, z, ⟨hzr, [vi 0], z, ⟨[vi 0], [vu 0, vi 0, sn, vi 0, sn], z, z, ⟨[vu 0], [vi 0, sn, vi 0, sn], z, z, ⟨[vi 0, sn], [vi 0, sn], z, ⟨[vi 0], [sn], z, z, ⟨_, z, (Or.inl ⟨z, z⟩)⟩⟩, ⟨[vi 0], [sn], z, z, ⟨_, z, (Or.inl ⟨z, z⟩)⟩⟩⟩⟩⟩, z⟩⟩⟩⟩⟩⟩⟩⟩⟩⟩⟩, z⟩⟩ z ?_
 intro cc cd cJ Q bw
 obtain ⟨⟨ce, K⟩, bx, h⟩ := bnd h
 refine WL.call (vals := [cc]) kok19 z z (c_otlp_Encode (A := fun _ => True) (Sl.unfr bw.src.sl) bx) ?_
 rintro cK bz ⟨au, rfl, bA, cf⟩
 obtain ⟨bn, cg, av, S⟩ := adoptE cd (fun k => if ob au = some k then 14 else 1) bA
 have bB : OwnSl 14 Rep.b 5 bn bz au ce := RowF.adopt 14 Flat.b cf av (fun k hk => if_pos hk)
 refine wY (ym z) z (wY (yx z z) z (wY (yx z z) z (wY (ya z) z (wY (ya z) z (nl (th (sq (rg (wY (ym z) z ?_)))))))))
 obtain ⟨⟨aj, M⟩, bC, h⟩ := bnd h
 refine WL.call (vals := [au]) kok40 z z (c_otlp_Decode (A := fun _ => True) (bB.src.sl) bC) ?_
 rintro cL bD ⟨U, rfl, bE, ch⟩
 obtain ⟨bo, ci, ax, T⟩ := adoptE bn (fun k => 1) bE
 have am : Sl rep_api_Point bD (frs bo) U aj := Sl.adoptF ch (fun k hk => ⟨hk, z⟩) ax
 refine wY (ym z) z (wY (yx z z) z (wY (yx z z) z (wY (ya z) z (wY (ya z) z (nl (th (sq (rg ?_))))))))
 obtain ⟨⟨t, l⟩, bG, h⟩ := bnd h
 refine WL.call (vals := [sn]) kok40 z z (c_otlp_Decode (A := fun _ => True) (Or.inl ⟨z, z⟩) bG) ?_
 rintro cM bH ⟨I, rfl, bI, cj⟩
 obtain ⟨ay, ck, az, C⟩ := adoptE bo (fun k => 1) bI
 have bJ : Sl rep_api_Point bH (frs ay) I t := Sl.adoptF cj (fun k hk => ⟨hk, z⟩) az
 refine wY (ym z) z (wY (yx z z) z (wY (yx z z) z (wY (ya z) z (wY (ya z) z (nl (th (sq (rg (wY (yf fo40_11 z) z ?_)))))))))
 have bP := ((((ak.st H z).st Q z).st S z).st T z).st C z
 refine WL.store (v := vi 1) (cells' := [vs [120], (vl c d j), vi 1, vi 2, vB false, vi 0, vi 10, vi (-5), vu 0, vu 0, vi 0, vu 0, vi 0, sn, vi 0, sn, vi 1]) ty3 z z bP z (le_ z) z z ?_
 intro bQ D bR
 refine nl (th (sq (rg (wY (yL ty40 z z (bR.cells 0 [vs [120], (vl c d j), vi 1, vi 2, vB false, vi 0, vi 10, vi (-5), vu 0, vu 0, vi 0, vu 0, vi 0, sn, vi 0, sn, vi 1] z) z) z ?_))))
 have bX := ((((al.f Q z).f S z).f T z).f C z).f D z
 have bY : Stp [11, 12] (Lg.O0 (fun _ => False)) w ay bQ := (tr_ (su_ P z) (tr_ (su_ F z) (tr_ (su_ G z) (tr_ (su_ H z) (tr_ (su_ Q z) (tr_ (su_ S z) (tr_ (su_ T z) (tr_ (su_ C z) (su_ D z)))))))))
 refine WL.buildSlice (O := ay) (R := (frR rep_api_Point w.heap.size)) (vals := [(0, Value.agg (List.toArray [vs [120], (vl c d j), vi 1, vi 2, vB false, vi 0, vi 10, vi (-5), vu 0, vu 0, vi 0, vu 0, vi 0, sn, vi 0, sn, vi 1]))]) 15 [vs [120], (vl c d j), vi 1, vi 2, vB false, vi 0, vi 10, vi (-5), vu 0, vu 0, vi 0, vu 0, vi 0, sn, vi 0, sn, vi 1] (xs := [(api_Point.mk [120] [(api_Pair.mk [97] [49])] 1 2 false 0 10 (-5) 0 0 (api_Hist.mk 0 0 (api_Side.mk 0 []) (api_Side.mk 0 [])) 1)]) (by decide) ty22 ty40 (show 0 < rep_api_Point.n by decide) (show 1 * rep_api_Point.n ≤ 65536 by decide) (fe_ z) (by kernel_rfl) z ⟨[vs [120], (vl c d j), vi 1, vi 2, vB false, vi 0, vi 10, vi (-5), vu 0, vu 0, vi 0, vu 0, vi 0, sn, vi 0, sn, vi 1], [], z, ⟨[vs [120]], [(vl c d j), vi 1, vi 2, vB false, vi 0, vi 10, vi (-5), vu 0, vu 0, vi 0, vu 0, vi 0, sn, vi 0, sn, vi 1], z, z, ⟨[(vl c d j)], [vi 1, vi 2, vB false, vi 0, vi 10, vi (-5), vu 0, vu 0, vi 0, vu 0, vi 0, sn, vi 0, sn, vi 1], z, ⟨_, z, (Sl.frB bX bY low0)⟩, ⟨[vi 1], [vi 2, vB false, vi 0, vi 10, vi (-5), vu 0, vu 0, vi 0, vu 0, vi 0, sn, vi 0, sn, vi 1], z, z, ⟨[vi 2], [vB false, vi 0, vi 10, vi (-5), vu 0, vu 0, vi 0, vu 0, vi 0, sn, vi 0, sn, vi 1], z, z, ⟨[vB false], [vi 0, vi 10, vi (-5), vu 0, vu 0, vi 0, vu 0, vi 0, sn, vi 0, sn, vi 1], z, z, ⟨[vi 0], [vi 10, vi (-5), vu 0, vu 0, vi 0, vu 0, vi 0, sn, vi 0, sn, vi 1], z, z, ⟨[vi 10], [vi (-5), vu 0, vu 0, vi 0, vu 0, vi 0, sn, vi 0, sn, vi 1], z, z, ⟨[vi (-5)], [vu 0, vu 0, vi 0, vu 0, vi 0, sn, vi 0, sn, vi 1], z, z, ⟨[vu 0], [vu 0, vi 0, vu 0, vi 0, sn, vi 0, sn, vi 1], z, z, ⟨[vu 0], [vi 0, vu 0, vi 0, sn, vi 0, sn, vi 1], z, z, ⟨hzr, [vi 1], z, ⟨[vi 0], [vu 0, vi 0, sn, vi 0, sn], z, z, ⟨[vu 0], [vi 0, sn, vi 0, sn], z, z, ⟨[vi 0, sn], [vi 0, sn], z, ⟨[vi 0], [sn], z, z, ⟨_, z, (Or.inl ⟨z, z⟩)⟩⟩, ⟨[vi 0], [sn], z, z, ⟨_, z, (Or.inl ⟨z, z⟩)⟩⟩⟩⟩⟩, z⟩⟩⟩⟩⟩⟩⟩⟩⟩⟩⟩, z⟩ z ?_
 intro cl cm cN J bZ
 obtain ⟨⟨cn, q⟩, aK, h⟩ := bnd h
 refine WL.call (vals := [cl]) kok19 z z (c_otlp_Encode (A := fun _ => True) (Sl.unfr bZ.src.sl) aK) ?_
 rintro cw r ⟨aA, rfl, aL, b0⟩
 obtain ⟨aC, ca, ao, E⟩ := adoptE cm (fun k => if ob aA = some k then 16 else 1) aL
 have cx : OwnSl 16 Rep.b 5 aC r aA cn := RowF.adopt 16 Flat.b b0 ao (fun k hk => if_pos hk)
 refine wY (ym z) z (wY (yx z z) z (wY (yx z z) z (wY (ya z) z (wY (ya z) z (nl (th (sq (rg (wY (ym z) z ?_)))))))))
 refine wY (Y.eql_i z z) z (wY (ym z) z ?_)
 refine WL.cut 3 (σ := Unit) (fun _ w' => r = w') (fun _ => [(4, U), (6, I), (7, vi l), (9, vi q), (41, vB ((decide (K = 0)) && (decide (M = 0))))]) ?_ ?_
 ·refine WL.part 38 z (fun W => ?_) (fun W => ?_)
  ·refine ug z z (wY (ym z) z (ug z z (wY (Y.eql_i z z) z (wY (Y.pick (b := true) z z) z (WL.ren (v' := vB ((decide (K = 0)) && (decide (M = 0)))) 41 z (congrArg vB (andT W)) ?_)))))
   exact nl (At.join () z (.cons z (.cons z (.cons z (.cons z (.cons z .nil))))))
  ·refine WL.gS z z z z (WL.gS z z z z (wY (Y.pick (b := false) z z) z (WL.ren (v' := vB ((decide (K = 0)) && (decide (M = 0)))) 41 z (congrArg vB (andF W)) ?_)))
   exact nl (At.join () z (.cons z (.cons z (.cons z (.cons z (.cons z .nil))))))
 ·rintro _ _ rfl
  refine (show WL _ _ _ _ _ [(4, U), (6, I), (7, vi l), (9, vi q), (41, vB ((decide (K = 0)) && (decide (M = 0))))] _ from ?_)
  refine wY (ym z) z ?_
  refine WL.cut 4 (σ := Unit) (fun _ w' => r = w') (fun _ => [(4, U), (6, I), (7, vi l), (9, vi q), (46, vB (((decide (K = 0)) && (decide (M = 0))) && (decide ((aj.length : Int) = 2))))]) ?_ ?_
  ·refine WL.part 42 z (fun X => ?_) (fun X => ?_)
   ·refine ug z z (wY (ym z) z (ug z z ?_))
    have aP := (((am.f C z).f D z).f J z).f E z
    refine wY (Y.len ty22 z aP) z (ug z z (wY (Y.eql_i z z) z (wY (Y.pick (b := true) z z) z (WL.ren (v' := vB (((decide (K = 0)) && (decide (M = 0))) && (decide ((aj.length : Int) = 2)))) 46 z (congrArg vB (andT X)) ?_))))
    exact nl (At.join () z (.cons z (.cons z (.cons z (.cons z (.cons z .nil))))))
   ·refine WL.gS z z z z (WL.gS z z z z (WL.gS z z z z (wY (Y.pick (b := false) z z) z (WL.ren (v' := vB (((decide (K = 0)) && (decide (M = 0))) && (decide ((aj.length : Int) = 2)))) 46 z (congrArg vB (andF X)) ?_))))
    exact nl (At.join () z (.cons z (.cons z (.cons z (.cons z (.cons z .nil))))))
  ·rintro _ _ rfl
   refine (show WL _ _ _ _ _ [(4, U), (6, I), (7, vi l), (9, vi q), (46, vB (((decide (K = 0)) && (decide (M = 0))) && (decide ((aj.length : Int) = 2))))] _ from ?_)
   refine wY (ym z) z ?_
   obtain ⟨b1, h, aQ⟩ := bnd h
   refine WL.cut 6 (σ := Bool) (fun x w' => x = b1 ∧ r = w') (fun x => [(4, U), (6, I), (7, vi l), (9, vi q), (53, vB x)]) ?_ ?_
   ·rcases cnd h with ⟨Z, h⟩ | ⟨Z, h⟩
    ·refine WL.ren 47 z (congrArg vB Z) (ug z z (wY (ym z) z (ug z z ?_)))
     obtain ⟨an, aR, h⟩ := bnd h
     have aW := (((am.f C z).f D z).f J z).f E z
     obtain ⟨cO, co, cq, cy, aX, aY, aZ, aa, aD, a0⟩ := Sl.at2 aW aR
     obtain ⟨_, _, rfl, rfl, ⟨_, _, rfl, ⟨b2, rfl, cz⟩, ⟨_, _, rfl, rfl, ⟨_, _, rfl, rfl, ⟨_, _, rfl, rfl, ⟨_, _, rfl, rfl, ⟨_, _, rfl, rfl, ⟨_, _, rfl, rfl, ⟨_, _, rfl, rfl, ⟨_, _, rfl, rfl, ⟨_, _, rfl, ⟨_, _, rfl, rfl, ⟨_, _, rfl, rfl, ⟨_, _, rfl, ⟨_, _, rfl, rfl, ⟨b3, rfl, cA⟩⟩, ⟨_, _, rfl, rfl, ⟨b4, rfl, cC⟩⟩⟩⟩⟩, rfl⟩⟩⟩⟩⟩⟩⟩⟩⟩⟩⟩ := aD
     replace aa : CellsAt _ _ _ (cp an b2 b3 b4) := aa
     have aE := CAt.frs aa a0
     refine wY (Y.indexAddr ty22 ty40 z aX z aY aZ) z (ug z z (wY (yf fo40_7 z) z (ug z z (wY (yl ty3 z z (aE.at_.sub 7 [vi an.Int_] z)) z (ug z z (wY (Y.eql_i z z) z (wY (Y.pick (b := true) z z) z ?_)))))))
     exact nl (At.join (σ := Bool) (decide (an.Int_ = (-5))) ⟨some1 h, z⟩ (.cons z (.cons z (.cons z (.cons z (.cons z .nil))))))
    ·refine WL.ren 47 z (congrArg vB Z) (WL.gS z z z z (WL.gS z z z z (WL.gS z z z z (WL.gS z z z z (WL.gS z z z z (wY (Y.pick (b := false) z z) z ?_))))))
     exact nl (At.join (σ := Bool) false ⟨some1 h, z⟩ (.cons z (.cons z (.cons z (.cons z (.cons z .nil))))))
   ·rintro b5 _ ⟨rfl, rfl⟩
    replace h := aQ
    try dsimp only at h
    refine (show WL _ _ _ _ _ [(4, U), (6, I), (7, vi l), (9, vi q), (53, vB b5)] _ from ?_)
    refine wY (ym z) z ?_
    obtain ⟨b6, h, a1⟩ := bnd h
    refine WL.cut 9 (σ := Bool) (fun x w' => x = b6 ∧ r = w') (fun x => [(6, I), (7, vi l), (9, vi q), (63, vB x)]) ?_ ?_
    ·rcases cnd h with ⟨ab, h⟩ | ⟨ab, h⟩
     ·refine WL.ren 54 z (congrArg vB ab) (ug z z (wY (ym z) z (ug z z ?_)))
      obtain ⟨b7, a2, h⟩ := bnd h
      have a6 := (((am.f C z).f D z).f J z).f E z
      obtain ⟨cP, cr, cs, cD, a7, a8, a9, ac, aF, ba⟩ := Sl.at2 a6 a2
      obtain ⟨_, _, rfl, rfl, ⟨_, _, rfl, ⟨aG, rfl, bb⟩, ⟨_, _, rfl, rfl, ⟨_, _, rfl, rfl, ⟨_, _, rfl, rfl, ⟨_, _, rfl, rfl, ⟨_, _, rfl, rfl, ⟨_, _, rfl, rfl, ⟨_, _, rfl, rfl, ⟨_, _, rfl, rfl, ⟨_, _, rfl, ⟨_, _, rfl, rfl, ⟨_, _, rfl, rfl, ⟨_, _, rfl, ⟨_, _, rfl, rfl, ⟨b8, rfl, cE⟩⟩, ⟨_, _, rfl, rfl, ⟨b9, rfl, cF⟩⟩⟩⟩⟩, rfl⟩⟩⟩⟩⟩⟩⟩⟩⟩⟩⟩ := aF
      replace ac : CellsAt _ _ _ (cp b7 aG b8 b9) := ac
      have aH := CAt.frs ac ba
      refine wY (Y.indexAddr ty22 ty40 z a7 z a8 a9) z (ug z z (wY (yf fo40_1 z) z (ug z z (wY (yl ty32 z z (aH.at_.sub 1 [aG] z)) z (ug z z ?_)))))
      obtain ⟨ad, bc, h⟩ := bnd h
      obtain ⟨cQ, ct, cu, cG, bd, bf, bg, ae, aI, bh⟩ := Sl.at2 bb bc
      obtain ⟨_, _, rfl, rfl, rfl⟩ := aI
      replace ae : CellsAt _ _ _ [vs ad.Key, vs ad.Val] := ae
      have aJ := CAt.frs ae bh
      refine wY (Y.indexAddr ty32 ty67 z bd z bf bg) z (ug z z (wY (yf fo67_1 z) z (ug z z (wY (yl ty9 z z (aJ.at_.sub 1 [vs ad.Val] z)) z (ug z z (wY (Y.eql_s (b := [49]) z z) z (wY (Y.pick (b := true) z z) z ?_)))))))
      exact nl (At.join (σ := Bool) (decide (ad.Val = [49])) ⟨some1 h, z⟩ (.cons z (.cons z (.cons z (.cons z .nil)))))
     ·refine WL.ren 54 z (congrArg vB ab) (WL.gS z z z z (WL.gS z z z z (WL.gS z z z z (WL.gS z z z z (WL.gS z z z z (WL.gS z z z z (WL.gS z z z z (WL.gS z z z z (wY (Y.pick (b := false) z z) z ?_)))))))))
      exact nl (At.join (σ := Bool) false ⟨some1 h, z⟩ (.cons z (.cons z (.cons z (.cons z .nil)))))
    ·rintro o _ ⟨rfl, rfl⟩
     replace h := a1
     try dsimp only at h
     refine (show WL _ _ _ _ _ [(6, I), (7, vi l), (9, vi q), (63, vB o)] _ from ?_)
     refine wY (ym z) z ?_
     refine WL.cut 4 (σ := Unit) (fun _ w' => r = w') (fun _ => [(7, vi l), (9, vi q), (68, vB (o && (decide ((t.length : Int) = 0))))]) ?_ ?_
     ·refine WL.part 64 z (fun af => ?_) (fun af => ?_)
      ·refine ug z z (wY (ym z) z (ug z z ?_))
       have bk := ((bJ.f D z).f J z).f E z
       refine wY (Y.len ty22 z bk) z (ug z z (wY (Y.eql_i z z) z (wY (Y.pick (b := true) z z) z (WL.ren (v' := vB (o && (decide ((t.length : Int) = 0)))) 68 z (congrArg vB (andT af)) ?_))))
       exact nl (At.join () z (.cons z (.cons z (.cons z .nil))))
      ·refine WL.gS z z z z (WL.gS z z z z (WL.gS z z z z (wY (Y.pick (b := false) z z) z (WL.ren (v' := vB (o && (decide ((t.length : Int) = 0)))) 68 z (congrArg vB (andF af)) ?_))))
       exact nl (At.join () z (.cons z (.cons z (.cons z .nil))))
     ·rintro _ _ rfl
      refine (show WL _ _ _ _ _ [(7, vi l), (9, vi q), (68, vB (o && (decide ((t.length : Int) = 0))))] _ from ?_)
      refine wY (ym z) z ?_
      refine WL.cut 3 (σ := Unit) (fun _ w' => r = w') (fun _ => [(9, vi q), (72, vB ((o && (decide ((t.length : Int) = 0))) && (decide (l = 0))))]) ?_ ?_
      ·refine WL.part 69 z (fun ah => ?_) (fun ah => ?_)
       ·refine ug z z (wY (ym z) z (ug z z (wY (Y.eql_i z z) z (wY (Y.pick (b := true) z z) z (WL.ren (v' := vB ((o && (decide ((t.length : Int) = 0))) && (decide (l = 0)))) 72 z (congrArg vB (andT ah)) ?_)))))
        exact nl (At.join () z (.cons z (.cons z .nil)))
       ·refine WL.gS z z z z (WL.gS z z z z (wY (Y.pick (b := false) z z) z (WL.ren (v' := vB ((o && (decide ((t.length : Int) = 0))) && (decide (l = 0)))) 72 z (congrArg vB (andF ah)) ?_)))
        exact nl (At.join () z (.cons z (.cons z .nil)))
      ·rintro _ _ rfl
       refine (show WL _ _ _ _ _ [(9, vi q), (72, vB ((o && (decide ((t.length : Int) = 0))) && (decide (l = 0))))] _ from ?_)
       refine wY (ym z) z ?_
       refine WL.cut 3 (σ := Unit) (fun _ w' => r = w') (fun _ => [(76, vB (((o && (decide ((t.length : Int) = 0))) && (decide (l = 0))) && (decide (q = 3))))]) ?_ ?_
       ·refine WL.part 73 z (fun ai => ?_) (fun ai => ?_)
        ·refine ug z z (wY (ym z) z (ug z z (wY (Y.eql_i z z) z (wY (Y.pick (b := true) z z) z (WL.ren (v' := vB (((o && (decide ((t.length : Int) = 0))) && (decide (l = 0))) && (decide (q = 3)))) 76 z (congrArg vB (andT ai)) ?_)))))
         exact nl (At.join () z (.cons z .nil))
        ·refine WL.gS z z z z (WL.gS z z z z (wY (Y.pick (b := false) z z) z (WL.ren (v' := vB (((o && (decide ((t.length : Int) = 0))) && (decide (l = 0))) && (decide (q = 3)))) 76 z (congrArg vB (andF ai)) ?_)))
         exact nl (At.join () z (.cons z .nil))
       ·rintro _ _ rfl
        refine (show WL _ _ _ _ _ [(76, vB (((o && (decide ((t.length : Int) = 0))) && (decide (l = 0))) && (decide (q = 3))))] _ from ?_)
        obtain ⟨cR, bl, h⟩ := lt1 h
        refine WL.yE (ya z) (congrArg vB bl.symm) z (nl (th (rt ?_)))
        obtain rfl := some1 h
        have bm : Stp [11, 12] (Lg.O0 (fun _ => False)) w aC r := (tr_ (su_ P z) (tr_ (su_ F z) (tr_ (su_ G z) (tr_ (su_ H z) (tr_ (su_ Q z) (tr_ (su_ S z) (tr_ (su_ T z) (tr_ (su_ C z) (tr_ (su_ D z) (tr_ (su_ J z) (su_ E z)))))))))))
        exact At.res (.inl z) z (.tmp z .nil) ⟨z, (se_ bm z z)⟩
theorem c_ref11_Name {a0 : List UInt8} {w : World} {r0 : Bool} (h : ref11_Name a0 = some r0) : Rets Tryz.prog 93 [vs a0] w (fun v w' => v = vB r0 ∧ Ext w w') := by
 unfold ref11_Name at h
 refine Rets.enter Tryz.func93 z z ?_
 refine (show WC _ _ _ _ [(0, vs a0)] _ from ?_)
 refine sq (rg (wY (ya z) z (nl (th (sq (sq (rg (wY (ym z) z (wY (Y.len_s ty9 z) z ?_)))))))))
 refine wY (Y.lss_i z z) z (wY (ym z) z ?_)
 refine WL.cut 4 (σ := Unit) (fun _ w' => w = w') (fun _ => [(0, vs a0), (14, vB ((decide ((a0.length : Int) < 1)) || (decide (32 < (a0.length : Int)))))]) ?_ ?_
 ·refine WL.part 10 z (fun r => ?_) (fun r => ?_)
  ·refine WL.gS z z z z (WL.gS z z z z (WL.gS z z z z (wY (Y.pick (b := true) z z) z (WL.ren (v' := vB ((decide ((a0.length : Int) < 1)) || (decide (32 < (a0.length : Int))))) 14 z (congrArg vB (orT r)) ?_))))
   exact nl (At.join () z (.cons z (.cons z .nil)))
  ·refine ug z z (wY (ym z) z (ug z z (wY (Y.len_s ty9 z) z (ug z z (wY (Y.gtr_i z z) z (wY (Y.pick (b := false) z z) z (WL.ren (v' := vB ((decide ((a0.length : Int) < 1)) || (decide (32 < (a0.length : Int))))) 14 z (congrArg vB (orF r)) ?_)))))))
   exact nl (At.join () z (.cons z (.cons z .nil)))
 ·rintro _ _ rfl
  refine (show WL _ _ _ _ _ [(0, vs a0), (14, vB ((decide ((a0.length : Int) < 1)) || (decide (32 < (a0.length : Int)))))] _ from ?_)
  refine nl (th ?_)
  rcases cnd h with ⟨t, h⟩ | ⟨t, h⟩
  ·refine WC.condT' z t (sq (rg (wY (ya z) z (nl (th (rt (At.thenR ?_)))))))
   obtain rfl := some1 h
   have S : Stp [] (Lg.O0 (fun _ => False)) w (Lg.O0 (fun _ => False)) w := (sr_ _ _ _)
   exact At.res (.inl z) z (.tmp z .nil) ⟨z, (se_ S z z)⟩
  ·refine WC.condF' z t (sk (th (sq (sq (rg (wY (ya z) z (nl (th (WC.block ?_)))))))))
   obtain ⟨P, h, M⟩ := flow1 h
   obtain ⟨Q, h⟩ := loop_some h
   refine WC.joinB 0 (σ := Unit) (fun x w' => P = .go () ∧ w = w') (fun x => []) ?_ ?_
   ·refine WC.loop (σ := Int) (fun x k w' => loopN k (ref11_Name_lp1 a0) x = some P ∧ w = w') (fun x => [(0, vs a0), (3, vi x)]) 0 Q (.cons z (.cons z .nil)) ⟨h, z⟩ ?_
    rintro j Q _ ⟨h, rfl⟩
    obtain ⟨Z, ab, rfl, h, C⟩ := rnd1 h
    unfold ref11_Name_lp1 at h
    try dsimp only at h
    refine (show WC _ _ _ _ [(0, vs a0), (3, vi j)] _ from ?_)
    refine sq (sq (rg (wY (ym z) z (wY (ym z) z (wY (Y.len_s ty9 z) z (wY (Y.lss_i z z) z (nl (th ?_))))))))
    rcases cnd h with ⟨D, h⟩ | ⟨D, h⟩
    ·refine WC.condT' z D (sk (th (sq (WC.block (sq (rg (wY (ym z) z (wY (ym z) z ?_))))))))
     obtain ⟨c, T, h⟩ := bnd h
     refine wY (Y.index_s ty9 z z T) z (wY (ya z) z (nl (th (sq (rg (wY (ym z) z (wY (Y.geq_b (b := 97) z z) z (wY (ym z) z ?_))))))))
     refine WL.cut 3 (σ := Unit) (fun _ w' => w = w') (fun _ => [(0, vs a0), (3, vi j), (4, vb c), (29, vB ((decide (97 ≤ c)) && (decide (c ≤ 122))))]) ?_ ?_
     ·refine WL.part 26 z (fun E => ?_) (fun E => ?_)
      ·refine ug z z (wY (ym z) z (ug z z (wY (Y.leq_b (b := 122) z z) z (wY (Y.pick (b := true) z z) z (WL.ren (v' := vB ((decide (97 ≤ c)) && (decide (c ≤ 122)))) 29 z (congrArg vB (andT E)) ?_)))))
       exact nl (At.join () z (.cons z (.cons z (.cons z (.cons z .nil)))))
      ·refine WL.gS z z z z (WL.gS z z z z (wY (Y.pick (b := false) z z) z (WL.ren (v' := vB ((decide (97 ≤ c)) && (decide (c ≤ 122)))) 29 z (congrArg vB (andF E)) ?_)))
       exact nl (At.join () z (.cons z (.cons z (.cons z (.cons z .nil)))))
     ·rintro _ _ rfl
      refine (show WL _ _ _ _ _ [(0, vs a0), (3, vi j), (4, vb c), (29, vB ((decide (97 ≤ c)) && (decide (c ≤ 122))))] _ from ?_)
      obtain ⟨d, q, h⟩ := lt1 h
      refine WL.yE (ya z) (congrArg vB q.symm) z (nl (th (sq (rg (wY (ym z) z (wY (Y.geq_b (b := 48) z z) z (wY (ym z) z ?_)))))))
      refine WL.cut 3 (σ := Unit) (fun _ w' => w = w') (fun _ => [(0, vs a0), (3, vi j), (4, vb c), (5, vB d), (35, vB ((decide (48 ≤ c)) && (decide (c ≤ 57))))]) ?_ ?_
      ·refine WL.part 32 z (fun F => ?_) (fun F => ?_)
       ·refine ug z z (wY (ym z) z (ug z z (wY (Y.leq_b (b := 57) z z) z (wY (Y.pick (b := true) z z) z (WL.ren (v' := vB ((decide (48 ≤ c)) && (decide (c ≤ 57)))) 35 z (congrArg vB (andT F)) ?_)))))
        exact nl (At.join () z (.cons z (.cons z (.cons z (.cons z (.cons z .nil))))))
       ·refine WL.gS z z z z (WL.gS z z z z (wY (Y.pick (b := false) z z) z (WL.ren (v' := vB ((decide (48 ≤ c)) && (decide (c ≤ 57)))) 35 z (congrArg vB (andF F)) ?_)))
        exact nl (At.join () z (.cons z (.cons z (.cons z (.cons z (.cons z .nil))))))
      ·rintro _ _ rfl
       refine (show WL _ _ _ _ _ [(0, vs a0), (3, vi j), (4, vb c), (5, vB d), (35, vB ((decide (48 ≤ c)) && (decide (c ≤ 57))))] _ from ?_)
       refine wY (ym z) z ?_
       refine WL.cut 3 (σ := Unit) (fun _ w' => w = w') (fun _ => [(0, vs a0), (3, vi j), (4, vb c), (5, vB d), (39, vB (((decide (48 ≤ c)) && (decide (c ≤ 57))) || (decide (c = 95))))]) ?_ ?_
       ·refine WL.part 36 z (fun G => ?_) (fun G => ?_)
        ·refine WL.gS z z z z (WL.gS z z z z (wY (Y.pick (b := true) z z) z (WL.ren (v' := vB (((decide (48 ≤ c)) && (decide (c ≤ 57))) || (decide (c = 95)))) 39 z (congrArg vB (orT G)) ?_)))
         exact nl (At.join () z (.cons z (.cons z (.cons z (.cons z (.cons z .nil))))))
        ·refine ug z z (wY (ym z) z (ug z z (wY (Y.eql_b (b := 95) z z) z (wY (Y.pick (b := false) z z) z (WL.ren (v' := vB (((decide (48 ≤ c)) && (decide (c ≤ 57))) || (decide (c = 95)))) 39 z (congrArg vB (orF G)) ?_)))))
         exact nl (At.join () z (.cons z (.cons z (.cons z (.cons z (.cons z .nil))))))
       ·rintro _ _ rfl
        refine (show WL _ _ _ _ _ [(0, vs a0), (3, vi j), (4, vb c), (5, vB d), (39, vB (((decide (48 ≤ c)) && (decide (c ≤ 57))) || (decide (c = 95))))] _ from ?_)
        refine wY (ym z) z ?_
        refine WL.cut 3 (σ := Unit) (fun _ w' => w = w') (fun _ => [(0, vs a0), (3, vi j), (5, vB d), (43, vB ((((decide (48 ≤ c)) && (decide (c ≤ 57))) || (decide (c = 95))) || (decide (c = 46))))]) ?_ ?_
        ·refine WL.part 40 z (fun H => ?_) (fun H => ?_)
         ·refine WL.gS z z z z (WL.gS z z z z (wY (Y.pick (b := true) z z) z (WL.ren (v' := vB ((((decide (48 ≤ c)) && (decide (c ≤ 57))) || (decide (c = 95))) || (decide (c = 46)))) 43 z (congrArg vB (orT H)) ?_)))
          exact nl (At.join () z (.cons z (.cons z (.cons z (.cons z .nil)))))
         ·refine ug z z (wY (ym z) z (ug z z (wY (Y.eql_b (b := 46) z z) z (wY (Y.pick (b := false) z z) z (WL.ren (v' := vB ((((decide (48 ≤ c)) && (decide (c ≤ 57))) || (decide (c = 95))) || (decide (c = 46)))) 43 z (congrArg vB (orF H)) ?_)))))
          exact nl (At.join () z (.cons z (.cons z (.cons z (.cons z .nil)))))
        ·rintro _ _ rfl
         refine (show WL _ _ _ _ _ [(0, vs a0), (3, vi j), (5, vB d), (43, vB ((((decide (48 ≤ c)) && (decide (c ≤ 57))) || (decide (c = 95))) || (decide (c = 46))))] _ from ?_)
         obtain ⟨l, I, h⟩ := lt1 h
         refine WL.yE (ya z) (congrArg vB I.symm) z (nl (th (sq (rg (wY (ym z) z (wY (Y.not z) z (wY (ym z) z ?_)))))))
         refine WL.cut 7 (σ := Unit) (fun _ w' => w = w') (fun _ => [(0, vs a0), (3, vi j), (53, vB ((!d) && ((decide (j = 0)) || (!l))))]) ?_ ?_
         ·refine WL.part 46 z (fun J => ?_) (fun J => ?_)
          ·refine ug z z (wY (ym z) z (ug z z (wY (Y.eql_i z z) z (ug z z (wY (ym z) z ?_)))))
           refine WL.cut 3 (σ := Unit) (fun _ w' => w = w') (fun _ => [(0, vs a0), (3, vi j), (46, vB true), (47, vi j), (48, vB (decide (j = 0))), (49, vB (decide (j = 0))), (52, vB ((decide (j = 0)) || (!l)))]) ?_ ?_
           ·refine WL.part 49 z (fun o => ?_) (fun o => ?_)
            ·refine WL.gS z z z z (WL.gS z z z z (ug z z (wY (Y.pick (b := true) z z) z (WL.ren (v' := vB ((decide (j = 0)) || (!l))) 52 z (congrArg vB (orT o)) (WL.ren 49 z (congrArg vB o.symm) ?_)))))
             exact nl (At.join () z (.cons z (.cons z (.cons z (.cons z (.cons z (.cons z (.cons z .nil))))))))
            ·refine ug z z (wY (ym z) z (ug z z (wY (Y.not z) z (ug z z (wY (Y.pick (b := false) z z) z (WL.ren (v' := vB ((decide (j = 0)) || (!l))) 52 z (congrArg vB (orF o)) (WL.ren 49 z (congrArg vB o.symm) ?_)))))))
             exact nl (At.join () z (.cons z (.cons z (.cons z (.cons z (.cons z (.cons z (.cons z .nil))))))))
           ·rintro _ _ rfl
            refine (show WL _ _ _ _ _ [(0, vs a0), (3, vi j), (46, vB true), (47, vi j), (48, vB (decide (j = 0))), (49, vB (decide (j = 0))), (52, vB ((decide (j = 0)) || (!l)))] _ from ?_)
            refine wY (Y.pick (b := true) z z) z (WL.ren (v' := vB ((!d) && ((decide (j = 0)) || (!l)))) 53 z (congrArg vB (andT J)) ?_)
            exact nl (At.join () z (.cons z (.cons z (.cons z .nil))))
          ·refine WL.gS z z z z (WL.gS z z z z (WL.gS z z z z (WL.gS z z z z (WL.gS z z z z (WL.gS z z z z (wY (Y.pick (b := false) z z) z (WL.ren (v' := vB ((!d) && ((decide (j = 0)) || (!l)))) 53 z (congrArg vB (andF J)) ?_)))))))
           exact nl (At.join () z (.cons z (.cons z (.cons z .nil))))
         ·rintro _ _ rfl
          refine (show WL _ _ _ _ _ [(0, vs a0), (3, vi j), (53, vB ((!d) && ((decide (j = 0)) || (!l))))] _ from ?_)
          refine nl (th ?_)
          rcases cnd h with ⟨K, h⟩ | ⟨K, h⟩
          ·refine WC.condT' z K (sq (rg (wY (ya z) z (nl (th (rt (At.inBlockR (At.thenR (At.loopR ?_)))))))))
           have h := outr1 h C M
           refine At.joinBR (At.inBlockR (At.thenR ?_))
           obtain rfl := some1 h
           have U : Stp [] (Lg.O0 (fun _ => False)) w (Lg.O0 (fun _ => False)) w := (sr_ _ _ _)
           exact At.res (.inl z) z (.tmp z .nil) ⟨z, (se_ U z z)⟩
          ·refine WC.condF' z K (sk (At.inBlock (th (rg (wY (ym z) z (wY (Y.add_i z z) z ?_))))))
           obtain ⟨aa, W, h⟩ := lt1 h
           refine WL.yE (ya z) (congrArg vi W.symm) z (nl ?_)
           exact At.round aa Z (Nat.lt_succ_self _) ⟨next1 h C, z⟩ (.cons z (.cons z .nil))
    ·refine WC.condF' z D (WC.exit (At.thenX (At.loopX ?_)))
     exact At.hitB (σ := Unit) () ⟨brk1 h C, z⟩ .nil
   ·rintro _ _ ⟨rfl, rfl⟩
    replace h := flowK_go M
    refine (show At _ _ _ [] _ from ?_)
    refine At.inBlockHit (th (sq (rg (wY (ya z) z (nl (th (rt ?_)))))))
    obtain rfl := some1 h
    have X : Stp [] (Lg.O0 (fun _ => False)) w (Lg.O0 (fun _ => False)) w := (sr_ _ _ _)
    exact At.res (.inl z) z (.tmp z .nil) ⟨z, (se_ X z z)⟩
end Go.Lg
