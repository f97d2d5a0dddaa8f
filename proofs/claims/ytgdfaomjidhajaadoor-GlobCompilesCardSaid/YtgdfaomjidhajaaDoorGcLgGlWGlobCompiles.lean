/- The walks of GlobCompiles and of what it calls, printed by gen.py. -/
import Derived.Test.YtgdfaomjidhajaaDoorGcLgGlWGlobCompilesx0
set_option linter.unusedVariables false
namespace Go.Lg
open Go Go.Proofs
set_option maxRecDepth 100000
set_option maxHeartbeats 4000000
theorem c_law32_GlobCompiles {A : Nat → Prop} {a0 : List UInt8} {w : World} (hG0 : CellsAt w 0 0 [vi 0, vi 0]) (hGA0 : A 0) {r0 : Bool} (h : law32_GlobCompiles a0 = some r0) : Rets Tryd.prog 5 [vs a0] w (fun v w' => v = vB r0 ∧ Ext w w') := by
 unfold law32_GlobCompiles at h
 refine Rets.enter Tryd.func5 z z ?_
 have ac : CAt [0, 1] (Lg.O0 A) w 0 0 [vi 0, vi 0] := CAt.glob hG0 (if_pos hGA0)
 refine (show WC _ _ _ _ [(0, vs a0)] _ from ?_)
 refine sq (rg (wY (ya z) z (nl (th (sq (sq (rg ?_)))))))
 obtain ⟨bM, aL, h⟩ := bnd h
 refine WL.call (vals := []) kok6 z z (c_law32_awake (A := fun _ => True) ac.at_ trivial aL) ?_
 rintro bF ad ⟨rfl, aM⟩
 obtain ⟨ae, br, bs, c⟩ := adoptE (Lg.O0 A) (fun k => 1) aM
 refine wY (Y.not z) z (nl (th ?_))
 rcases cnd h with ⟨Q, h⟩ | ⟨Q, h⟩
 ·refine WC.condT' z Q (sq (rg (wY (ya z) z (nl (th (rt (At.thenR ?_)))))))
  obtain rfl := some1 h
  have aN : Stp [] (Lg.O0 A) w ae ad := (su_ c z)
  exact At.res (.inl z) z (.tmp z .nil) ⟨z, (se_ aN z z)⟩
 ·refine WC.condF' z Q (sk (th (sq (sq (rg (wY (ym z) z (wY (Y.len_s ty9 z) z (wY (Y.gtr_i z z) z (nl ?_)))))))))
  refine th ?_
  rcases cnd h with ⟨R, h⟩ | ⟨R, h⟩
  ·refine WC.condT' z R (sq (rg (wY (ya z) z (nl (th (rt (At.thenR ?_)))))))
   obtain rfl := some1 h
   have aO : Stp [] (Lg.O0 A) w ae ad := (su_ c z)
   exact At.res (.inl z) z (.tmp z .nil) ⟨z, (se_ aO z z)⟩
  ·refine WC.condF' z R (sk (th (sq (rg (wY (ym z) z ?_)))))
   have aP := ac.st c z
   obtain ⟨⟨Z, aH, r⟩, aQ, h⟩ := bnd h
   refine WL.call (vals := [vs a0]) kok7 z z (c_glob_Compile (A := fun _ => True) aP.at_ trivial aQ) ?_
   rintro bG af ⟨ah, rfl, aR, ai⟩
   obtain ⟨K, bt, M, F⟩ := adoptE ae (labP ah 11) aR
   refine wY (ym z) z (wY (yx z z) z (wY (yx z z) z (wY (yx z z) z (wY (ya z) z (wY (ya z) z (wY (ya z) z (nl (th (sq ?_)))))))))
   refine rg (wY (ym z) z ?_)
   obtain ⟨o, aS, h⟩ := bnd h
   refine WL.call (vals := [vs a0]) kok8 z z (c_ref32_Compile (A := imm K) aS) ?_
   rintro bH aT ⟨bu, rfl, aU, bw⟩
   obtain ⟨aI, aj, ak, p⟩ := adoptE K (fun k => 1) aU
   have aW : Sl rep_ref32_Piece aT (imm aI) bu o.L := Sl.adoptI (O := K) bw (fun _ hk => hk) (fun _ _ => Nat.le_refl _) aj ak
   refine WL.alloc (O := aI) 12 [sn, vi 0, vi 0] ty29 z z ?_
   intro aJ al bI j aX
   have am := aW.i j z z
   have aY := h
   obtain ⟨an, ao, ap, rfl⟩ := am.shape
   have h := aY
   refine WL.store (v := ag [(vl an ao ap), vi o.At, vi o.E]) (cells' := [(vl an ao ap), vi o.At, vi o.E]) ty29 z z aX z (le_ z) z z ?_
   intro S l T
   refine nl (th (sq (sq (rg (wY (ym z) z (wY (yf fo29_2 z) z (wY (yl ty24 z z (T.cell 2 _ z)) z (wY (Y.neq_i z z) z (wY (ym z) z ?_)))))))))
   refine WL.cut 6 (σ := Unit) (fun _ w' => S = w') (fun _ => [(0, vs a0), (3, ah), (4, vi aH), (6, pt aJ 0), (34, vB ((!decide (r = o.E)) || (!decide (Z.isNone = (!decide (r = 0))))))]) ?_ ?_
   ·refine WL.part 28 z (fun U => ?_) (fun U => ?_)
    ·refine WL.gS z z z z (WL.gS z z z z (WL.gS z z z z (WL.gS z z z z (WL.gS z z z z (wY (Y.pick (b := true) z z) z (WL.ren (v' := vB ((!decide (r = o.E)) || (!decide (Z.isNone = (!decide (r = 0)))))) 34 z (congrArg vB (orT U)) ?_))))))
     exact nl (At.join () z (.cons z (.cons z (.cons z (.cons z (.cons z .nil))))))
    ·refine ug z z (wY (ym z) z (ug z z (wY (Y.eql_opt ty23.u z z ai (fun d hd => by obtain ⟨_, _, e, _⟩ := hd; exact ⟨_, e⟩)) z (ug z z (wY (ym z) z (ug z z (wY (Y.neq_i z z) z (ug z z (wY (Y.neqB z z ty4.u) z ?_)))))))))
     refine wY (Y.pick (b := false) z z) z (WL.ren (v' := vB ((!decide (r = o.E)) || (!decide (Z.isNone = (!decide (r = 0)))))) 34 z (congrArg vB (orF U)) ?_)
     exact nl (At.join () z (.cons z (.cons z (.cons z (.cons z (.cons z .nil))))))
   ·rintro _ _ rfl
    refine (show WL _ _ _ _ _ [(0, vs a0), (3, ah), (4, vi aH), (6, pt aJ 0), (34, vB ((!decide (r = o.E)) || (!decide (Z.isNone = (!decide (r = 0))))))] _ from ?_)
    refine nl (th ?_)
    rcases cnd h with ⟨V, h⟩ | ⟨V, h⟩
    ·refine WC.condT' z V (sq (rg (wY (ya z) z (nl (th (rt (At.thenR ?_)))))))
     obtain rfl := some1 h
     have aZ : Stp [12] (Lg.O0 A) w al S := (tr_ (su_ c z) (tr_ (su_ F z) (tr_ (su_ p z) (tr_ (su_ j z) (su_ l z)))))
     exact At.res (.inl z) z (.tmp z .nil) ⟨z, (se_ aZ z z)⟩
    ·refine WC.condF' z V (sk (th (sq (sq (rg (wY (ym z) z (wY (Y.eql_opt ty23.u z z ai (fun d hd => by obtain ⟨_, _, e, _⟩ := hd; exact ⟨_, e⟩)) z (nl (th ?_)))))))))
     rcases cnd h with ⟨W, h⟩ | ⟨W, h⟩
     ·refine WC.condT' z W (sq (rg (wY (ym z) z (wY (yf fo29_1 z) z (wY (yl ty3 z z (T.cell 1 _ z)) z (wY (Y.eql_i z z) z ?_))))))
      obtain ⟨bO, a1, h⟩ := lt1 h
      refine WL.yE (ya z) (congrArg vB a1.symm) z (nl (th (rt (At.thenR ?_))))
      obtain rfl := some1 h
      have a2 : Stp [12] (Lg.O0 A) w al S := (tr_ (su_ c z) (tr_ (su_ F z) (tr_ (su_ p z) (tr_ (su_ j z) (su_ l z)))))
      exact At.res (.inl z) z (.tmp z .nil) ⟨z, (se_ a2 z z)⟩
     ·refine WC.condF' z W (sk (th (sq (rg (wY (ym z) z ?_)))))
      obtain ⟨aa, a3, h⟩ := bnd h
      obtain ⟨ab, aK, rfl, a4, bx⟩ := OptP.some ai a3
      have a5 : Sl rep_glob_piece af (frs K) aK aa.pieces := Sl.adoptF bx (fun k hk => ⟨hk.1, labP_ne hk.2⟩) M
      have a6 : Blk 11 K af ab 42 [vs aa.text, aK] := Blk.new a4 M (labP_at ab 11)
      have aq := ((a6.st p z).st j z).st l z
      have ar := ((a5.f p z).f j z).f l z
      obtain ⟨⟨m, t⟩, bb, h⟩ := bnd h
      refine WL.call (vals := [pt ab 0]) kok11 z z (c_glob_Glob_Plain (A := fun _ => True) (a0 := aa) (Sl.all ar) aq.blk trivial bb) ?_
      rintro bJ bK ⟨rfl, bc⟩
      obtain ⟨bz, bA, bB, q⟩ := adoptE al (fun k => 1) bc
      refine wY (ym z) z (wY (yx z z) z (wY (yx z z) z (wY (ya z) z (wY (ya z) z (nl (th (sq (rg (wY (yf fo29_0 z) z ?_)))))))))
      have bd := T.st q z
      refine wY (yl ty27 z z (bd.cell 0 _ z)) z ?_
      have bg := (am.i l z z).i q z z
      obtain ⟨⟨n, C⟩, bh, h⟩ := bnd h
      refine WL.call (vals := [(vl an ao ap)]) kok12 z z (c_ref32_Plain (A := fun _ => True) (Sl.all bg) bh) ?_
      rintro bC av ⟨rfl, bi⟩
      obtain ⟨X, bn, bo, D⟩ := adoptE bz (fun k => 1) bi
      refine wY (ym z) z (wY (yx z z) z (wY (yx z z) z (wY (ya z) z (wY (ya z) z (nl (th (sq (rg (wY (ym z) z ?_)))))))))
      refine wY (Y.eql_i z z) z (wY (ym z) z ?_)
      obtain ⟨bj, h, ax⟩ := bnd h
      refine WL.cut 5 (σ := (Bool × Own)) (fun x w' => x.1 = bj ∧ Stp [] X av x.2 w') (fun x => [(7, vs m), (8, vB t), (9, vs n), (10, vB C), (59, vB x.1)]) ?_ ?_
      ·rcases cnd h with ⟨G, h⟩ | ⟨G, h⟩
       ·refine WL.ren 54 z (congrArg vB G) (ug z z (wY (ym z) z (ug z z ?_)))
        have az := (aq.st q z).st D z
        have aC := (ar.f q z).f D z
        obtain ⟨bk, aD, h⟩ := bnd h
        refine WL.call (vals := [pt ab 0]) kok13 z z (c_glob_Glob_Text (A := fun _ => True) (a0 := aa) (Sl.all aC) az.blk trivial aD) ?_
        rintro bD bE ⟨rfl, aE⟩
        obtain ⟨bl, bp, bq, au⟩ := adoptE X (fun k => 1) aE
        refine ug z z (wY (ym z) z (ug z z (wY (Y.eql_s z z) z (wY (Y.pick (b := true) z z) z ?_))))
        exact nl (At.join (σ := (Bool × Own)) (decide (bk = a0), bl) ⟨some1 h, (su_ au z)⟩ (.cons z (.cons z (.cons z (.cons z (.cons z .nil))))))
       ·refine WL.ren 54 z (congrArg vB G) (WL.gS z z z z (WL.gS z z z z (WL.gS z z z z (WL.gS z z z z (wY (Y.pick (b := false) z z) z ?_)))))
        exact nl (At.join (σ := (Bool × Own)) (false, X) ⟨some1 h, (sr_ _ _ _)⟩ (.cons z (.cons z (.cons z (.cons z (.cons z .nil))))))
      ·rintro ⟨a, bm⟩ H ⟨rfl, P⟩
       replace h := ax
       try dsimp only at h P
       refine (show WL _ _ _ _ _ [(7, vs m), (8, vB t), (9, vs n), (10, vB C), (59, vB a)] _ from ?_)
       refine wY (ym z) z ?_
       refine WL.cut 4 (σ := Unit) (fun _ w' => H = w') (fun _ => [(8, vB t), (10, vB C), (64, vB (a && (decide (m = n))))]) ?_ ?_
       ·refine WL.part 60 z (fun I => ?_) (fun I => ?_)
        ·refine ug z z (wY (ym z) z (ug z z (wY (ym z) z (ug z z (wY (Y.eql_s z z) z (wY (Y.pick (b := true) z z) z (WL.ren (v' := vB (a && (decide (m = n)))) 64 z (congrArg vB (andT I)) ?_)))))))
         exact nl (At.join () z (.cons z (.cons z (.cons z .nil))))
        ·refine WL.gS z z z z (WL.gS z z z z (WL.gS z z z z (wY (Y.pick (b := false) z z) z (WL.ren (v' := vB (a && (decide (m = n)))) 64 z (congrArg vB (andF I)) ?_))))
         exact nl (At.join () z (.cons z (.cons z (.cons z .nil))))
       ·rintro _ _ rfl
        refine (show WL _ _ _ _ _ [(8, vB t), (10, vB C), (64, vB (a && (decide (m = n))))] _ from ?_)
        refine wY (ym z) z ?_
        refine WL.cut 4 (σ := Unit) (fun _ w' => H = w') (fun _ => [(69, vB ((a && (decide (m = n))) && (decide (t = C))))]) ?_ ?_
        ·refine WL.part 65 z (fun J => ?_) (fun J => ?_)
         ·refine ug z z (wY (ym z) z (ug z z (wY (ym z) z (ug z z (wY (Y.eqlB z z ty4.u) z (wY (Y.pick (b := true) z z) z (WL.ren (v' := vB ((a && (decide (m = n))) && (decide (t = C)))) 69 z (congrArg vB (andT J)) ?_)))))))
          exact nl (At.join () z (.cons z .nil))
         ·refine WL.gS z z z z (WL.gS z z z z (WL.gS z z z z (wY (Y.pick (b := false) z z) z (WL.ren (v' := vB ((a && (decide (m = n))) && (decide (t = C)))) 69 z (congrArg vB (andF J)) ?_))))
          exact nl (At.join () z (.cons z .nil))
        ·rintro _ _ rfl
         refine (show WL _ _ _ _ _ [(69, vB ((a && (decide (m = n))) && (decide (t = C))))] _ from ?_)
         obtain ⟨bL, aF, h⟩ := lt1 h
         refine WL.yE (ya z) (congrArg vB aF.symm) z (nl (th (rt ?_)))
         obtain rfl := some1 h
         have aG : Stp [12] (Lg.O0 A) w bm H := (tr_ (su_ c z) (tr_ (su_ F z) (tr_ (su_ p z) (tr_ (su_ j z) (tr_ (su_ l z) (tr_ (su_ q z) (tr_ (su_ D z) (su_ P z))))))))
         exact At.res (.inl z) z (.tmp z .nil) ⟨z, (se_ aG z z)⟩
end Go.Lg
