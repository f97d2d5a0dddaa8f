/- The walks of GlobMatches and of what it calls, printed by gen.py. -/
import Derived.Test.YtgdfaomjidhajaaDoorGmLgGlWGlobMatchesx0
set_option linter.unusedVariables false
namespace Go.Lg
open Go Go.Proofs
set_option maxRecDepth 100000
set_option maxHeartbeats 4000000
theorem c_law32_GlobMatches {A : Nat → Prop} {a0 : List UInt8} {a1 : List UInt8} {w : World} (hG0 : CellsAt w 0 0 [vi 0, vi 0]) (hGA0 : A 0) {r0 : Bool} (h : law32_GlobMatches a0 a1 = some r0) : Rets Tryd.prog 3 [vs a0, vs a1] w (fun v w' => v = vB r0 ∧ Ext w w') := by
 unfold law32_GlobMatches at h
 refine Rets.enter Tryd.func3 z z ?_
 have P : CAt [0, 1] (Lg.O0 A) w 0 0 [vi 0, vi 0] := CAt.glob hG0 (if_pos hGA0)
 refine (show WC _ _ _ _ [(0, vs a0), (1, vs a1)] _ from ?_)
 refine sq (rg (wY (ya z) z (nl (th (sq (sq (rg ?_)))))))
 obtain ⟨bs, aA, h⟩ := bnd h
 refine WL.call (vals := []) kok6 z z (c_law32_awake (A := fun _ => True) P.at_ trivial aA) ?_
 rintro bj x ⟨rfl, aC⟩
 obtain ⟨Q, a9, ba, c⟩ := adoptE (Lg.O0 A) (fun k => 1) aC
 refine wY (Y.not z) z (nl (th ?_))
 rcases cnd h with ⟨C, h⟩ | ⟨C, h⟩
 ·refine WC.condT' z C (sq (rg (wY (ya z) z (nl (th (rt (At.thenR ?_)))))))
  obtain rfl := some1 h
  have aD : Stp [] (Lg.O0 A) w Q x := (su_ c z)
  exact At.res (.inl z) z (.tmp z .nil) ⟨z, (se_ aD z z)⟩
 ·refine WC.condF' z C (sk (th (sq (sq (rg (wY (ym z) z (wY (Y.len_s ty9 z) z (wY (Y.gtr_i z z) z (wY (ym z) z ?_)))))))))
  refine WL.cut 4 (σ := Unit) (fun _ w' => x = w') (fun _ => [(0, vs a0), (1, vs a1), (18, vB ((decide (64 < (a0.length : Int))) || (decide (300 < (a1.length : Int)))))]) ?_ ?_
  ·refine WL.part 14 z (fun D => ?_) (fun D => ?_)
   ·refine WL.gS z z z z (WL.gS z z z z (WL.gS z z z z (wY (Y.pick (b := true) z z) z (WL.ren (v' := vB ((decide (64 < (a0.length : Int))) || (decide (300 < (a1.length : Int))))) 18 z (congrArg vB (orT D)) ?_))))
    exact nl (At.join () z (.cons z (.cons z (.cons z .nil))))
   ·refine ug z z (wY (ym z) z (ug z z (wY (Y.len_s ty9 z) z (ug z z (wY (Y.gtr_i z z) z (wY (Y.pick (b := false) z z) z (WL.ren (v' := vB ((decide (64 < (a0.length : Int))) || (decide (300 < (a1.length : Int))))) 18 z (congrArg vB (orF D)) ?_)))))))
    exact nl (At.join () z (.cons z (.cons z (.cons z .nil))))
  ·rintro _ _ rfl
   refine (show WL _ _ _ _ _ [(0, vs a0), (1, vs a1), (18, vB ((decide (64 < (a0.length : Int))) || (decide (300 < (a1.length : Int)))))] _ from ?_)
   refine nl (th ?_)
   rcases cnd h with ⟨F, h⟩ | ⟨F, h⟩
   ·refine WC.condT' z F (sq (rg (wY (ya z) z (nl (th (rt (At.thenR ?_)))))))
    obtain rfl := some1 h
    have aE : Stp [] (Lg.O0 A) w Q x := (su_ c z)
    exact At.res (.inl z) z (.tmp z .nil) ⟨z, (se_ aE z z)⟩
   ·refine WC.condF' z F (sk (th (sq (rg (wY (ym z) z ?_)))))
    have aF := P.st c z
    obtain ⟨⟨n, bt, bu⟩, aG, h⟩ := bnd h
    refine WL.call (vals := [vs a0]) kok7 z z (c_glob_Compile (A := fun _ => True) aF.at_ trivial aG) ?_
    rintro bk R ⟨S, rfl, aH, T⟩
    obtain ⟨q, bb, r, M⟩ := adoptE Q (labP S 11) aH
    refine wY (ym z) z (wY (yx z z) z (wY (yx z z) z (wY (yx z z) z (wY (ya z) z (wY (ya z) z (wY (ya z) z (nl (th (sq ?_)))))))))
    refine rg (wY (ym z) z ?_)
    obtain ⟨a, aI, h⟩ := bnd h
    refine WL.call (vals := [vs a0]) kok8 z z (c_ref32_Compile (A := imm q) aI) ?_
    rintro bl aJ ⟨bc, rfl, aK, bd⟩
    obtain ⟨ax, U, V, o⟩ := adoptE q (fun k => 1) aK
    have aL : Sl rep_ref32_Piece aJ (imm ax) bc a.L := Sl.adoptI (O := q) bd (fun _ hk => hk) (fun _ _ => Nat.le_refl _) U V
    refine WL.alloc (O := ax) 12 [sn, vi 0, vi 0] ty29 z z ?_
    intro ay W bm j aM
    have X := aL.i j z z
    have aN := h
    obtain ⟨Z, aa, ab, rfl⟩ := X.shape
    have h := aN
    refine WL.store (v := ag [(vl Z aa ab), vi a.At, vi a.E]) (cells' := [(vl Z aa ab), vi a.At, vi a.E]) ty29 z z aM z (le_ z) z z ?_
    intro G l H
    refine nl (th (sq (sq (rg (wY (ym z) z (wY (Y.eql_opt ty23.u z z T (fun d hd => by obtain ⟨_, _, e, _⟩ := hd; exact ⟨_, e⟩)) z (wY (ym z) z ?_)))))))
    refine WL.cut 4 (σ := Unit) (fun _ w' => G = w') (fun _ => [(1, vs a1), (5, S), (8, pt ay 0), (33, vB (n.isNone || (!decide (a.E = 0))))]) ?_ ?_
    ·refine WL.part 29 z (fun I => ?_) (fun I => ?_)
     ·refine WL.gS z z z z (WL.gS z z z z (WL.gS z z z z (wY (Y.pick (b := true) z z) z (WL.ren (v' := vB (n.isNone || (!decide (a.E = 0)))) 33 z (congrArg vB (orT I)) ?_))))
      exact nl (At.join () z (.cons z (.cons z (.cons z (.cons z .nil)))))
     ·refine ug z z (wY (yf fo29_2 z) z (ug z z (wY (yl ty24 z z (H.cell 2 _ z)) z (ug z z (wY (Y.neq_i z z) z (wY (Y.pick (b := false) z z) z (WL.ren (v' := vB (n.isNone || (!decide (a.E = 0)))) 33 z (congrArg vB (orF I)) ?_)))))))
      exact nl (At.join () z (.cons z (.cons z (.cons z (.cons z .nil)))))
    ·rintro _ _ rfl
     refine (show WL _ _ _ _ _ [(1, vs a1), (5, S), (8, pt ay 0), (33, vB (n.isNone || (!decide (a.E = 0))))] _ from ?_)
     refine nl (th ?_)
     rcases cnd h with ⟨J, h⟩ | ⟨J, h⟩
     ·refine WC.condT' z J (sq (rg (wY (ym z) z (wY (Y.eql_opt ty23.u z z T (fun d hd => by obtain ⟨_, _, e, _⟩ := hd; exact ⟨_, e⟩)) z (wY (ym z) z ?_)))))
      refine WL.cut 4 (σ := Unit) (fun _ w' => G = w') (fun _ => [(40, vB (n.isNone && (!decide (a.E = 0))))]) ?_ ?_
      ·refine WL.part 36 z (fun K => ?_) (fun K => ?_)
       ·refine ug z z (wY (yf fo29_2 z) z (ug z z (wY (yl ty24 z z (H.cell 2 _ z)) z (ug z z (wY (Y.neq_i z z) z (wY (Y.pick (b := true) z z) z (WL.ren (v' := vB (n.isNone && (!decide (a.E = 0)))) 40 z (congrArg vB (andT K)) ?_)))))))
        exact nl (At.join () z (.cons z .nil))
       ·refine WL.gS z z z z (WL.gS z z z z (WL.gS z z z z (wY (Y.pick (b := false) z z) z (WL.ren (v' := vB (n.isNone && (!decide (a.E = 0)))) 40 z (congrArg vB (andF K)) ?_))))
        exact nl (At.join () z (.cons z .nil))
      ·rintro _ _ rfl
       refine (show WL _ _ _ _ _ [(40, vB (n.isNone && (!decide (a.E = 0))))] _ from ?_)
       obtain ⟨bw, aO, h⟩ := lt1 h
       refine WL.yE (ya z) (congrArg vB aO.symm) z (nl (th (rt (At.thenR ?_))))
       obtain rfl := some1 h
       have aP : Stp [12] (Lg.O0 A) w W G := (tr_ (su_ c z) (tr_ (su_ M z) (tr_ (su_ o z) (tr_ (su_ j z) (su_ l z)))))
       exact At.res (.inl z) z (.tmp z .nil) ⟨z, (se_ aP z z)⟩
     ·refine WC.condF' z J (sk (th (sq (WC.drawH [] [0, 1, 2, 3, 4, 5, 6, 7, 8] W 9 fmix z (by kernel_rfl) ?_))))
      intro bn m
      refine WD.y 0 z (by kernel_rfl) (fun _ _ _ => ym z) z (WD.y 1 z (by kernel_rfl) (fun _ _ _ => ym z) z (WD.y 3 z (by kernel_rfl) (fun _ _ _ => yf fo29_0 z) z (WD.y 4 z (by kernel_rfl) (fun bo bx ae => have aQ := H.st m z; have aR := aQ.st ae z; yl ty27 z z (aR.cell 0 _ z)) z (WD.y 5 z (by kernel_rfl) (fun _ _ _ => ym z) z (WD.heavy 2 z (by kernel_rfl) ?_)))))
      obtain ⟨ac, aS, h⟩ := bnd h
      obtain ⟨ad, az, rfl, aT, bf⟩ := OptP.some T aS
      have aU : Sl rep_glob_piece R (frs q) az ac.pieces := Sl.adoptF bf (fun k hk => ⟨hk.1, labP_ne hk.2⟩) r
      have aW : Blk 11 q R ad 42 [vs ac.text, az] := Blk.new aT r (labP_at ad 11)
      have a2 := (((aW.st o z).st j z).st l z).st m z
      have aj := (((aU.f o z).f j z).f l z).f m z
      obtain ⟨bp, ak, h⟩ := bnd h
      refine WL.call (vals := [pt ad 0, vs a1]) kok9 z z (c_glob_Glob_Match (A := fun _ => True) (a0 := ac) (Sl.all aj) a2.blk trivial ak) ?_
      rintro bg bh ⟨rfl, al⟩
      obtain ⟨a3, a5, a6, p⟩ := adoptE W (fun k => 1) al
      refine nl (At.dq (su_ p z) (WD.heavy 6 z (by kernel_rfl) ?_))
      have ao := ((X.i l z z).i m z z).i p z z
      obtain ⟨bq, ap, h⟩ := bnd h
      refine WL.call (vals := [(vl Z aa ab), vs a1]) kok10 z z (c_ref32_Match (A := fun _ => True) (Sl.all ao) ap) ?_
      rintro bi aq ⟨rfl, ar⟩
      obtain ⟨a4, a7, a8, t⟩ := adoptE a3 (fun k => 1) ar
      refine nl (At.dq (su_ t z) (WD.y 7 z (by kernel_rfl) (fun _ _ _ => Y.eqlB z z ty4.u) z ?_))
      obtain ⟨br, au, h⟩ := lt1 h
      refine WD.yE 8 z (by kernel_rfl) (fun _ _ _ => ya z) (congrArg vB au.symm) z (WD.done_ (by kernel_rfl) (th (rt ?_)))
      obtain rfl := some1 h
      have av : Stp [12] (Lg.O0 A) w a4 aq := (tr_ (su_ c z) (tr_ (su_ M z) (tr_ (su_ o z) (tr_ (su_ j z) (tr_ (su_ l z) (tr_ (su_ m z) (tr_ (su_ p z) (su_ t z))))))))
      exact At.res (.inl z) z (.tmp z .nil) ⟨z, (se_ av z z)⟩
end Go.Lg
