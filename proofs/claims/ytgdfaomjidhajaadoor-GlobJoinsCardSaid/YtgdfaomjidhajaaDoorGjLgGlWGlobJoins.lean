/- The walks of GlobJoins and of what it calls, printed by gen.py. -/
import Derived.Test.YtgdfaomjidhajaaDoorGjLgPart0
import Derived.Test.YtgdfaomjidhajaaDoorProg
set_option linter.unusedVariables false
namespace Go.Lg
open Go Go.Proofs
set_option maxRecDepth 100000
set_option maxHeartbeats 4000000
theorem fmix : Tryd.prog.follows .mixedOrders = true := by kernel_rfl
theorem ty3 : TyOk Tryd.prog 3 (.int .i64) 1 8 (.int .i64 0) := tyOk Tryd.underlying3 (by kernel_rfl)
theorem ty4 : TyOk Tryd.prog 4 .bool 1 1 (.bool false) := tyOk Tryd.underlying4 (by kernel_rfl)
theorem ty5 : TyOk Tryd.prog 5 (.int .u8) 1 1 (.int .u8 0) := tyOk Tryd.underlying5 (by kernel_rfl)
theorem ty9 : TyOk Tryd.prog 9 .string 1 16 (.string ⟨#[]⟩) := tyOk Tryd.underlying9 (by kernel_rfl)
theorem ty23 : TyOk Tryd.prog 23 (.pointer 42) 1 8 (.pointer none) := tyOk Tryd.underlying23 (by kernel_rfl)
theorem ty24 : TyOk Tryd.prog 24 (.int .i64) 1 8 (.int .i64 0) := tyOk Tryd.underlying24 (by kernel_rfl)
theorem ty40 : TyOk Tryd.prog 40 (.slice 47) 1 24 (.slice none 0 0) := tyOk Tryd.underlying40 (by kernel_rfl)
theorem ty43 : TyOk Tryd.prog 43 (.int .u64) 1 8 (.int .u64 0) := tyOk Tryd.underlying43 (by kernel_rfl)
theorem ty45 : TyOk Tryd.prog 45 (.array 4 43) 4 32 (.agg #[(.int .u64 0), (.int .u64 0), (.int .u64 0), (.int .u64 0)]) := tyOk Tryd.underlying45 (by kernel_rfl)
theorem ty47 : TyOk Tryd.prog 47 (.struct #[(Field.mk "kind" 3 0 false "" "limnograph/glob" 0), (Field.mk "set" 45 1 false "" "limnograph/glob" 8), (Field.mk "plain" 4 5 false "" "limnograph/glob" 40), (Field.mk "c" 5 6 false "" "limnograph/glob" 41)]) 7 48 (.agg #[(.int .i64 0), (.int .u64 0), (.int .u64 0), (.int .u64 0), (.int .u64 0), (.bool false), (.int .u8 0)]) := tyOk Tryd.underlying47 (by kernel_rfl)
theorem ty49 : TyOk Tryd.prog 49 (.struct #[(Field.mk "at" 3 0 false "" "limnograph/glob" 0), (Field.mk "e" 24 1 false "" "limnograph/glob" 8)]) 2 16 (.agg #[(.int .i64 0), (.int .i64 0)]) := tyOk Tryd.underlying49 (by kernel_rfl)
theorem ty60 : TyOk Tryd.prog 60 (.slice 5) 1 24 (.slice none 0 0) := tyOk Tryd.underlying60 (by kernel_rfl)
theorem ty73 : TyOk Tryd.prog 73 (.int .u64) 1 8 (.int .u64 0) := tyOk Tryd.underlying73 (by kernel_rfl)
theorem fo42_1 : FieldOk Tryd.prog 42 1 1 := fieldOk Tryd.underlying42 rfl rfl (by kernel_rfl)
theorem fo47_0 : FieldOk Tryd.prog 47 0 0 := fieldOk Tryd.underlying47 rfl rfl (by kernel_rfl)
theorem fo47_1 : FieldOk Tryd.prog 47 1 1 := fieldOk Tryd.underlying47 rfl rfl (by kernel_rfl)
theorem fo49_0 : FieldOk Tryd.prog 49 0 0 := fieldOk Tryd.underlying49 rfl rfl (by kernel_rfl)
theorem fo49_1 : FieldOk Tryd.prog 49 1 1 := fieldOk Tryd.underlying49 rfl rfl (by kernel_rfl)
theorem agok49 : AgOk Tryd.prog 49 #[(Field.mk "at" 3 0 false "" "limnograph/glob" 0), (Field.mk "e" 24 1 false "" "limnograph/glob" 8)] := ⟨Tryd.underlying49, by kernel_rfl, by kernel_rfl⟩
theorem kok6 : CallOk Tryd.prog 6 := callOk Tryd.func6 (by kernel_rfl) rfl
theorem kok7 : CallOk Tryd.prog 7 := callOk Tryd.func7 (by kernel_rfl) rfl
theorem kok9 : CallOk Tryd.prog 9 := callOk Tryd.func9 (by kernel_rfl) rfl
theorem kok14 : CallOk Tryd.prog 14 := callOk Tryd.func14 (by kernel_rfl) rfl
theorem kok15 : CallOk Tryd.prog 15 := callOk Tryd.func15 (by kernel_rfl) rfl
theorem kok19 : CallOk Tryd.prog 19 := callOk Tryd.func19 (by kernel_rfl) rfl
theorem kok22 : CallOk Tryd.prog 22 := callOk Tryd.func22 (by kernel_rfl) rfl
theorem kok23 : CallOk Tryd.prog 23 := callOk Tryd.func23 (by kernel_rfl) rfl
theorem kok24 : CallOk Tryd.prog 24 := callOk Tryd.func24 (by kernel_rfl) rfl
theorem kok28 : CallOk Tryd.prog 28 := callOk Tryd.func28 (by kernel_rfl) rfl
theorem kok29 : CallOk Tryd.prog 29 := callOk Tryd.func29 (by kernel_rfl) rfl
theorem kok30 : CallOk Tryd.prog 30 := callOk Tryd.func30 (by kernel_rfl) rfl
theorem c_glob_closed {a0 : List UInt8} {a1 : Int} {w : World} {r0 : Bool} (h : glob_closed a0 a1 = some r0) : Rets Tryd.prog 29 [vs a0, vi a1] w (fun v w' => v = vB r0 ∧ Ext w w') := by
 unfold glob_closed at h
 refine Rets.enter Tryd.func29 z z ?_
 refine (show WC _ _ _ _ [(0, vs a0), (1, vi a1)] _ from ?_)
 refine sq (rg (wY (ya z) z (nl (th (sq ?_)))))
 obtain ⟨U, h, E⟩ := bnd h
 refine WC.join (σ := Int) (fun x w' => x = U ∧ w = w') (fun x => [(0, vs a0), (1, vi x)]) ?_ ?_
 ·refine WC.block ?_
  obtain ⟨C, h, F⟩ := flow1 h
  obtain ⟨D, h⟩ := loop_some h
  refine WC.joinB 0 (σ := Int) (fun x w' => C = .go x ∧ w = w') (fun x => [(0, vs a0), (1, vi x)]) ?_ ?_
  ·refine WC.loop (σ := Int) (fun x k w' => loopN k (glob_closed_lp1 a0) x = some C ∧ w = w') (fun x => [(0, vs a0), (1, vi x)]) a1 D (.cons z (.cons z .nil)) ⟨h, z⟩ ?_
   rintro j D _ ⟨h, rfl⟩
   obtain ⟨V, ac, rfl, h, o⟩ := rnd1 h
   unfold glob_closed_lp1 at h
   try dsimp only at h
   refine (show WC _ _ _ _ [(0, vs a0), (1, vi j)] _ from ?_)
   refine sq (sq (rg (wY (ym z) z (wY (ym z) z (wY (Y.len_s ty9 z) z (wY (Y.lss_i z z) z (wY (ym z) z ?_)))))))
   obtain ⟨W, h, G⟩ := bnd h
   refine WL.cut 5 (σ := Bool) (fun x w' => x = W ∧ w = w') (fun x => [(0, vs a0), (1, vi j), (14, vB x)]) ?_ ?_
   ·rcases cnd h with ⟨l, h⟩ | ⟨l, h⟩
    ·refine WL.ren 9 z (congrArg vB l) (ug z z (wY (ym z) z (ug z z (wY (ym z) z (ug z z ?_)))))
     obtain ⟨X, H, h⟩ := bnd h
     refine wY (Y.index_s ty9 z z H) z (ug z z (wY (Y.neq_b (b := 93) z z) z (wY (Y.pick (b := true) z z) z ?_)))
     exact nl (At.join (σ := Bool) (!decide (X = 93)) ⟨some1 h, z⟩ (.cons z (.cons z (.cons z .nil))))
    ·refine WL.ren 9 z (congrArg vB l) (WL.gS z z z z (WL.gS z z z z (WL.gS z z z z (WL.gS z z z z (wY (Y.pick (b := false) z z) z ?_)))))
     exact nl (At.join (σ := Bool) false ⟨some1 h, z⟩ (.cons z (.cons z (.cons z .nil))))
   ·rintro Z _ ⟨rfl, rfl⟩
    replace h := G
    try dsimp only at h
    refine (show WL _ _ _ _ _ [(0, vs a0), (1, vi j), (14, vB Z)] _ from ?_)
    refine nl (th ?_)
    rcases cnd h with ⟨m, h⟩ | ⟨m, h⟩
    ·refine WC.condT' z m (sk (th ?_))
     obtain ⟨aa, h, I⟩ := bnd h
     refine WC.join (σ := Int) (fun x w' => x = aa ∧ w = w') (fun x => [(0, vs a0), (1, vi x)]) ?_ ?_
     ·refine WC.block (sq ?_)
      obtain ⟨ab, h, J⟩ := bnd h
      refine WC.join (σ := Int) (fun x w' => x = ab ∧ w = w') (fun x => [(0, vs a0), (1, vi x)]) ?_ ?_
      ·refine sq (rg (wY (ym z) z (wY (ym z) z ?_)))
       obtain ⟨ad, K, h⟩ := bnd h
       refine wY (Y.index_s ty9 z z K) z (wY (Y.eql_b (b := 92) z z) z (nl (th ?_)))
       rcases cnd h with ⟨n, h⟩ | ⟨n, h⟩
       ·refine WC.condT' z n (rg (wY (ym z) z (wY (Y.add_i z z) z ?_)))
        obtain ⟨L, r, h⟩ := lt1 h
        refine WL.yE (ya z) (congrArg vi r.symm) z (nl ?_)
        exact At.join (σ := Int) L ⟨some1 h, z⟩ (.cons z (.cons z .nil))
       ·refine WC.condF' z n (sk ?_)
        exact At.join (σ := Int) j ⟨some1 h, z⟩ (.cons z (.cons z .nil))
      ·rintro M _ ⟨rfl, rfl⟩
       replace h := J
       try dsimp only at h
       refine (show At _ _ _ [(0, vs a0), (1, vi M)] _ from ?_)
       refine th (rg (wY (ym z) z (wY (Y.add_i z z) z ?_)))
       obtain ⟨P, t, h⟩ := lt1 h
       refine WL.yE (ya z) (congrArg vi t.symm) z (nl (At.inBlock ?_))
       exact At.join (σ := Int) P ⟨some1 h, z⟩ (.cons z (.cons z .nil))
     ·rintro p _ ⟨rfl, rfl⟩
      replace h := I
      try dsimp only at h
      refine (show At _ _ _ [(0, vs a0), (1, vi p)] _ from ?_)
      exact At.round p V (Nat.lt_succ_self _) ⟨next1 h o, z⟩ (.cons z (.cons z .nil))
    ·refine WC.condF' z m (WC.exit (At.thenX (At.loopX ?_)))
     exact At.hitB (σ := Int) j ⟨brk1 h o, z⟩ (.cons z (.cons z .nil))
  ·rintro q _ ⟨rfl, rfl⟩
   replace h := flowK_go F
   try dsimp only at h
   refine (show At _ _ _ [(0, vs a0), (1, vi q)] _ from ?_)
   refine At.inBlockHit ?_
   exact At.join (σ := Int) q ⟨some1 h, z⟩ (.cons z (.cons z .nil))
 ·rintro Q _ ⟨rfl, rfl⟩
  replace h := E
  try dsimp only at h
  refine (show At _ _ _ [(0, vs a0), (1, vi Q)] _ from ?_)
  refine th (sq (rg (wY (ym z) z (wY (ym z) z (wY (Y.len_s ty9 z) z (wY (Y.lss_i z z) z ?_))))))
  obtain ⟨ae, S, h⟩ := lt1 h
  refine WL.yE (ya z) (congrArg vB S.symm) z (nl (th (rt ?_)))
  obtain rfl := some1 h
  have T : Stp [] (Lg.O0 (fun _ => False)) w (Lg.O0 (fun _ => False)) w := (sr_ _ _ _)
  exact At.res (.inl z) z (.tmp z .nil) ⟨z, (se_ T z z)⟩
theorem c_glob_member {a0 : List UInt8} {a1 : Int} {w : World} {r0 : UInt8} {r1 : Int} (h : glob_member a0 a1 = some (r0, r1)) : Rets Tryd.prog 30 [vs a0, vi a1] w (fun v w' => v = tp [vb r0, vi r1] ∧ Ext w w') := by
 unfold glob_member at h
 refine Rets.enter Tryd.func30 z z ?_
 refine (show WC _ _ _ _ [(0, vs a0), (1, vi a1)] _ from ?_)
 refine sq (rg (wY (ya (v := vb 0) z) z (wY (ya z) z (nl (th (sq (sq (rg (wY (ym z) z ?_)))))))))
 refine wY (ym z) z ?_
 obtain ⟨q, l, h⟩ := bnd h
 refine wY (Y.index_s ty9 z z l) z (wY (Y.eql_b (b := 92) z z) z (nl (th ?_)))
 rcases cnd h with ⟨j, h⟩ | ⟨j, h⟩
 ·refine WC.condT' z j (sq (rg (wY (ym z) z (wY (ym z) z (wY (Y.add_i z z) z ?_)))))
  obtain ⟨r, m, h⟩ := bnd h
  refine wY (Y.index_s ty9 z z m) z (wY (ya z) z (wY (ya z) z (nl (th (rt (At.thenR ?_))))))
  obtain ⟨rfl, rfl⟩ := tup2 h
  have n : Stp [] (Lg.O0 (fun _ => False)) w (Lg.O0 (fun _ => False)) w := (sr_ _ _ _)
  exact At.res (.inl z) z (.tmp z (.tmp z .nil)) ⟨z, (se_ n z z)⟩
 ·refine WC.condF' z j (sk (th (sq (rg (wY (ym z) z (wY (ym z) z ?_))))))
  obtain ⟨t, o, h⟩ := bnd h
  refine wY (Y.index_s ty9 z z o) z (wY (ya z) z (wY (ya z) z (nl (th (rt ?_)))))
  obtain ⟨rfl, rfl⟩ := tup2 h
  have p : Stp [] (Lg.O0 (fun _ => False)) w (Lg.O0 (fun _ => False)) w := (sr_ _ _ _)
  exact At.res (.inl z) z (.tmp z (.tmp z .nil)) ⟨z, (se_ p z z)⟩
theorem c_glob_class {A : Nat → Prop} {a0 : List UInt8} {a1 : Int} {w : World} (hG0 : CellsAt w 0 0 [vi 0, vi 0]) (hGA0 : A 0) {r0 : glob_piece} {r1 : Int} {r2 : glob_fault} (h : glob_class a0 a1 = some (r0, r1, r2)) : Rets Tryd.prog 23 [vs a0, vi a1] w (fun v w' => v = Value.tuple (List.toArray [ag [vi r0.kind, vu r0.set.a0, vu r0.set.a1, vu r0.set.a2, vu r0.set.a3, vB r0.plain, vb r0.c], vi r1, ag [vi r2.at_, vi r2.e]]) ∧ Ext w w') := by
 unfold glob_class at h
 refine Rets.enter Tryd.func23 z z ?_
 have d8 : CAt [0, 1] (Lg.O0 A) w 0 0 [vi 0, vi 0] := CAt.glob hG0 (if_pos hGA0)
 refine (show WC _ _ _ _ [(0, vs a0), (1, vi a1)] _ from ?_)
 refine sq (rg (WL.alloc (O := (Lg.O0 A)) 11 [vi 0, vu 0, vu 0, vu 0, vu 0, vB false, vb 0] ty47 z z ?_))
 intro n fq ga V aj
 refine wY (ya z) z (WL.alloc (O := fq) 12 [vi 0, vi 0] ty49 z z ?_)
 intro o fs gb r ak
 refine nl (th (sq (rg (WL.alloc (O := fs) 13 [vi 0, vu 0, vu 0, vu 0, vu 0, vB false, vb 0] ty47 z z ?_))))
 intro j ft bY m bZ
 refine nl (th (sq (rg (wY (ym z) z (wY (Y.add_i z z) z ?_)))))
 obtain ⟨bm, ci, h⟩ := lt1 h
 refine WL.yE (ya z) (congrArg vi ci.symm) z (nl (th (sq (rg (wY (ym z) z (wY (ym z) z (wY (Y.len_s ty9 z) z (wY (Y.lss_i z z) z (wY (ym z) z ?_)))))))))
 obtain ⟨fu, h, d9⟩ := bnd h
 refine WL.cut 5 (σ := Bool) (fun x w' => x = fu ∧ bY = w') (fun x => [(0, vs a0), (1, vi a1), (4, pt n 0), (6, pt o 0), (7, pt j 0), (8, vi bm), (29, vB x)]) ?_ ?_
 ·rcases cnd h with ⟨bn, h⟩ | ⟨bn, h⟩
  ·refine WL.ren 24 z (congrArg vB bn) (ug z z (wY (ym z) z (ug z z (wY (ym z) z (ug z z ?_)))))
   obtain ⟨fv, ea, h⟩ := bnd h
   refine wY (Y.index_s ty9 z z ea) z (ug z z (wY (Y.eql_b (b := 33) z z) z (wY (Y.pick (b := true) z z) z ?_)))
   exact nl (At.join (σ := Bool) (decide (fv = 33)) ⟨some1 h, z⟩ (.cons z (.cons z (.cons z (.cons z (.cons z (.cons z (.cons z .nil))))))))
  ·refine WL.ren 24 z (congrArg vB bn) (WL.gS z z z z (WL.gS z z z z (WL.gS z z z z (WL.gS z z z z (wY (Y.pick (b := false) z z) z ?_)))))
   exact nl (At.join (σ := Bool) false ⟨some1 h, z⟩ (.cons z (.cons z (.cons z (.cons z (.cons z (.cons z (.cons z .nil))))))))
 ·rintro E _ ⟨rfl, rfl⟩
  replace h := d9
  try dsimp only at h
  refine (show WL _ _ _ _ _ [(0, vs a0), (1, vi a1), (4, pt n 0), (6, pt o 0), (7, pt j 0), (8, vi bm), (29, vB E)] _ from ?_)
  refine wY (ya z) z (nl (th (sq ?_)))
  obtain ⟨fw, h, eb⟩ := bnd h
  refine WC.join (σ := Int) (fun x w' => x = fw ∧ bY = w') (fun x => [(0, vs a0), (1, vi a1), (4, pt n 0), (6, pt o 0), (7, pt j 0), (8, vi x), (9, vB E)]) ?_ ?_
  ·refine sq (rg (wY (ym z) z (nl (th ?_))))
   rcases cnd h with ⟨bo, h⟩ | ⟨bo, h⟩
   ·refine WC.condT' z bo (rg (wY (ym z) z (wY (Y.add_i z z) z ?_)))
    obtain ⟨ec, cj, h⟩ := lt1 h
    refine WL.yE (ya z) (congrArg vi cj.symm) z (nl ?_)
    exact At.join (σ := Int) ec ⟨some1 h, z⟩ (.cons z (.cons z (.cons z (.cons z (.cons z (.cons z (.cons z .nil)))))))
   ·refine WC.condF' z bo (sk ?_)
    exact At.join (σ := Int) bm ⟨some1 h, z⟩ (.cons z (.cons z (.cons z (.cons z (.cons z (.cons z (.cons z .nil)))))))
  ·rintro q _ ⟨rfl, rfl⟩
   replace h := eb
   try dsimp only at h
   refine (show At _ _ _ [(0, vs a0), (1, vi a1), (4, pt n 0), (6, pt o 0), (7, pt j 0), (8, vi q), (9, vB E)] _ from ?_)
   refine th (sq (rg (wY (ym z) z (wY (ya z) z (nl (th (sq (sq (rg ?_)))))))))
   refine wY (ym z) z (wY (ym z) z ?_)
   obtain ⟨gt, ed, h⟩ := bnd h
   refine WL.call (vals := [vs a0, vi q]) kok29 z z (c_glob_closed ed) ?_
   rintro gc bp ⟨rfl, ee⟩
   obtain ⟨a5, fx, fy, l⟩ := adoptE ft (fun k => 1) ee
   refine wY (Y.not z) z (nl (th ?_))
   rcases cnd h with ⟨bq, h⟩ | ⟨bq, h⟩
   ·refine WC.condT' z bq (sq (rg ?_))
    have ef := bZ.st l z
    refine wY (yL ty47 z z (ef.cells 0 [vi 0, vu 0, vu 0, vu 0, vu 0, vB false, vb 0] z) z) z (wY (ym z) z (wY (yb (vals := [(0, vi a1), (1, vi 2)]) (cells := [vi a1, vi 2]) (fe_ z) (by kernel_rfl)) z ?_))
    have ei := ((aj.st r z).st m z).st l z
    refine WL.store (v := ag [vi 0, vu 0, vu 0, vu 0, vu 0, vB false, vb 0]) (cells' := [vi 0, vu 0, vu 0, vu 0, vu 0, vB false, vb 0]) ty47 z z ei z (le_ z) z z ?_
    intro gd bw ej
    refine wY (ya z) z ?_
    have en := ((ak.st m z).st l z).st bw z
    refine WL.store (v := ag [vi a1, vi 2]) (cells' := [vi a1, vi 2]) ty49 z z en z (le_ z) z z ?_
    intro eo bx ep
    refine nl (th (rt (At.thenR ?_)))
    obtain ⟨rfl, rfl, rfl⟩ := tup3 h
    have er : Stp [11, 12] (Lg.O0 A) w a5 eo := (tr_ (su_ V z) (tr_ (su_ r z) (tr_ (su_ m z) (tr_ (su_ l z) (tr_ (su_ bw z) (su_ bx z))))))
    have es := ej.st bx z
    exact At.res (.inl z) z (.cell z (es.runAg 0 [vi 0, vu 0, vu 0, vu 0, vu 0, vB false, vb 0] ty47 z z z) (.tmp z (.cell z (ep.runAg 0 [vi a1, vi 2] ty49 z z z) .nil))) ⟨z, (se_ er z z)⟩
   ·refine WC.condF' z bq (sk (th (sq ?_)))
    obtain ⟨fz, h, br⟩ := flow1 h
    refine WC.join (σ := (UInt64 × UInt64 × UInt64 × UInt64 × Int × Own)) (fun x w' => fz = .go (x.1, x.2.1, x.2.2.1, x.2.2.2.1, x.2.2.2.2.1) ∧ Stp [13] a5 bp x.2.2.2.2.2 w' ∧ Blk 13 x.2.2.2.2.2 w' j 47 [vi 0, vu x.1, vu x.2.1, vu x.2.2.1, vu x.2.2.2.1, vB false, vb 0]) (fun x => [(1, vi a1), (4, pt n 0), (6, pt o 0), (7, pt j 0), (8, vi x.2.2.2.2.1), (9, vB E), (10, vi q)]) ?_ ?_
    ·refine WC.block ?_
     obtain ⟨d6, h, bs⟩ := flow1 h
     obtain ⟨d7, h⟩ := loop_some h
     refine WC.joinB 0 (σ := (UInt64 × UInt64 × UInt64 × UInt64 × Int × Own)) (fun x w' => d6 = .go (x.1, x.2.1, x.2.2.1, x.2.2.2.1, x.2.2.2.2.1) ∧ Stp [13] a5 bp x.2.2.2.2.2 w' ∧ Blk 13 x.2.2.2.2.2 w' j 47 [vi 0, vu x.1, vu x.2.1, vu x.2.2.1, vu x.2.2.2.1, vB false, vb 0]) (fun x => [(1, vi a1), (4, pt n 0), (6, pt o 0), (7, pt j 0), (8, vi x.2.2.2.2.1), (9, vB E), (10, vi q)]) ?_ ?_
     ·have et := bZ.st l z
      refine WC.loop (σ := (UInt64 × UInt64 × UInt64 × UInt64 × Int × Own)) (fun x k w' => loopN k (glob_class_lp1 a0) (x.1, x.2.1, x.2.2.1, x.2.2.2.1, x.2.2.2.2.1) = some d6 ∧ Stp [13] a5 bp x.2.2.2.2.2 w' ∧ Blk 13 x.2.2.2.2.2 w' j 47 [vi 0, vu x.1, vu x.2.1, vu x.2.2.1, vu x.2.2.2.1, vB false, vb 0]) (fun x => [(0, vs a0), (1, vi a1), (4, pt n 0), (6, pt o 0), (7, pt j 0), (8, vi x.2.2.2.2.1), (9, vB E), (10, vi q)]) (0, 0, 0, 0, q, a5) d7 (.cons z (.cons z (.cons z (.cons z (.cons z (.cons z (.cons z (.cons z .nil)))))))) ⟨h, (sr_ _ _ _), et⟩ ?_
      rintro ⟨W, J, K, L, p, al⟩ d7 b0 ⟨h, F, ah⟩
      obtain ⟨fA, gu, rfl, h, aC⟩ := rnd1 h
      unfold glob_class_lp1 at h
      try dsimp only at h F ah
      refine (show WC _ _ _ _ [(0, vs a0), (1, vi a1), (4, pt n 0), (6, pt o 0), (7, pt j 0), (8, vi p), (9, vB E), (10, vi q)] _ from ?_)
      refine sq (sq (rg (wY (ym z) z (wY (ym z) z ?_))))
      obtain ⟨gw, eu, h⟩ := bnd h
      refine wY (Y.index_s ty9 z z eu) z (wY (Y.neq_b (b := 93) z z) z (nl (th ?_)))
      rcases cnd h with ⟨aD, h⟩ | ⟨aD, h⟩
      ·refine WC.condT' z aD (sk (th ?_))
       obtain ⟨ew, h, aE⟩ := flow1 h
       refine WC.join (σ := (UInt64 × UInt64 × UInt64 × UInt64 × Int × Own)) (fun x w' => ew = .go (x.1, x.2.1, x.2.2.1, x.2.2.2.1, x.2.2.2.2.1) ∧ Stp [13] al b0 x.2.2.2.2.2 w' ∧ Blk 13 x.2.2.2.2.2 w' j 47 [vi 0, vu x.1, vu x.2.1, vu x.2.2.1, vu x.2.2.2.1, vB false, vb 0]) (fun x => [(0, vs a0), (1, vi a1), (4, pt n 0), (6, pt o 0), (7, pt j 0), (8, vi x.2.2.2.2.1), (9, vB E), (10, vi q)]) ?_ ?_
       ·refine WC.block (sq (sq (rg (wY (ym z) z (wY (ym z) z ?_)))))
        obtain ⟨ge, ck, h⟩ := bnd h
        refine wY (Y.index_s ty9 z z ck) z (wY (Y.eql_b (b := 45) z z) z (nl (th ?_)))
        rcases cnd h with ⟨aF, h⟩ | ⟨aF, h⟩
        ·refine WC.condT' z aF (sq (sq (rg (wY (ym z) z (wY (ym z) z (wY (Y.add_i z z) z ?_))))))
         obtain ⟨gf, cl, h⟩ := bnd h
         refine wY (Y.index_s ty9 z z cl) z (wY (Y.neq_b (b := 93) z z) z (nl (th ?_)))
         rcases cnd h with ⟨aG, h⟩ | ⟨aG, h⟩
         ·refine WC.condT' z aG (sq (rg (wY (yL ty47 z z (ah.cells 0 [vi 0, vu W, vu J, vu K, vu L, vB false, vb 0] z) z) z (wY (ym z) z (wY (yb (vals := [(0, vi p), (1, vi 3)]) (cells := [vi p, vi 3]) (fe_ z) (by kernel_rfl)) z ?_)))))
          have cq := (((aj.st r z).st m z).st l z).st F z
          refine WL.store (v := ag [vi 0, vu W, vu J, vu K, vu L, vB false, vb 0]) (cells' := [vi 0, vu W, vu J, vu K, vu L, vB false, vb 0]) ty47 z z cq z (le_ z) z z ?_
          intro fH a6 cr
          refine wY (ya z) z ?_
          have cv := (((ak.st m z).st l z).st F z).st a6 z
          refine WL.store (v := ag [vi p, vi 3]) (cells' := [vi p, vi 3]) ty49 z z cv z (le_ z) z z ?_
          intro cw a7 cx
          refine nl (th (rt (At.thenR (At.thenR (At.inBlockR ?_)))))
          have h := outs1 h aE
          refine At.joinR (At.loopR ?_)
          have h := outr1 h aC bs
          refine At.joinBR (At.inBlockR ?_)
          have h := outs1 h br
          refine At.joinR (At.thenR ?_)
          obtain ⟨rfl, rfl, rfl⟩ := tup3 h
          have cy : Stp [11, 12, 13] (Lg.O0 A) w al cw := (tr_ (su_ V z) (tr_ (su_ r z) (tr_ (su_ m z) (tr_ (su_ l z) (tr_ (su_ F z) (tr_ (su_ a6 z) (su_ a7 z)))))))
          have cz := cr.st a7 z
          exact At.res (.inl z) z (.cell z (cz.runAg 0 [vi 0, vu W, vu J, vu K, vu L, vB false, vb 0] ty47 z z z) (.tmp z (.cell z (cx.runAg 0 [vi p, vi 3] ty49 z z z) .nil))) ⟨z, (se_ cy z z)⟩
         ·refine WC.condF' z aG (sk (th (sq (rg (wY (yf fo47_1 z) z ?_)))))
          obtain ⟨ex, h, cA⟩ := bnd h
          refine WL.callJ (vals := [pt j 1, vb 45]) (σ := (UInt64 × Own)) (fun x w' => x.1 = ex ∧ Stp [13] al b0 x.2 w' ∧ Blk 13 x.2 w' j 47 [vi 0, vu x.1, vu J, vu K, vu L, vB false, vb 0]) (fun x => tp []) kok28 z z ?_ ?_
          ·refine Rets.enter Tryd.func28 z z ?_
           refine (show WC _ _ _ _ [(0, pt j 1), (1, vb 45)] _ from ?_)
           refine WC.draw 13 al fmix (by kernel_rfl) ?_
           intro fI a8
           refine WS.y (ym z) z (WS.y (ym z) z (WS.yE (Y.quo_b (b := 64) (by decide) z z) (show vb ((45 : UInt8) / 64) = vb 0 from congrArg vb (by decide)) z (WS.y (yn z) z (WS.yE (Y.indexAddrA ty45 ty43 z z (by decide) (by decide)) (show (Value.pointer (some ⟨j, 1 + ((0 : UInt8).toNat : Int).toNat * 1, none⟩)) = .pointer (some ⟨j, 1, none⟩) from z) z ?_))))
           have bz := ah.st a8 z
           refine WS.y (yl ty43 z z (bz.cell 1 _ z)) z (WS.y (ym z) z (WS.yE (Y.rem_b (b := 64) (by decide) z z) (show vb ((45 : UInt8) % 64) = vb 45 from congrArg vb (by decide)) z (WS.y (Y.conv_bu ty5.u ty73.u z) z (WS.y (Y.shl_uu (a := 1) z z) z (WS.y (Y.or_u z z) z (WS.y (yn z) z (WS.yE (Y.indexAddrA ty45 ty43 z z (by decide) (by decide)) (show (Value.pointer (some ⟨j, 1 + ((0 : UInt8).toNat : Int).toNat * 1, none⟩)) = .pointer (some ⟨j, 1, none⟩) from z) z (WS.tail ?_))))))))
           obtain ⟨bt, cC, h⟩ := lt1 h
           refine WL.ren 14 z (congrArg vu cC.symm) (WL.store (v := vu bt) (cells' := [vi 0, vu bt, vu J, vu K, vu L, vB false, vb 0]) ty43 z z bz z (le_ z) z z ?_)
           intro fJ b1 cD
           refine nl ?_
           exact At.res (.inr z) z .nil ⟨(bt, al), ⟨some1 h, (tr_ (su_ a8 z) (su_ b1 z)), cD⟩, z⟩
          ·rintro ⟨ey, ez⟩ fK ⟨rfl, a9, bA⟩
           replace h := cA
           try dsimp only at h a9 bA
           refine (show WL _ _ _ _ _ ((58, tp []) :: _) _ from ?_)
           refine nl (th (sq (rg (wY (ym z) z (wY (Y.add_i z z) z ?_)))))
           obtain ⟨cE, b2, h⟩ := lt1 h
           refine WL.yE (ya z) (congrArg vi b2.symm) z (nl (th (WC.exit (At.thenX (At.inBlockHit ?_)))))
           exact At.join (σ := (UInt64 × UInt64 × UInt64 × UInt64 × Int × Own)) (ey, J, K, L, cE, ez) ⟨go2 h, (su_ a9 z), bA⟩ (.cons z (.cons z (.cons z (.cons z (.cons z (.cons z (.cons z (.cons z .nil))))))))
        ·refine WC.condF' z aF (sk (th (sq (rg (wY (ym z) z (wY (ym z) z ?_))))))
         obtain ⟨⟨t, am⟩, cF, h⟩ := bnd h
         refine WL.call (vals := [vs a0, vi p]) kok30 z z (c_glob_member cF) ?_
         rintro fL aH ⟨rfl, cG⟩
         obtain ⟨bu, fm, fn, M⟩ := adoptE al (fun k => 1) cG
         refine wY (ym z) z (wY (yx z z) z (wY (yx z z) z (wY (ya z) z (wY (ya z) z (nl (th (sq (rg (wY (ym z) z ?_)))))))))
         refine wY (ya z) z (nl (th (sq ?_)))
         obtain ⟨eA, h, bB⟩ := flow1 h
         refine WC.join (σ := (Int × UInt8 × Own)) (fun x w' => eA = .go (x.1, x.2.1) ∧ Stp [] bu aH x.2.2 w') (fun x => [(0, vs a0), (1, vi a1), (4, pt n 0), (6, pt o 0), (7, pt j 0), (8, vi p), (9, vB E), (10, vi q), (11, vb t), (12, vi x.1), (13, vb x.2.1)]) ?_ ?_
         ·refine sq (rg (wY (ym z) z (wY (ym z) z (wY (Y.add_i z z) z ?_))))
          obtain ⟨an, cH, h⟩ := lt1 h
          refine WL.yE (ya z) (congrArg vi cH.symm) z (nl (th (sq (rg (wY (ym z) z (wY (ym z) z ?_))))))
          obtain ⟨gg, cI, h⟩ := bnd h
          refine wY (Y.index_s ty9 z z cI) z (wY (Y.eql_b (b := 45) z z) z (wY (ym z) z ?_))
          obtain ⟨eB, h, cJ⟩ := bnd h
          refine WL.cut 6 (σ := Bool) (fun x w' => x = eB ∧ aH = w') (fun x => [(0, vs a0), (1, vi a1), (4, pt n 0), (6, pt o 0), (7, pt j 0), (8, vi p), (9, vB E), (10, vi q), (11, vb t), (12, vi am), (13, vb t), (14, vi an), (81, vB x)]) ?_ ?_
          ·rcases cnd h with ⟨aI, h⟩ | ⟨aI, h⟩
           ·refine WL.ren 75 z (congrArg vB aI) (ug z z (wY (ym z) z (ug z z (wY (ym z) z (ug z z (wY (Y.add_i z z) z (ug z z ?_)))))))
            obtain ⟨eC, cK, h⟩ := bnd h
            refine wY (Y.index_s ty9 z z cK) z (ug z z (wY (Y.neq_b (b := 93) z z) z (wY (Y.pick (b := true) z z) z ?_)))
            exact nl (At.join (σ := Bool) (!decide (eC = 93)) ⟨some1 h, z⟩ (.cons z (.cons z (.cons z (.cons z (.cons z (.cons z (.cons z (.cons z (.cons z (.cons z (.cons z (.cons z (.cons z .nil))))))))))))))
           ·refine WL.ren 75 z (congrArg vB aI) (WL.gS z z z z (WL.gS z z z z (WL.gS z z z z (WL.gS z z z z (WL.gS z z z z (wY (Y.pick (b := false) z z) z ?_))))))
            exact nl (At.join (σ := Bool) false ⟨some1 h, z⟩ (.cons z (.cons z (.cons z (.cons z (.cons z (.cons z (.cons z (.cons z (.cons z (.cons z (.cons z (.cons z (.cons z .nil))))))))))))))
          ·rintro eD _ ⟨rfl, rfl⟩
           replace h := cJ
           try dsimp only at h
           refine (show WL _ _ _ _ _ [(0, vs a0), (1, vi a1), (4, pt n 0), (6, pt o 0), (7, pt j 0), (8, vi p), (9, vB E), (10, vi q), (11, vb t), (12, vi am), (13, vb t), (14, vi an), (81, vB eD)] _ from ?_)
           refine wY (ym z) z ?_
           obtain ⟨eE, h, cL⟩ := bnd h
           refine WL.cut 6 (σ := Bool) (fun x w' => x = eE ∧ aH = w') (fun x => [(0, vs a0), (1, vi a1), (4, pt n 0), (6, pt o 0), (7, pt j 0), (8, vi p), (9, vB E), (10, vi q), (11, vb t), (12, vi am), (13, vb t), (14, vi an), (88, vB x)]) ?_ ?_
           ·rcases cnd h with ⟨aJ, h⟩ | ⟨aJ, h⟩
            ·refine WL.ren 82 z (congrArg vB aJ) (ug z z (wY (ym z) z (ug z z (wY (ym z) z (ug z z (wY (Y.add_i z z) z (ug z z ?_)))))))
             obtain ⟨eF, cM, h⟩ := bnd h
             refine wY (Y.index_s ty9 z z cM) z (ug z z (wY (Y.neq_b (b := 45) z z) z (wY (Y.pick (b := true) z z) z ?_)))
             exact nl (At.join (σ := Bool) (!decide (eF = 45)) ⟨some1 h, z⟩ (.cons z (.cons z (.cons z (.cons z (.cons z (.cons z (.cons z (.cons z (.cons z (.cons z (.cons z (.cons z (.cons z .nil))))))))))))))
            ·refine WL.ren 82 z (congrArg vB aJ) (WL.gS z z z z (WL.gS z z z z (WL.gS z z z z (WL.gS z z z z (WL.gS z z z z (wY (Y.pick (b := false) z z) z ?_))))))
             exact nl (At.join (σ := Bool) false ⟨some1 h, z⟩ (.cons z (.cons z (.cons z (.cons z (.cons z (.cons z (.cons z (.cons z (.cons z (.cons z (.cons z (.cons z (.cons z .nil))))))))))))))
           ·rintro eG _ ⟨rfl, rfl⟩
            replace h := cL
            try dsimp only at h
            refine (show WL _ _ _ _ _ [(0, vs a0), (1, vi a1), (4, pt n 0), (6, pt o 0), (7, pt j 0), (8, vi p), (9, vB E), (10, vi q), (11, vb t), (12, vi am), (13, vb t), (14, vi an), (88, vB eG)] _ from ?_)
            refine nl (th ?_)
            rcases cnd h with ⟨aK, h⟩ | ⟨aK, h⟩
            ·refine WC.condT' z aK (sq (rg (wY (ym z) z (wY (ym z) z (wY (Y.add_i z z) z ?_)))))
             obtain ⟨⟨eH, gh⟩, cN, h⟩ := bnd h
             refine WL.call (vals := [vs a0, vi (w64 (an + 1))]) kok30 z z (c_glob_member cN) ?_
             rintro fN fO ⟨rfl, cO⟩
             obtain ⟨b3, fo, fp, S⟩ := adoptE bu (fun k => 1) cO
             refine wY (ym z) z (wY (yx z z) z (wY (yx z z) z (wY (ya z) z (wY (ya z) z (nl (th (sq (sq (rg ?_)))))))))
             refine wY (ym z) z (wY (ym z) z (wY (Y.lss_b z z) z (nl (th ?_))))
             rcases cnd h with ⟨aL, h⟩ | ⟨aL, h⟩
             ·refine WC.condT' z aL (sq (rg ?_))
              have cQ := (ah.st M z).st S z
              refine wY (yL ty47 z z (cQ.cells 0 [vi 0, vu W, vu J, vu K, vu L, vB false, vb 0] z) z) z (wY (ym z) z (wY (yb (vals := [(0, vi p), (1, vi 3)]) (cells := [vi p, vi 3]) (fe_ z) (by kernel_rfl)) z ?_))
              have cW := (((((aj.st r z).st m z).st l z).st F z).st M z).st S z
              refine WL.store (v := ag [vi 0, vu W, vu J, vu K, vu L, vB false, vb 0]) (cells' := [vi 0, vu W, vu J, vu K, vu L, vB false, vb 0]) ty47 z z cW z (le_ z) z z ?_
              intro fP ba cX
              refine wY (ya z) z ?_
              have c3 := (((((ak.st m z).st l z).st F z).st M z).st S z).st ba z
              refine WL.store (v := ag [vi p, vi 3]) (cells' := [vi p, vi 3]) ty49 z z c3 z (le_ z) z z ?_
              intro c4 bb c5
              refine nl (th (rt (At.thenR ?_)))
              have h := outs1 h bB
              refine At.joinR (At.thenR (At.inBlockR ?_))
              have h := outs1 h aE
              refine At.joinR (At.loopR ?_)
              have h := outr1 h aC bs
              refine At.joinBR (At.inBlockR ?_)
              have h := outs1 h br
              refine At.joinR (At.thenR ?_)
              obtain ⟨rfl, rfl, rfl⟩ := tup3 h
              have c6 : Stp [11, 12, 13] (Lg.O0 A) w b3 c4 := (tr_ (su_ V z) (tr_ (su_ r z) (tr_ (su_ m z) (tr_ (su_ l z) (tr_ (su_ F z) (tr_ (su_ M z) (tr_ (su_ S z) (tr_ (su_ ba z) (su_ bb z)))))))))
              have c7 := cX.st bb z
              exact At.res (.inl z) z (.cell z (c7.runAg 0 [vi 0, vu W, vu J, vu K, vu L, vB false, vb 0] ty47 z z z) (.tmp z (.cell z (c5.runAg 0 [vi p, vi 3] ty49 z z z) .nil))) ⟨z, (se_ c6 z z)⟩
             ·refine WC.condF' z aL (sk (th (rg (wY (ym z) z (wY (ym z) z (wY (Y.add_i z z) z (wY (ym z) z (wY (Y.add_i z z) z (wY (ya z) z ?_)))))))))
              obtain ⟨c8, b4, h⟩ := lt1 h
              refine WL.yE (ya z) (congrArg vi b4.symm) z (nl ?_)
              exact At.join (σ := (Int × UInt8 × Own)) (c8, eH, b3) ⟨go2 h, (su_ S z)⟩ (.cons z (.cons z (.cons z (.cons z (.cons z (.cons z (.cons z (.cons z (.cons z (.cons z (.cons z .nil)))))))))))
            ·refine WC.condF' z aK (sk ?_)
             exact At.join (σ := (Int × UInt8 × Own)) (am, t, bu) ⟨go2 h, (sr_ _ _ _)⟩ (.cons z (.cons z (.cons z (.cons z (.cons z (.cons z (.cons z (.cons z (.cons z (.cons z (.cons z .nil)))))))))))
         ·rintro ⟨c9, P, aM⟩ aN ⟨rfl, ao⟩
          replace h := flowK_go bB
          try dsimp only at h ao
          refine (show At _ _ _ [(0, vs a0), (1, vi a1), (4, pt n 0), (6, pt o 0), (7, pt j 0), (8, vi p), (9, vB E), (10, vi q), (11, vb t), (12, vi c9), (13, vb P)] _ from ?_)
          refine th (sq (rg (wY (yf fo47_1 z) z (wY (ym z) z (wY (ym z) z ?_)))))
          obtain ⟨eI, h, da⟩ := bnd h
          refine WL.callJ (vals := [pt j 1, vb t, vb P]) (σ := (UInt64 × UInt64 × UInt64 × UInt64 × Own)) (fun x w' => (x.1, x.2.1, x.2.2.1, x.2.2.2.1) = eI ∧ Stp [13] aM aN x.2.2.2.2 w' ∧ Blk 13 x.2.2.2.2 w' j 47 [vi 0, vu x.1, vu x.2.1, vu x.2.2.1, vu x.2.2.2.1, vB false, vb 0]) (fun x => tp []) kok22 z z ?_ ?_
          ·refine Rets.enter Tryd.func22 z z ?_
           refine (show WC _ _ _ _ [(0, pt j 1), (1, vb t), (2, vb P)] _ from ?_)
           refine sq (rg (wY (ym z) z (wY (Y.conv_bi ty5.u ty3.u z) z ?_)))
           obtain ⟨eJ, db, h⟩ := lt1 h
           refine WL.yE (ya z) (congrArg vi db.symm) z (nl (th (WC.block ?_)))
           obtain ⟨b5, h, dc⟩ := flow1 h
           obtain ⟨b6, h⟩ := loop_some h
           refine WC.joinB 0 (σ := (UInt64 × UInt64 × UInt64 × UInt64 × Own)) (fun x w' => b5 = .go (x.1, x.2.1, x.2.2.1, x.2.2.2.1) ∧ Stp [13] aM aN x.2.2.2.2 w' ∧ Blk 13 x.2.2.2.2 w' j 47 [vi 0, vu x.1, vu x.2.1, vu x.2.2.1, vu x.2.2.2.1, vB false, vb 0]) (fun x => []) ?_ ?_
           ·have de := (ah.st M z).st ao z
            refine WC.loop (σ := (UInt64 × UInt64 × UInt64 × UInt64 × Int × Own)) (fun x k w' => loopN k (glob_class_lp2 P) (x.1, x.2.1, x.2.2.1, x.2.2.2.1, x.2.2.2.2.1) = some b5 ∧ Stp [13] aM aN x.2.2.2.2.2 w' ∧ Blk 13 x.2.2.2.2.2 w' j 47 [vi 0, vu x.1, vu x.2.1, vu x.2.2.1, vu x.2.2.2.1, vB false, vb 0]) (fun x => [(0, pt j 1), (2, vb P), (6, vi x.2.2.2.2.1)]) (W, J, K, L, eJ, aM) b6 (.cons z (.cons z (.cons z .nil))) ⟨h, (sr_ _ _ _), de⟩ ?_
            rintro ⟨X, Z, aa, ab, G, aO⟩ b6 df ⟨h, ap, aP⟩
            obtain ⟨eK, gi, rfl, h, bC⟩ := rnd1 h
            unfold glob_class_lp2 at h
            try dsimp only at h ap aP
            refine (show WC _ _ _ _ [(0, pt j 1), (2, vb P), (6, vi G)] _ from ?_)
            refine sq (sq (rg (wY (ym z) z (wY (ym z) z (wY (Y.conv_bi ty5.u ty3.u z) z (wY (Y.leq_i z z) z (nl (th ?_))))))))
            rcases cnd h with ⟨aQ, h⟩ | ⟨aQ, h⟩
            ·refine WC.condT' z aQ (sk (th (sq (WC.block (rg (wY (ym z) z (wY (ym z) z (wY (Y.conv_ib ty3.u ty5.u z) z ?_))))))))
             obtain ⟨p256, h, dg⟩ := bnd h
             refine WL.callJ (vals := [pt j 1, vb (toU8 G)]) (σ := (UInt64 × UInt64 × UInt64 × UInt64 × Own)) (fun x w' => (x.1, x.2.1, x.2.2.1, x.2.2.2.1) = p256 ∧ Stp [13] aO df x.2.2.2.2 w' ∧ Blk 13 x.2.2.2.2 w' j 47 [vi 0, vu x.1, vu x.2.1, vu x.2.2.1, vu x.2.2.2.1, vB false, vb 0]) (fun x => tp []) kok28 z z ?_ ?_
             ·refine Rets.enter Tryd.func28 z z ?_
              refine (show WC _ _ _ _ [(0, pt j 1), (1, vb (toU8 G))] _ from ?_)
              refine WC.draw 13 aO fmix (by kernel_rfl) ?_
              intro fQ bc
              refine WS.y (ym z) z (WS.y (ym z) z (WS.y (Y.quo_b (b := 64) (by decide) z z) z (WS.y (yn z) z ?_)))
              obtain ⟨gj, bD, h⟩ := bnd h
              have bE := idx_in bD
              refine WS.y (Y.indexAddrA ty45 ty43 z z bE.1 bE.2) z ?_
              have bF := aP.st bc z
              refine WS.y (yl ty43 z z (CellsAt.idxU (xs := ([X, Z, aa, ab] : List UInt64)) (bF.cells 1 [vu X, vu Z, vu aa, vu ab] z) bD)) z (WS.y (ym z) z (WS.y (Y.rem_b (b := 64) (by decide) z z) z (WS.y (Y.conv_bu ty5.u ty73.u z) z (WS.y (Y.shl_uu (a := 1) z z) z (WS.y (Y.or_u z z) z (WS.y (yn z) z ?_))))))
              obtain ⟨gk, bG, h⟩ := bnd h
              have bH := idx_in bG
              refine WS.y (Y.indexAddrA ty45 ty43 z z bH.1 bH.2) z (WS.tail ?_)
              obtain ⟨C, dh, h⟩ := lt1 h
              refine WL.ren 14 z (congrArg vu dh.symm) (WL.store4 (xs := ([X, Z, aa, ab] : List UInt64)) (off := 1) (v := C) (fun i => [vi 0, vu (up4 i 0 C X), vu (up4 i 1 C Z), vu (up4 i 2 C aa), vu (up4 i 3 C ab), vB false, vb 0]) ty43 z z bG z bF (le_ z) z z z z ?_)
              intro fR b7 aR
              replace aR : Blk _ _ _ _ _ [vi 0, vu (up4 (((toU8 G) / 64).toNat : Int) 0 C X), vu (up4 (((toU8 G) / 64).toNat : Int) 1 C Z), vu (up4 (((toU8 G) / 64).toNat : Int) 2 C aa), vu (up4 (((toU8 G) / 64).toNat : Int) 3 C ab), vB false, vb 0] := aR
              refine nl ?_
              exact At.res (.inr z) z .nil ⟨((up4 (((toU8 G) / 64).toNat : Int) 0 C X), (up4 (((toU8 G) / 64).toNat : Int) 1 C Z), (up4 (((toU8 G) / 64).toNat : Int) 2 C aa), (up4 (((toU8 G) / 64).toNat : Int) 3 C ab), aO), ⟨some1 h, (tr_ (su_ bc z) (su_ b7 z)), aR⟩, z⟩
             ·rintro ⟨eL, eM, eN, eO, eP⟩ fT ⟨rfl, bd, bI⟩
              replace h := dg
              try dsimp only at h bd bI
              refine (show WL _ _ _ _ _ ((18, tp []) :: _) _ from ?_)
              refine nl (At.inBlock (th (rg (wY (ym z) z (wY (Y.add_i z z) z ?_)))))
              obtain ⟨eQ, di, h⟩ := lt1 h
              refine WL.yE (ya z) (congrArg vi di.symm) z (nl ?_)
              exact At.round (eL, eM, eN, eO, eQ, eP) eK (Nat.lt_succ_self _) ⟨next1 h bC, (tr_ (su_ ap z) (su_ bd z)), bI⟩ (.cons z (.cons z (.cons z .nil)))
            ·refine WC.condF' z aQ (WC.exit (At.thenX (At.loopX ?_)))
             exact At.hitB (σ := (UInt64 × UInt64 × UInt64 × UInt64 × Own)) (X, Z, aa, ab, aO) ⟨brk1 h bC, (su_ ap z), aP⟩ .nil
           ·rintro ⟨eR, eS, eT, eU, eV⟩ fU ⟨rfl, bf, bJ⟩
            replace h := flowK_go dc
            try dsimp only at h bf bJ
            refine (show At _ _ _ [] _ from ?_)
            refine At.inBlockHit ?_
            exact At.res (.inr z) z .nil ⟨(eR, eS, eT, eU, eV), ⟨some1 h, (su_ bf z), bJ⟩, z⟩
          ·rintro ⟨eW, eX, eY, eZ, e0⟩ fV ⟨rfl, bg, bK⟩
           replace h := da
           try dsimp only at h bg bK
           refine (show WL _ _ _ _ _ ((110, tp []) :: _) _ from ?_)
           refine nl (th (rg (wY (ym z) z (wY (ym z) z (wY (Y.add_i z z) z ?_)))))
           obtain ⟨dj, b8, h⟩ := lt1 h
           refine WL.yE (ya z) (congrArg vi b8.symm) z (nl (At.inBlock ?_))
           exact At.join (σ := (UInt64 × UInt64 × UInt64 × UInt64 × Int × Own)) (eW, eX, eY, eZ, dj, e0) ⟨go2 h, (tr_ (su_ M z) (tr_ (su_ ao z) (su_ bg z))), bK⟩ (.cons z (.cons z (.cons z (.cons z (.cons z (.cons z (.cons z (.cons z .nil))))))))
       ·rintro ⟨e1, e2, e5, e6, bL, e7⟩ fY ⟨rfl, bh, bM⟩
        replace h := flowK_go aE
        try dsimp only at h bh bM
        refine (show At _ _ _ [(0, vs a0), (1, vi a1), (4, pt n 0), (6, pt o 0), (7, pt j 0), (8, vi bL), (9, vB E), (10, vi q)] _ from ?_)
        exact At.round (e1, e2, e5, e6, bL, e7) fA (Nat.lt_succ_self _) ⟨next1 h aC, (tr_ (su_ F z) (su_ bh z)), bM⟩ (.cons z (.cons z (.cons z (.cons z (.cons z (.cons z (.cons z (.cons z .nil))))))))
      ·refine WC.condF' z aD (WC.exit (At.thenX (At.loopX ?_)))
       exact At.hitB (σ := (UInt64 × UInt64 × UInt64 × UInt64 × Int × Own)) (W, J, K, L, p, al) ⟨brk1 h aC, (su_ F z), ah⟩ (.cons z (.cons z (.cons z (.cons z (.cons z (.cons z (.cons z .nil)))))))
     ·rintro ⟨fB, fC, fD, fF, b9, fG⟩ gl ⟨rfl, bO, ca⟩
      replace h := flowK_go bs
      try dsimp only at h bO ca
      refine (show At _ _ _ [(1, vi a1), (4, pt n 0), (6, pt o 0), (7, pt j 0), (8, vi b9), (9, vB E), (10, vi q)] _ from ?_)
      refine At.inBlockHit ?_
      exact At.join (σ := (UInt64 × UInt64 × UInt64 × UInt64 × Int × Own)) (fB, fC, fD, fF, b9, fG) ⟨go2 h, (su_ bO z), ca⟩ (.cons z (.cons z (.cons z (.cons z (.cons z (.cons z (.cons z .nil)))))))
    ·rintro ⟨ax, ay, az, aA, Q, aq⟩ aS ⟨rfl, H, aT⟩
     replace h := flowK_go br
     try dsimp only at h H aT
     refine (show At _ _ _ [(1, vi a1), (4, pt n 0), (6, pt o 0), (7, pt j 0), (8, vi Q), (9, vB E), (10, vi q)] _ from ?_)
     refine th (sq (sq (rg (wY (ym z) z (wY (ym z) z (wY (Y.eql_i z z) z (nl (th ?_))))))))
     rcases cnd h with ⟨aU, h⟩ | ⟨aU, h⟩
     ·refine WC.condT' z aU (sq (rg (wY (yL ty47 z z (aT.cells 0 [vi 0, vu ax, vu ay, vu az, vu aA, vB false, vb 0] z) z) z (wY (ym z) z (wY (yb (vals := [(0, vi a1), (1, vi 3)]) (cells := [vi a1, vi 3]) (fe_ z) (by kernel_rfl)) z ?_)))))
      have dn := (((aj.st r z).st m z).st l z).st H z
      refine WL.store (v := ag [vi 0, vu ax, vu ay, vu az, vu aA, vB false, vb 0]) (cells' := [vi 0, vu ax, vu ay, vu az, vu aA, vB false, vb 0]) ty47 z z dn z (le_ z) z z ?_
      intro f0 bi dp
      refine wY (ya z) z ?_
      have du := (((ak.st m z).st l z).st H z).st bi z
      refine WL.store (v := ag [vi a1, vi 3]) (cells' := [vi a1, vi 3]) ty49 z z du z (le_ z) z z ?_
      intro dw bj dx
      refine nl (th (rt (At.thenR ?_)))
      obtain ⟨rfl, rfl, rfl⟩ := tup3 h
      have dy : Stp [11, 12, 13] (Lg.O0 A) w aq dw := (tr_ (su_ V z) (tr_ (su_ r z) (tr_ (su_ m z) (tr_ (su_ l z) (tr_ (su_ H z) (tr_ (su_ bi z) (su_ bj z)))))))
      have dz := dp.st bj z
      exact At.res (.inl z) z (.cell z (dz.runAg 0 [vi 0, vu ax, vu ay, vu az, vu aA, vB false, vb 0] ty47 z z z) (.tmp z (.cell z (dx.runAg 0 [vi a1, vi 3] ty49 z z z) .nil))) ⟨z, (se_ dy z z)⟩
     ·refine WC.condF' z aU (sk (th (sq ?_)))
      obtain ⟨e8, h, dA⟩ := bnd h
      refine WC.join (σ := (UInt64 × UInt64 × UInt64 × UInt64 × Own)) (fun x w' => (x.1, x.2.1, x.2.2.1, x.2.2.2.1) = e8 ∧ Stp [13] aq aS x.2.2.2.2 w' ∧ Blk 13 x.2.2.2.2 w' j 47 [vi 0, vu x.1, vu x.2.1, vu x.2.2.1, vu x.2.2.2.1, vB false, vb 0]) (fun x => [(1, vi a1), (4, pt n 0), (6, pt o 0), (7, pt j 0), (8, vi Q)]) ?_ ?_
      ·refine sq (rg (wY (ym z) z (nl (th ?_))))
       rcases cnd h with ⟨aW, h⟩ | ⟨aW, h⟩
       ·refine WC.condT' z aW (sq (rg (wY (ym z) z (nl (th ?_)))))
        obtain ⟨e9, h, dB⟩ := bnd h
        refine WC.join (σ := (UInt64 × UInt64 × UInt64 × UInt64 × Own)) (fun x w' => (x.1, x.2.1, x.2.2.1, x.2.2.2.1) = e9 ∧ Stp [13] aq aS x.2.2.2.2 w' ∧ Blk 13 x.2.2.2.2 w' j 47 [vi 0, vu x.1, vu x.2.1, vu x.2.2.1, vu x.2.2.2.1, vB false, vb 0]) (fun x => [(1, vi a1), (4, pt n 0), (6, pt o 0), (7, pt j 0), (8, vi Q)]) ?_ ?_
        ·refine WC.block ?_
         obtain ⟨cb, h, dC⟩ := flow1 h
         obtain ⟨cc, h⟩ := loop_some h
         refine WC.joinB 2 (σ := (UInt64 × UInt64 × UInt64 × UInt64 × Own)) (fun x w' => cb = .go (x.1, x.2.1, x.2.2.1, x.2.2.2.1) ∧ Stp [13] aq aS x.2.2.2.2 w' ∧ Blk 13 x.2.2.2.2 w' j 47 [vi 0, vu x.1, vu x.2.1, vu x.2.2.1, vu x.2.2.2.1, vB false, vb 0]) (fun x => [(1, vi a1), (4, pt n 0), (6, pt o 0), (7, pt j 0), (8, vi Q)]) ?_ ?_
         ·refine WC.loop (σ := (UInt64 × UInt64 × UInt64 × UInt64 × Int × Own)) (fun x k w' => loopN k (glob_class_lp3) (x.1, x.2.1, x.2.2.1, x.2.2.2.1, x.2.2.2.2.1) = some cb ∧ Stp [13] aq aS x.2.2.2.2.2 w' ∧ Blk 13 x.2.2.2.2.2 w' j 47 [vi 0, vu x.1, vu x.2.1, vu x.2.2.1, vu x.2.2.2.1, vB false, vb 0]) (fun x => [(1, vi a1), (4, pt n 0), (6, pt o 0), (7, pt j 0), (8, vi Q), (121, vi x.2.2.2.2.1)]) (ax, ay, az, aA, 0, aq) cc (.cons z (.cons z (.cons z (.cons z (.cons z (.cons z .nil)))))) ⟨h, (sr_ _ _ _), aT⟩ ?_
          rintro ⟨ac, ad, ae, af, I, cd⟩ cc f1 ⟨h, ar, ai⟩
          obtain ⟨fa, gm, rfl, h, bP⟩ := rnd1 h
          unfold glob_class_lp3 at h
          try dsimp only at h ar ai
          refine (show WC _ _ _ _ [(1, vi a1), (4, pt n 0), (6, pt o 0), (7, pt j 0), (8, vi Q), (121, vi I)] _ from ?_)
          refine sq (rg (wY (Y.lss_i z z) z (nl (th (sq ?_)))))
          rcases cnd h with ⟨aX, h⟩ | ⟨aX, h⟩
          ·refine WC.condT' z aX (sk (th (sq (WC.block (sq (rg (wY (ym z) z (wY (ya z) z (nl ?_)))))))))
           refine th (rg (wY (ym z) z (wY (ym z) z (wY (yf fo47_1 z) z ?_))))
           obtain ⟨gn, bQ, h⟩ := bnd h
           have bR := idx_in bQ
           refine wY (Y.indexAddrA ty45 ty43 z z bR.1 bR.2) z (wY (yl ty43 z z (CellsAt.idxU (xs := ([ac, ad, ae, af] : List UInt64)) (ai.cells 1 [vu ac, vu ad, vu ae, vu af] z) bQ)) z (wY (Y.not_u z) z (wY (yf fo47_1 z) z ?_)))
           obtain ⟨gp, bS, h⟩ := bnd h
           have bT := idx_in bS
           refine wY (Y.indexAddrA ty45 ty43 z z bT.1 bT.2) z ?_
           obtain ⟨D, dD, h⟩ := lt1 h
           refine WL.ren 129 z (congrArg vu dD.symm) (WL.store4 (xs := ([ac, ad, ae, af] : List UInt64)) (off := 1) (v := D) (fun i => [vi 0, vu (up4 i 0 D ac), vu (up4 i 1 D ad), vu (up4 i 2 D ae), vu (up4 i 3 D af), vB false, vb 0]) ty43 z z bS z ai (le_ z) z z z z ?_)
           intro f2 ce aY
           replace aY : Blk _ _ _ _ _ [vi 0, vu (up4 I 0 D ac), vu (up4 I 1 D ad), vu (up4 I 2 D ae), vu (up4 I 3 D af), vB false, vb 0] := aY
           refine nl (At.inBlock (th (rg (wY (Y.add_i z z) z (wY (ym z) z (nl ?_))))))
           exact At.round ((up4 I 0 D ac), (up4 I 1 D ad), (up4 I 2 D ae), (up4 I 3 D af), w64 (I + 1), cd) fa (Nat.lt_succ_self _) ⟨next1 h bP, (tr_ (su_ ar z) (su_ ce z)), aY⟩ (.cons z (.cons z (.cons z (.cons z (.cons z (.cons z .nil))))))
          ·refine WC.condF' z aX (WC.exit (At.thenX (At.loopX ?_)))
           exact At.hitB (σ := (UInt64 × UInt64 × UInt64 × UInt64 × Own)) (ac, ad, ae, af, cd) ⟨brk1 h bP, (su_ ar z), ai⟩ (.cons z (.cons z (.cons z (.cons z (.cons z .nil)))))
         ·rintro ⟨fc, fd, fe, ff, fg⟩ f3 ⟨rfl, bk, bU⟩
          replace h := flowK_go dC
          try dsimp only at h bk bU
          refine (show At _ _ _ [(1, vi a1), (4, pt n 0), (6, pt o 0), (7, pt j 0), (8, vi Q)] _ from ?_)
          refine At.inBlockHit ?_
          exact At.join (σ := (UInt64 × UInt64 × UInt64 × UInt64 × Own)) (fc, fd, fe, ff, fg) ⟨some1 h, (su_ bk z), bU⟩ (.cons z (.cons z (.cons z (.cons z (.cons z .nil)))))
        ·rintro ⟨fh, fi, fj, fk, fl⟩ f4 ⟨rfl, bl, bW⟩
         replace h := dB
         try dsimp only at h bl bW
         refine (show At _ _ _ [(1, vi a1), (4, pt n 0), (6, pt o 0), (7, pt j 0), (8, vi Q)] _ from ?_)
         exact At.join (σ := (UInt64 × UInt64 × UInt64 × UInt64 × Own)) (fh, fi, fj, fk, fl) ⟨some1 h, (su_ bl z), bW⟩ (.cons z (.cons z (.cons z (.cons z (.cons z .nil)))))
       ·refine WC.condF' z aW (sk ?_)
        exact At.join (σ := (UInt64 × UInt64 × UInt64 × UInt64 × Own)) (ax, ay, az, aA, aq) ⟨some1 h, (sr_ _ _ _), aT⟩ (.cons z (.cons z (.cons z (.cons z (.cons z .nil)))))
      ·rintro ⟨aZ, a2, a3, a4, cf⟩ f5 ⟨rfl, T, bX⟩
       replace h := dA
       try dsimp only at h T bX
       refine (show At _ _ _ [(1, vi a1), (4, pt n 0), (6, pt o 0), (7, pt j 0), (8, vi Q)] _ from ?_)
       refine th (sq (WC.drawH [11] [0, 1, 2, 3, 4, 5, 6, 7] cf 9 fmix z (by kernel_rfl) ?_))
       intro f6 U
       refine WD.y 0 z (by kernel_rfl) (fun f7 gq cg => have dE := bX.st U z; have dF := dE.st cg z; yL ty47 z z (dF.cells 0 [vi 0, vu aZ, vu a2, vu a3, vu a4, vB false, vb 0] z) z) z (WD.y 1 z (by kernel_rfl) (fun _ _ _ => ym z) z (WD.y 2 z (by kernel_rfl) (fun _ _ _ => Y.add_i z z) z (WD.y 3 z (by kernel_rfl) (fun _ _ _ => ym z) z (WD.y 4 z (by kernel_rfl) (fun _ _ _ => Y.sub_i z z) z (WD.y 5 z (by kernel_rfl) (fun f8 gr ch => have dG := d8.st V z; have dH := dG.st r z; have dI := dH.st m z; have dJ := dI.st l z; have dK := dJ.st H z; have dL := dK.st T z; have dM := dL.st U z; have dN := dM.st ch z; yL ty49 z z dN.at_ z) z (WD.heavy 6 z (by kernel_rfl) ?_))))))
       have dT := (((((aj.st r z).st m z).st l z).st H z).st T z).st U z
       refine WL.store (v := ag [vi 0, vu aZ, vu a2, vu a3, vu a4, vB false, vb 0]) (cells' := [vi 0, vu aZ, vu a2, vu a3, vu a4, vB false, vb 0]) ty47 z z dT z (le_ z) z z ?_
       intro f9 au dU
       refine nl (At.dq (su_ au z) ?_)
       obtain ⟨gs, dV, h⟩ := lt1 h
       refine WD.yE 7 z (by kernel_rfl) (fun _ _ _ => ya z) (congrArg vi dV.symm) z (WD.phase [12] [0, 1, 2, 3, 4, 5, 6, 7, 8] (by kernel_rfl) (by kernel_rfl) (WD.heavy 8 z (by kernel_rfl) ?_))
       have d1 := (((((ak.st m z).st l z).st H z).st T z).st U z).st au z
       refine WL.store (v := ag [vi 0, vi 0]) (cells' := [vi 0, vi 0]) ty49 z z d1 z (le_ z) z z ?_
       intro d2 av d3
       refine nl (At.dq (su_ av z) (WD.done_ (by kernel_rfl) (th (rt ?_))))
       obtain ⟨rfl, rfl, rfl⟩ := tup3 h
       have d4 : Stp [11, 12, 13] (Lg.O0 A) w cf d2 := (tr_ (su_ V z) (tr_ (su_ r z) (tr_ (su_ m z) (tr_ (su_ l z) (tr_ (su_ H z) (tr_ (su_ T z) (tr_ (su_ U z) (tr_ (su_ au z) (su_ av z)))))))))
       have d5 := dU.st av z
       exact At.res (.inl z) z (.cell z (d5.runAg 0 [vi 0, vu aZ, vu a2, vu a3, vu a4, vB false, vb 0] ty47 z z z) (.tmp z (.cell z (d3.runAg 0 [vi 0, vi 0] ty49 z z z) .nil))) ⟨z, (se_ d4 z z)⟩
theorem c_glob_byteOf {a0 : UInt8} {w : World} {r0 : glob_piece} (h : glob_byteOf a0 = some r0) : Rets Tryd.prog 24 [vb a0] w (fun v w' => v = ag [vi r0.kind, vu r0.set.a0, vu r0.set.a1, vu r0.set.a2, vu r0.set.a3, vB r0.plain, vb r0.c] ∧ Ext w w') := by
 unfold glob_byteOf at h
 refine Rets.enter Tryd.func24 z z ?_
 refine (show WC _ _ _ _ [(0, vb a0)] _ from ?_)
 refine sq (rg (WL.alloc (O := (Lg.O0 (fun _ => False))) 11 [vi 0, vu 0, vu 0, vu 0, vu 0, vB false, vb 0] ty47 z z ?_))
 intro an ae ai L Q
 refine nl (th (sq (rg (wY (ym z) z (wY (yb (vals := [(2, vB true), (3, vb a0)]) (cells := [vi 0, vu 0, vu 0, vu 0, vu 0, vB true, vb a0]) (fe_ z) (by kernel_rfl)) z (WL.alloc (O := ae) 12 [vi 0, vu 0, vu 0, vu 0, vu 0, vB false, vb 0] ty47 z z ?_))))))
 intro D E aj n S
 refine WL.store (v := ag [vi 0, vu 0, vu 0, vu 0, vu 0, vB true, vb a0]) (cells' := [vi 0, vu 0, vu 0, vu 0, vu 0, vB true, vb a0]) ty47 z z S z (le_ z) z z ?_
 intro T o U
 refine nl (th (sq (rg (wY (yf fo47_1 z) z (wY (ym z) z ?_)))))
 obtain ⟨af, h, V⟩ := bnd h
 refine WL.callJ (vals := [pt D 1, vb a0]) (σ := (UInt64 × UInt64 × UInt64 × UInt64 × Own)) (fun x w' => (x.1, x.2.1, x.2.2.1, x.2.2.2.1) = af ∧ Stp [12] E T x.2.2.2.2 w' ∧ Blk 12 x.2.2.2.2 w' D 47 [vi 0, vu x.1, vu x.2.1, vu x.2.2.1, vu x.2.2.2.1, vB true, vb a0]) (fun x => tp []) kok28 z z ?_ ?_
 ·refine Rets.enter Tryd.func28 z z ?_
  refine (show WC _ _ _ _ [(0, pt D 1), (1, vb a0)] _ from ?_)
  refine WC.draw 13 E fmix (by kernel_rfl) ?_
  intro ak p
  refine WS.y (ym z) z (WS.y (ym z) z (WS.y (Y.quo_b (b := 64) (by decide) z z) z (WS.y (yn z) z ?_)))
  obtain ⟨ao, F, h⟩ := bnd h
  have G := idx_in F
  refine WS.y (Y.indexAddrA ty45 ty43 z z G.1 G.2) z ?_
  have H := U.st p z
  refine WS.y (yl ty43 z z (CellsAt.idxU (xs := ([0, 0, 0, 0] : List UInt64)) (H.cells 1 [vu 0, vu 0, vu 0, vu 0] z) F)) z (WS.y (ym z) z (WS.y (Y.rem_b (b := 64) (by decide) z z) z (WS.y (Y.conv_bu ty5.u ty73.u z) z (WS.y (Y.shl_uu (a := 1) z z) z (WS.y (Y.or_u z z) z (WS.y (yn z) z ?_))))))
  obtain ⟨ap, I, h⟩ := bnd h
  have J := idx_in I
  refine WS.y (Y.indexAddrA ty45 ty43 z z J.1 J.2) z (WS.tail ?_)
  obtain ⟨j, W, h⟩ := lt1 h
  refine WL.ren 14 z (congrArg vu W.symm) (WL.store4 (xs := ([0, 0, 0, 0] : List UInt64)) (off := 1) (v := j) (fun i => [vi 0, vu (up4 i 0 j 0), vu (up4 i 1 j 0), vu (up4 i 2 j 0), vu (up4 i 3 j 0), vB true, vb a0]) ty43 z z I z H (le_ z) z z z z ?_)
  intro al M m
  replace m : Blk _ _ _ _ _ [vi 0, vu (up4 ((a0 / 64).toNat : Int) 0 j 0), vu (up4 ((a0 / 64).toNat : Int) 1 j 0), vu (up4 ((a0 / 64).toNat : Int) 2 j 0), vu (up4 ((a0 / 64).toNat : Int) 3 j 0), vB true, vb a0] := m
  refine nl ?_
  exact At.res (.inr z) z .nil ⟨((up4 ((a0 / 64).toNat : Int) 0 j 0), (up4 ((a0 / 64).toNat : Int) 1 j 0), (up4 ((a0 / 64).toNat : Int) 2 j 0), (up4 ((a0 / 64).toNat : Int) 3 j 0), E), ⟨some1 h, (tr_ (su_ p z) (su_ M z)), m⟩, z⟩
 ·rintro ⟨q, r, t, C, ah⟩ am ⟨rfl, l, K⟩
  replace h := V
  try dsimp only at h l K
  refine (show WL _ _ _ _ _ ((8, tp []) :: _) _ from ?_)
  refine nl (th (sq (rg (wY (yL ty47 z z (K.cells 0 [vi 0, vu q, vu r, vu t, vu C, vB true, vb a0] z) z) z ?_))))
  have aa := ((Q.st n z).st o z).st l z
  refine WL.store (v := ag [vi 0, vu q, vu r, vu t, vu C, vB true, vb a0]) (cells' := [vi 0, vu q, vu r, vu t, vu C, vB true, vb a0]) ty47 z z aa z (le_ z) z z ?_
  intro ab P ac
  refine nl (th (rt ?_))
  obtain rfl := some1 h
  have ad : Stp [11, 12] (Lg.O0 (fun _ => False)) w ah ab := (tr_ (su_ L z) (tr_ (su_ n z) (tr_ (su_ o z) (tr_ (su_ l z) (su_ P z)))))
  exact At.res (.inl z) z (.cell z (ac.runAg 0 [vi 0, vu q, vu r, vu t, vu C, vB true, vb a0] ty47 z z z) .nil) ⟨z, (se_ ad z z)⟩
theorem c_glob_next {A : Nat → Prop} {a0 : List UInt8} {a1 : Int} {w : World} (hG0 : CellsAt w 0 0 [vi 0, vi 0]) (hGA0 : A 0) {r0 : glob_piece} {r1 : Int} {r2 : glob_fault} (h : glob_next a0 a1 = some (r0, r1, r2)) : Rets Tryd.prog 15 [vs a0, vi a1] w (fun v w' => v = Value.tuple (List.toArray [ag [vi r0.kind, vu r0.set.a0, vu r0.set.a1, vu r0.set.a2, vu r0.set.a3, vB r0.plain, vb r0.c], vi r1, ag [vi r2.at_, vi r2.e]]) ∧ Ext w w') := by
 unfold glob_next at h
 refine Rets.enter Tryd.func15 z z ?_
 have P : CAt [0, 1] (Lg.O0 A) w 0 0 [vi 0, vi 0] := CAt.glob hG0 (if_pos hGA0)
 refine (show WC _ _ _ _ [(0, vs a0), (1, vi a1)] _ from ?_)
 refine sq (rg (WL.alloc (O := (Lg.O0 A)) 11 [vi 0, vu 0, vu 0, vu 0, vu 0, vB false, vb 0] ty47 z z ?_))
 intro dT c1 dD o I
 refine wY (ya z) z (WL.alloc (O := c1) 12 [vi 0, vi 0] ty49 z z ?_)
 intro dU C dE j J
 refine nl (th (sq (sq (rg (wY (ym z) z (wY (ym z) z ?_))))))
 obtain ⟨dV, cs, h⟩ := bnd h
 refine wY (Y.index_s ty9 z z cs) z (nl (th (WC.block (sq (rg (wY (Y.eql_b (b := 42) z z) z ?_))))))
 obtain ⟨dW, ct, h⟩ := lt1 h
 refine WL.yE (ya z) (congrArg vB ct.symm) z (nl (th ?_))
 rcases cnd h with ⟨ar, h⟩ | ⟨ar, h⟩
 ·refine WC.condT' z ar (sq (WC.drawH [11] [0, 1, 2, 3] C 5 fmix z (by kernel_rfl) ?_))
  intro dF L
  refine WD.y 0 z (by kernel_rfl) (fun _ _ _ => yb (vals := [(0, vi 1)]) (cells := [vi 1, vu 0, vu 0, vu 0, vu 0, vB false, vb 0]) (fe_ z) (by kernel_rfl)) z (WD.y 1 z (by kernel_rfl) (fun dG dX aW => have cu := P.st o z; have cv := cu.st j z; have cw := cv.st L z; have cx := cw.st aW z; yL ty49 z z cx.at_ z) z (WD.heavy 2 z (by kernel_rfl) ?_))
  have cz := (I.st j z).st L z
  refine WL.store (v := ag [vi 1, vu 0, vu 0, vu 0, vu 0, vB false, vb 0]) (cells' := [vi 1, vu 0, vu 0, vu 0, vu 0, vB false, vb 0]) ty47 z z cz z (le_ z) z z ?_
  intro dH ad cA
  refine nl (At.dq (su_ ad z) (WD.y 3 z (by kernel_rfl) (fun _ _ _ => ya z) z (WD.phase [12] [0, 1, 2, 3, 4] (by kernel_rfl) (by kernel_rfl) (WD.heavy 4 z (by kernel_rfl) ?_))))
  have cD := (J.st L z).st ad z
  refine WL.store (v := ag [vi 0, vi 0]) (cells' := [vi 0, vi 0]) ty49 z z cD z (le_ z) z z ?_
  intro cE ae cF
  refine nl (At.dq (su_ ae z) (WD.done_ (by kernel_rfl) (th (rt (At.inBlockR (At.thenR ?_))))))
  obtain ⟨rfl, rfl, rfl⟩ := tup3 h
  have cG : Stp [11, 12] (Lg.O0 A) w C cE := (tr_ (su_ o z) (tr_ (su_ j z) (tr_ (su_ L z) (tr_ (su_ ad z) (su_ ae z)))))
  have cH := cA.st ae z
  exact At.res (.inl z) z (.cell z (cH.runAg 0 [vi 1, vu 0, vu 0, vu 0, vu 0, vB false, vb 0] ty47 z z z) (.tmp z (.cell z (cF.runAg 0 [vi 0, vi 0] ty49 z z z) .nil))) ⟨z, (se_ cG z z)⟩
 ·refine WC.condF' z ar (sq (rg (wY (Y.eql_b (b := 63) z z) z ?_)))
  obtain ⟨dY, cI, h⟩ := lt1 h
  refine WL.yE (ya z) (congrArg vB cI.symm) z (nl (th ?_))
  rcases cnd h with ⟨au, h⟩ | ⟨au, h⟩
  ·refine WC.condT' z au (sq (rg (WL.alloc (O := C) 13 [vi 0, vu 0, vu 0, vu 0, vu 0, vB false, vb 0] ty47 z z ?_)))
   intro t az av M cJ
   refine nl (th (sq (rg (wY (yf fo47_1 z) z ?_))))
   obtain ⟨c2, h, cK⟩ := bnd h
   refine WL.callJ (vals := [pt t 1, vb 0, vb 255]) (σ := (UInt64 × UInt64 × UInt64 × UInt64 × Own)) (fun x w' => (x.1, x.2.1, x.2.2.1, x.2.2.2.1) = c2 ∧ Stp [13] az av x.2.2.2.2 w' ∧ Blk 13 x.2.2.2.2 w' t 47 [vi 0, vu x.1, vu x.2.1, vu x.2.2.1, vu x.2.2.2.1, vB false, vb 0]) (fun x => tp []) kok22 z z ?_ ?_
   ·refine Rets.enter Tryd.func22 z z ?_
    refine (show WC _ _ _ _ [(0, pt t 1), (1, vb 0), (2, vb 255)] _ from ?_)
    refine sq (rg (wY (ym z) z (wY (Y.conv_bi ty5.u ty3.u z) z ?_)))
    obtain ⟨c3, cL, h⟩ := lt1 h
    refine WL.yE (ya z) (congrArg vi cL.symm) z (nl (th (WC.block ?_)))
    obtain ⟨co, h, cM⟩ := flow1 h
    obtain ⟨cq, h⟩ := loop_some h
    refine WC.joinB 0 (σ := (UInt64 × UInt64 × UInt64 × UInt64 × Own)) (fun x w' => co = .go (x.1, x.2.1, x.2.2.1, x.2.2.2.1) ∧ Stp [13] az av x.2.2.2.2 w' ∧ Blk 13 x.2.2.2.2 w' t 47 [vi 0, vu x.1, vu x.2.1, vu x.2.2.1, vu x.2.2.2.1, vB false, vb 0]) (fun x => []) ?_ ?_
    ·refine WC.loop (σ := (UInt64 × UInt64 × UInt64 × UInt64 × Int × Own)) (fun x k w' => loopN k (glob_next_lp1) (x.1, x.2.1, x.2.2.1, x.2.2.2.1, x.2.2.2.2.1) = some co ∧ Stp [13] az av x.2.2.2.2.2 w' ∧ Blk 13 x.2.2.2.2.2 w' t 47 [vi 0, vu x.1, vu x.2.1, vu x.2.2.1, vu x.2.2.2.1, vB false, vb 0]) (fun x => [(0, pt t 1), (2, vb 255), (6, vi x.2.2.2.2.1)]) (0, 0, 0, 0, c3, az) cq (.cons z (.cons z (.cons z .nil))) ⟨h, (sr_ _ _ _), cJ⟩ ?_
     rintro ⟨Q, S, T, U, q, aA⟩ cq cN ⟨h, af, ax⟩
     obtain ⟨c4, dZ, rfl, h, aM⟩ := rnd1 h
     unfold glob_next_lp1 at h
     try dsimp only at h af ax
     refine (show WC _ _ _ _ [(0, pt t 1), (2, vb 255), (6, vi q)] _ from ?_)
     refine sq (sq (rg (wY (ym z) z (wY (ym z) z (wY (Y.conv_bi ty5.u ty3.u z) z (wY (Y.leq_i z z) z (nl (th ?_))))))))
     rcases cnd h with ⟨ay, h⟩ | ⟨ay, h⟩
     ·refine WC.condT' z ay (sk (th (sq (WC.block (rg (wY (ym z) z (wY (ym z) z (wY (Y.conv_ib ty3.u ty5.u z) z ?_))))))))
      obtain ⟨cO, h, aX⟩ := bnd h
      refine WL.callJ (vals := [pt t 1, vb (toU8 q)]) (σ := (UInt64 × UInt64 × UInt64 × UInt64 × Own)) (fun x w' => (x.1, x.2.1, x.2.2.1, x.2.2.2.1) = cO ∧ Stp [13] aA cN x.2.2.2.2 w' ∧ Blk 13 x.2.2.2.2 w' t 47 [vi 0, vu x.1, vu x.2.1, vu x.2.2.1, vu x.2.2.2.1, vB false, vb 0]) (fun x => tp []) kok28 z z ?_ ?_
      ·refine Rets.enter Tryd.func28 z z ?_
       refine (show WC _ _ _ _ [(0, pt t 1), (1, vb (toU8 q))] _ from ?_)
       refine WC.draw 13 aA fmix (by kernel_rfl) ?_
       intro df al
       refine WS.y (ym z) z (WS.y (ym z) z (WS.y (Y.quo_b (b := 64) (by decide) z z) z (WS.y (yn z) z ?_)))
       obtain ⟨dI, aC, h⟩ := bnd h
       have aD := idx_in aC
       refine WS.y (Y.indexAddrA ty45 ty43 z z aD.1 aD.2) z ?_
       have aE := ax.st al z
       refine WS.y (yl ty43 z z (CellsAt.idxU (xs := ([Q, S, T, U] : List UInt64)) (aE.cells 1 [vu Q, vu S, vu T, vu U] z) aC)) z (WS.y (ym z) z (WS.y (Y.rem_b (b := 64) (by decide) z z) z (WS.y (Y.conv_bu ty5.u ty73.u z) z (WS.y (Y.shl_uu (a := 1) z z) z (WS.y (Y.or_u z z) z (WS.y (yn z) z ?_))))))
       obtain ⟨dJ, aF, h⟩ := bnd h
       have aG := idx_in aF
       refine WS.y (Y.indexAddrA ty45 ty43 z z aG.1 aG.2) z (WS.tail ?_)
       obtain ⟨p, aY, h⟩ := lt1 h
       refine WL.ren 14 z (congrArg vu aY.symm) (WL.store4 (xs := ([Q, S, T, U] : List UInt64)) (off := 1) (v := p) (fun i => [vi 0, vu (up4 i 0 p Q), vu (up4 i 1 p S), vu (up4 i 2 p T), vu (up4 i 3 p U), vB false, vb 0]) ty43 z z aF z aE (le_ z) z z z z ?_)
       intro dg aN ah
       replace ah : Blk _ _ _ _ _ [vi 0, vu (up4 (((toU8 q) / 64).toNat : Int) 0 p Q), vu (up4 (((toU8 q) / 64).toNat : Int) 1 p S), vu (up4 (((toU8 q) / 64).toNat : Int) 2 p T), vu (up4 (((toU8 q) / 64).toNat : Int) 3 p U), vB false, vb 0] := ah
       refine nl ?_
       exact At.res (.inr z) z .nil ⟨((up4 (((toU8 q) / 64).toNat : Int) 0 p Q), (up4 (((toU8 q) / 64).toNat : Int) 1 p S), (up4 (((toU8 q) / 64).toNat : Int) 2 p T), (up4 (((toU8 q) / 64).toNat : Int) 3 p U), aA), ⟨some1 h, (tr_ (su_ al z) (su_ aN z)), ah⟩, z⟩
      ·rintro ⟨c5, c6, c7, c8, c9⟩ dh ⟨rfl, am, aO⟩
       replace h := aX
       try dsimp only at h am aO
       refine (show WL _ _ _ _ _ ((18, tp []) :: _) _ from ?_)
       refine nl (At.inBlock (th (rg (wY (ym z) z (wY (Y.add_i z z) z ?_)))))
       obtain ⟨cP, aZ, h⟩ := lt1 h
       refine WL.yE (ya z) (congrArg vi aZ.symm) z (nl ?_)
       exact At.round (c5, c6, c7, c8, cP, c9) c4 (Nat.lt_succ_self _) ⟨next1 h aM, (tr_ (su_ af z) (su_ am z)), aO⟩ (.cons z (.cons z (.cons z .nil)))
     ·refine WC.condF' z ay (WC.exit (At.thenX (At.loopX ?_)))
      exact At.hitB (σ := (UInt64 × UInt64 × UInt64 × UInt64 × Own)) (Q, S, T, U, aA) ⟨brk1 h aM, (su_ af z), ax⟩ .nil
    ·rintro ⟨da, db, dc, dd, de⟩ dK ⟨rfl, aH, aP⟩
     replace h := flowK_go cM
     try dsimp only at h aH aP
     refine (show At _ _ _ [] _ from ?_)
     refine At.inBlockHit ?_
     exact At.res (.inr z) z .nil ⟨(da, db, dc, dd, de), ⟨some1 h, (su_ aH z), aP⟩, z⟩
   ·rintro ⟨aI, aJ, aK, aL, cr⟩ dL ⟨rfl, D, aQ⟩
    replace h := cK
    try dsimp only at h D aQ
    refine (show WL _ _ _ _ _ ((18, tp []) :: _) _ from ?_)
    refine nl (th (sq (WC.drawH [11] [0, 1, 2, 3] cr 5 fmix z (by kernel_rfl) ?_)))
    intro di r
    refine WD.y 0 z (by kernel_rfl) (fun dj dM aR => have a2 := aQ.st r z; have a3 := a2.st aR z; yL ty47 z z (a3.cells 0 [vi 0, vu aI, vu aJ, vu aK, vu aL, vB false, vb 0] z) z) z (WD.y 1 z (by kernel_rfl) (fun dk dN aS => have a4 := P.st o z; have a5 := a4.st j z; have a6 := a5.st M z; have a7 := a6.st D z; have a8 := a7.st r z; have a9 := a8.st aS z; yL ty49 z z a9.at_ z) z (WD.heavy 2 z (by kernel_rfl) ?_))
    have bd := (((I.st j z).st M z).st D z).st r z
    refine WL.store (v := ag [vi 0, vu aI, vu aJ, vu aK, vu aL, vB false, vb 0]) (cells' := [vi 0, vu aI, vu aJ, vu aK, vu aL, vB false, vb 0]) ty47 z z bd z (le_ z) z z ?_
    intro dl V bf
    refine nl (At.dq (su_ V z) (WD.y 3 z (by kernel_rfl) (fun _ _ _ => ya z) z (WD.phase [12] [0, 1, 2, 3, 4] (by kernel_rfl) (by kernel_rfl) (WD.heavy 4 z (by kernel_rfl) ?_))))
    have bj := (((J.st M z).st D z).st r z).st V z
    refine WL.store (v := ag [vi 0, vi 0]) (cells' := [vi 0, vi 0]) ty49 z z bj z (le_ z) z z ?_
    intro bk W bl
    refine nl (At.dq (su_ W z) (WD.done_ (by kernel_rfl) (th (rt (At.inBlockR (At.thenR ?_))))))
    obtain ⟨rfl, rfl, rfl⟩ := tup3 h
    have bm : Stp [11, 12, 13] (Lg.O0 A) w cr bk := (tr_ (su_ o z) (tr_ (su_ j z) (tr_ (su_ M z) (tr_ (su_ D z) (tr_ (su_ r z) (tr_ (su_ V z) (su_ W z)))))))
    have bn := bf.st W z
    exact At.res (.inl z) z (.cell z (bn.runAg 0 [vi 0, vu aI, vu aJ, vu aK, vu aL, vB false, vb 0] ty47 z z z) (.tmp z (.cell z (bl.runAg 0 [vi 0, vi 0] ty49 z z z) .nil))) ⟨z, (se_ bm z z)⟩
  ·refine WC.condF' z au (sq (rg (wY (Y.eql_b (b := 91) z z) z ?_)))
   obtain ⟨dO, bo, h⟩ := lt1 h
   refine WL.yE (ya z) (congrArg vB bo.symm) z (nl (th ?_))
   rcases cnd h with ⟨ai, h⟩ | ⟨ai, h⟩
   ·refine WC.condT' z ai (sq (rg (wY (ym z) z (wY (ym z) z ?_))))
    have bq := (P.st o z).st j z
    obtain ⟨⟨l, dP, K⟩, br, h⟩ := bnd h
    refine WL.call (vals := [vs a0, vi a1]) kok23 z z (c_glob_class (A := fun _ => True) bq.at_ trivial br) ?_
    rintro dm dn ⟨rfl, bs⟩
    obtain ⟨cQ, cV, cW, X⟩ := adoptE C (fun k => 1) bs
    refine wY (yx z z) z (wY (yx z z) z (wY (yx z z) z ?_))
    have bu := (I.st j z).st X z
    refine WL.store (v := ag [vi l.kind, vu l.set.a0, vu l.set.a1, vu l.set.a2, vu l.set.a3, vB l.plain, vb l.c]) (cells' := [vi l.kind, vu l.set.a0, vu l.set.a1, vu l.set.a2, vu l.set.a3, vB l.plain, vb l.c]) ty47 z z bu z (le_ z) z z ?_
    intro dp an bw
    refine wY (ya z) z ?_
    have bz := (J.st X z).st an z
    refine WL.store (v := ag [vi K.at_, vi K.e]) (cells' := [vi K.at_, vi K.e]) ty49 z z bz z (le_ z) z z ?_
    intro bA ao bB
    refine nl (th (rt (At.inBlockR (At.thenR ?_))))
    obtain ⟨rfl, rfl, rfl⟩ := tup3 h
    have bC : Stp [11, 12] (Lg.O0 A) w cQ bA := (tr_ (su_ o z) (tr_ (su_ j z) (tr_ (su_ X z) (tr_ (su_ an z) (su_ ao z)))))
    have bD := bw.st ao z
    exact At.res (.inl z) z (.cell z (bD.runAg 0 [vi l.kind, vu l.set.a0, vu l.set.a1, vu l.set.a2, vu l.set.a3, vB l.plain, vb l.c] ty47 z z z) (.tmp z (.cell z (bB.runAg 0 [vi K.at_, vi K.e] ty49 z z z) .nil))) ⟨z, (se_ bC z z)⟩
   ·refine WC.condF' z ai (sq (rg (wY (Y.eql_b (b := 92) z z) z ?_)))
    obtain ⟨dQ, bE, h⟩ := lt1 h
    refine WL.yE (ya z) (congrArg vB bE.symm) z (nl (th ?_))
    rcases cnd h with ⟨aj, h⟩ | ⟨aj, h⟩
    ·refine WC.condT' z aj (sq (sq (rg (wY (ym z) z (wY (Y.add_i z z) z (wY (ym z) z (wY (Y.len_s ty9 z) z (wY (Y.eql_i z z) z (nl ?_)))))))))
     refine th ?_
     rcases cnd h with ⟨ak, h⟩ | ⟨ak, h⟩
     ·refine WC.condT' z ak (sq (rg (wY (yb (vals := []) (cells := [vi 0, vu 0, vu 0, vu 0, vu 0, vB false, vb 0]) (fe_ z) (by kernel_rfl)) z (wY (ym z) z (wY (yb (vals := [(0, vi a1), (1, vi 2)]) (cells := [vi a1, vi 2]) (fe_ z) (by kernel_rfl)) z ?_)))))
      have bF := I.st j z
      refine WL.store (v := ag [vi 0, vu 0, vu 0, vu 0, vu 0, vB false, vb 0]) (cells' := [vi 0, vu 0, vu 0, vu 0, vu 0, vB false, vb 0]) ty47 z z bF z (le_ z) z z ?_
      intro dr ap bG
      refine wY (ya z) z ?_
      have bH := J.st ap z
      refine WL.store (v := ag [vi a1, vi 2]) (cells' := [vi a1, vi 2]) ty49 z z bH z (le_ z) z z ?_
      intro bI aq bJ
      refine nl (th (rt (At.thenR (At.inBlockR (At.thenR ?_)))))
      obtain ⟨rfl, rfl, rfl⟩ := tup3 h
      have bK : Stp [11, 12] (Lg.O0 A) w C bI := (tr_ (su_ o z) (tr_ (su_ j z) (tr_ (su_ ap z) (su_ aq z))))
      have bL := bG.st aq z
      exact At.res (.inl z) z (.cell z (bL.runAg 0 [vi 0, vu 0, vu 0, vu 0, vu 0, vB false, vb 0] ty47 z z z) (.tmp z (.cell z (bJ.runAg 0 [vi a1, vi 2] ty49 z z z) .nil))) ⟨z, (se_ bK z z)⟩
     ·refine WC.condF' z ak (sk (th (sq (WC.drawH [11] [0, 1, 2, 3, 4, 5, 6, 7] C 9 fmix z (by kernel_rfl) ?_))))
      intro ds E
      refine WD.y 0 z (by kernel_rfl) (fun _ _ _ => ym z) z (WD.y 1 z (by kernel_rfl) (fun _ _ _ => ym z) z (WD.y 2 z (by kernel_rfl) (fun _ _ _ => Y.add_i z z) z ?_))
      obtain ⟨cR, bM, h⟩ := bnd h
      refine WD.y 3 z (by kernel_rfl) (fun _ _ _ => Y.index_s ty9 z z bM) z (WD.y 5 z (by kernel_rfl) (fun dt dR aT => have bO := P.st o z; have bP := bO.st j z; have bQ := bP.st E z; have bR := bQ.st aT z; yL ty49 z z bR.at_ z) z (WD.heavy 4 z (by kernel_rfl) ?_))
      obtain ⟨m, bS, h⟩ := bnd h
      refine WL.call (vals := [vb cR]) kok24 z z (c_glob_byteOf bS) ?_
      rintro du dw ⟨rfl, bT⟩
      obtain ⟨cS, cX, cY, F⟩ := adoptE C (fun k => 1) bT
      refine nl (At.dq (su_ F z) (WD.heavy 6 z (by kernel_rfl) ?_))
      have bX := ((I.st j z).st E z).st F z
      refine WL.store (v := ag [vi m.kind, vu m.set.a0, vu m.set.a1, vu m.set.a2, vu m.set.a3, vB m.plain, vb m.c]) (cells' := [vi m.kind, vu m.set.a0, vu m.set.a1, vu m.set.a2, vu m.set.a3, vB m.plain, vb m.c]) ty47 z z bX z (le_ z) z z ?_
      intro dx Z bY
      refine nl (At.dq (su_ Z z) (WD.y 7 z (by kernel_rfl) (fun _ _ _ => ya z) z (WD.phase [12] [0, 1, 2, 3, 4, 5, 6, 7, 8] (by kernel_rfl) (by kernel_rfl) (WD.heavy 8 z (by kernel_rfl) ?_))))
      have b1 := ((J.st E z).st F z).st Z z
      refine WL.store (v := ag [vi 0, vi 0]) (cells' := [vi 0, vi 0]) ty49 z z b1 z (le_ z) z z ?_
      intro b2 aa b3
      refine nl (At.dq (su_ aa z) (WD.done_ (by kernel_rfl) (th (rt (At.inBlockR (At.thenR ?_))))))
      obtain ⟨rfl, rfl, rfl⟩ := tup3 h
      have b4 : Stp [11, 12] (Lg.O0 A) w cS b2 := (tr_ (su_ o z) (tr_ (su_ j z) (tr_ (su_ E z) (tr_ (su_ F z) (tr_ (su_ Z z) (su_ aa z))))))
      have b5 := bY.st aa z
      exact At.res (.inl z) z (.cell z (b5.runAg 0 [vi m.kind, vu m.set.a0, vu m.set.a1, vu m.set.a2, vu m.set.a3, vB m.plain, vb m.c] ty47 z z z) (.tmp z (.cell z (b3.runAg 0 [vi 0, vi 0] ty49 z z z) .nil))) ⟨z, (se_ b4 z z)⟩
    ·refine WC.condF' z aj (sk (At.inBlock (th (sq (WC.drawH [11] [0, 1, 2, 3, 4, 5, 6] C 8 fmix z (by kernel_rfl) ?_)))))
     intro dy G
     refine WD.y 0 z (by kernel_rfl) (fun _ _ _ => ym z) z (WD.y 1 z (by kernel_rfl) (fun _ _ _ => ym z) z ?_)
     obtain ⟨cT, b6, h⟩ := bnd h
     refine WD.y 2 z (by kernel_rfl) (fun _ _ _ => Y.index_s ty9 z z b6) z (WD.y 4 z (by kernel_rfl) (fun dz dS aU => have b7 := P.st o z; have b8 := b7.st j z; have b9 := b8.st G z; have ca := b9.st aU z; yL ty49 z z ca.at_ z) z (WD.heavy 3 z (by kernel_rfl) ?_))
     obtain ⟨n, cb, h⟩ := bnd h
     refine WL.call (vals := [vb cT]) kok24 z z (c_glob_byteOf cb) ?_
     rintro dA dB ⟨rfl, cc⟩
     obtain ⟨cU, cZ, c0, H⟩ := adoptE C (fun k => 1) cc
     refine nl (At.dq (su_ H z) (WD.heavy 5 z (by kernel_rfl) ?_))
     have cf := ((I.st j z).st G z).st H z
     refine WL.store (v := ag [vi n.kind, vu n.set.a0, vu n.set.a1, vu n.set.a2, vu n.set.a3, vB n.plain, vb n.c]) (cells' := [vi n.kind, vu n.set.a0, vu n.set.a1, vu n.set.a2, vu n.set.a3, vB n.plain, vb n.c]) ty47 z z cf z (le_ z) z z ?_
     intro dC ab cg
     refine nl (At.dq (su_ ab z) (WD.y 6 z (by kernel_rfl) (fun _ _ _ => ya z) z (WD.phase [12] [0, 1, 2, 3, 4, 5, 6, 7] (by kernel_rfl) (by kernel_rfl) (WD.heavy 7 z (by kernel_rfl) ?_))))
     have cj := ((J.st G z).st H z).st ab z
     refine WL.store (v := ag [vi 0, vi 0]) (cells' := [vi 0, vi 0]) ty49 z z cj z (le_ z) z z ?_
     intro ck ac cl
     refine nl (At.dq (su_ ac z) (WD.done_ (by kernel_rfl) (th (rt ?_))))
     obtain ⟨rfl, rfl, rfl⟩ := tup3 h
     have cm : Stp [11, 12] (Lg.O0 A) w cU ck := (tr_ (su_ o z) (tr_ (su_ j z) (tr_ (su_ G z) (tr_ (su_ H z) (tr_ (su_ ab z) (su_ ac z))))))
     have cn := cg.st ac z
     exact At.res (.inl z) z (.cell z (cn.runAg 0 [vi n.kind, vu n.set.a0, vu n.set.a1, vu n.set.a2, vu n.set.a3, vB n.plain, vb n.c] ty47 z z z) (.tmp z (.cell z (cl.runAg 0 [vi 0, vi 0] ty49 z z z) .nil))) ⟨z, (se_ cm z z)⟩
theorem c_glob_Compile {A : Nat → Prop} {a0 : List UInt8} {w : World} (hG0 : CellsAt w 0 0 [vi 0, vi 0]) (hGA0 : A 0) {r0 : Option glob_Glob} {r1 : Int} {r2 : Int} (h : glob_Compile a0 = some (r0, r1, r2)) : Rets Tryd.prog 7 [vs a0] w (fun v w' => ∃ (u0 : Value), v = tp [u0, vi r1, vi r2] ∧ Ext w w' ∧ OptP u0 r0 fun d => ∃ (p0 : Nat) (ac : Value), u0 = .pointer (some ⟨p0, 0, none⟩) ∧ (w'.heap[p0]? = some (.cells (List.toArray [vs d.text, ac]) 42 (0, 0)) ∧ w.heap.size ≤ p0) ∧ Sl rep_glob_piece w' (fun k => w.heap.size ≤ k ∧ k ≠ p0) ac d.pieces) := by
 unfold glob_Compile at h
 refine Rets.enter Tryd.func7 z z ?_
 have a7 : CAt [0, 1] (Lg.O0 A) w 0 0 [vi 0, vi 0] := CAt.glob hG0 (if_pos hGA0)
 refine (show WC _ _ _ _ [(0, vs a0)] _ from ?_)
 refine sq (rg (wY (ya z) z (wY (ya z) z (wY (ya z) z (nl (th (sq (sq (rg ?_)))))))))
 refine wY (ym z) z (wY (Y.len_s ty9 z) z (wY (Y.gtr_i z z) z (nl (th ?_))))
 rcases cnd h with ⟨L, h⟩ | ⟨L, h⟩
 ·refine WC.condT' z L (sq (rg (wY (ya z) z (wY (ya z) z (wY (ya z) z (nl (th (rt (At.thenR ?_)))))))))
  obtain ⟨rfl, rfl, rfl⟩ := tup3 h
  have a8 : Stp [] (Lg.O0 A) w (Lg.O0 A) w := (sr_ _ _ _)
  exact At.res (.inl z) z (.tmp z (.tmp z (.tmp z .nil))) ⟨Value.pointer none, z, (se_ a8 z z), z⟩
 ·refine WC.condF' z L (sk (th (sq (rg (wY (ym z) z (wY (yb (vals := [(0, vs a0)]) (cells := [vs a0, sn]) (fe_ z) (by kernel_rfl)) z (WL.box (O := (Lg.O0 A)) 11 [vs a0, sn] z z z ?_)))))))
  intro C ad ae G a9
  refine wY (ya z) z (nl (th (sq (sq (rg (wY (ya z) z (nl (th (WC.block ?_)))))))))
  obtain ⟨a3, h, af⟩ := flow1 h
  obtain ⟨a4, h⟩ := loop_some h
  refine WC.joinB 0 (σ := (List glob_piece × Own × Value)) (fun x w' => a3 = .go x.1 ∧ Stp [11, 12, 13, 15, 1001] ad ae x.2.1 w' ∧ OwnSl 1002 rep_glob_piece 47 x.2.1 w' x.2.2 x.1 ∧ Blk 11 x.2.1 w' C 42 [vs a0, x.2.2]) (fun x => [(2, pt C 0)]) ?_ ?_
  ·refine WC.loop (σ := (List glob_piece × Int × Own × Value)) (fun x k w' => loopN k (glob_Compile_lp1 a0) (x.1, x.2.1) = some a3 ∧ Stp [11, 12, 13, 15, 1001] ad ae x.2.2.1 w' ∧ OwnSl 1001 rep_glob_piece 47 x.2.2.1 w' x.2.2.2 x.1 ∧ Blk 11 x.2.2.1 w' C 42 [vs a0, x.2.2.2]) (fun x => [(0, vs a0), (2, pt C 0), (5, vi x.2.1)]) ([], 0, ad, sn) a4 (.cons z (.cons z (.cons z .nil))) ⟨h, (sr_ _ _ _), (OwnSl.nil 1001 rep_glob_piece 47), a9⟩ ?_
   rintro ⟨bx, a5, bz, bA⟩ a4 bL ⟨h, q, M, H⟩
   obtain ⟨bB, b0, rfl, h, P⟩ := rnd1 h
   unfold glob_Compile_lp1 at h
   try dsimp only at h q M H
   refine (show WC _ _ _ _ [(0, vs a0), (2, pt C 0), (5, vi a5)] _ from ?_)
   refine sq (sq (rg (wY (ym z) z (wY (ym z) z (wY (Y.len_s ty9 z) z (wY (Y.lss_i z z) z (nl (th ?_))))))))
   rcases cnd h with ⟨Q, h⟩ | ⟨Q, h⟩
   ·refine WC.condT' z Q (sk (th (WC.block (sq (rg (wY (ym z) z (wY (ym z) z ?_)))))))
    have ah := (a7.st G z).st q z
    obtain ⟨⟨j, b1, D⟩, bb, h⟩ := bnd h
    refine WL.call (vals := [vs a0, vi a5]) kok15 z z (c_glob_next (A := fun _ => True) ah.at_ trivial bb) ?_
    rintro bM bO ⟨rfl, bc⟩
    obtain ⟨bC, bD, bE, o⟩ := adoptE bz (fun k => 1) bc
    refine wY (ym z) z (wY (yx z z) z (wY (yx z z) z (wY (yx z z) z (WL.alloc (O := bC) 12 [vi 0, vu 0, vu 0, vu 0, vu 0, vB false, vb 0] ty47 z z ?_))))
    intro b2 bF bP p bd
    refine WL.alloc (O := bF) 13 [vi 0, vi 0] ty49 z z ?_
    intro b3 W bQ l bf
    have bg := bd.st l z
    refine WL.store (v := ag [vi j.kind, vu j.set.a0, vu j.set.a1, vu j.set.a2, vu j.set.a3, vB j.plain, vb j.c]) (cells' := [vi j.kind, vu j.set.a0, vu j.set.a1, vu j.set.a2, vu j.set.a3, vB j.plain, vb j.c]) ty47 z z bg z (le_ z) z z ?_
    intro bR m bh
    refine wY (ya z) z ?_
    have bi := bf.st m z
    refine WL.store (v := ag [vi D.at_, vi D.e]) (cells' := [vi D.at_, vi D.e]) ty49 z z bi z (le_ z) z z ?_
    intro bS n ai
    refine nl (th (sq (sq (rg (wY (yL ty49 z z (ai.cells 0 [vi D.at_, vi D.e] z) z) z ?_)))))
    have bn := ((((ah.st o z).st p z).st l z).st m z).st n z
    refine wY (yL ty49 z z bn.at_ z) z (wY (Y.neq_ag agok49 z z (EqF.cons (by decide) (fun w => run_part_plain w (by kernel_rfl) z) (fun w => run_part_plain w (by kernel_rfl) z) (EqV.i (a := D.at_) (b := 0) ty3.u) (EqF.cons (by decide) (fun w => run_part_plain w (by kernel_rfl) z) (fun w => run_part_plain w (by kernel_rfl) z) (EqV.i (a := D.e) (b := 0) ty24.u) EqF.nil))) z (nl (th ?_)))
    rcases cnd h with ⟨S, h⟩ | ⟨S, h⟩
    ·refine WC.condT' z S (sq (WC.draw 6 W fmix (by kernel_rfl) ?_))
     intro bo X
     refine WS.y (yf fo49_0 z) z ?_
     have aj := ai.st X z
     refine WS.y (yl ty3 z z (aj.cell 0 _ z)) z (WS.y (yf fo49_1 z) z (WS.y (yl ty24 z z (aj.cell 1 _ z)) z (WS.y (ya z) z (WS.y (ya z) z (WS.tail (wY (ya z) z (nl (th (rt ?_)))))))))
     refine At.thenR (At.inBlockR (At.loopR ?_))
     have h := outr1 h P af
     refine At.joinBR (At.inBlockR (At.thenR ?_))
     obtain ⟨rfl, rfl, rfl⟩ := tup3 h
     have bp : Stp [11, 12, 13, 15, 1001] (Lg.O0 A) w W bo := (tr_ (su_ G z) (tr_ (su_ q z) (tr_ (su_ o z) (tr_ (su_ p z) (tr_ (su_ l z) (tr_ (su_ m z) (tr_ (su_ n z) (su_ X z))))))))
     exact At.res (.inl z) z (.tmp z (.tmp z (.tmp z .nil))) ⟨Value.pointer none, z, (se_ bp z z), z⟩
    ·refine WC.condF' z S (sk (th (sq (WC.drawH [1001] [0, 1, 2, 3, 4, 5, 6, 7, 8, 9] W 11 fmix z (by kernel_rfl) ?_))))
     intro bT r
     refine WD.y 0 z (by kernel_rfl) (fun _ _ _ => ym z) z (WD.y 1 z (by kernel_rfl) (fun _ _ _ => ym z) z (WD.y 2 z (by kernel_rfl) (fun _ _ _ => yn z) z (WD.y 3 z (by kernel_rfl) (fun _ _ _ => yf fo42_1 z) z (WD.y 4 z (by kernel_rfl) (fun bU b4 ap => have bq := H.st o z; have aq := bq.st p z; have ar := aq.st l z; have au := ar.st m z; have av := au.st n z; have ax := av.st r z; have ay := ax.st ap z; yl ty40 z z (ay.cell 1 _ z)) z (WD.y 5 z (by kernel_rfl) (fun bH bW ak => have az := bh.st n z; have aA := az.st r z; have aC := aA.st ak z; yL ty47 z z (aC.cells 0 [vi j.kind, vu j.set.a0, vu j.set.a1, vu j.set.a2, vu j.set.a3, vB j.plain, vb j.c] z) z) z (WD.heavy 6 z (by kernel_rfl) (WL.buildSlice (O := W) (R := rep_glob_piece) (vals := [(0, ag [vi j.kind, vu j.set.a0, vu j.set.a1, vu j.set.a2, vu j.set.a3, vB j.plain, vb j.c])]) 14 [vi j.kind, vu j.set.a0, vu j.set.a1, vu j.set.a2, vu j.set.a3, vB j.plain, vb j.c] (xs := [j]) (by decide) ty40 ty47 (by decide) (by decide) (fe_ z) (by kernel_rfl) z ⟨[vi j.kind, vu j.set.a0, vu j.set.a1, vu j.set.a2, vu j.set.a3, vB j.plain, vb j.c], [], z, ⟨[vi j.kind], [vu j.set.a0, vu j.set.a1, vu j.set.a2, vu j.set.a3, vB j.plain, vb j.c], z, z, ⟨[vu j.set.a0, vu j.set.a1, vu j.set.a2, vu j.set.a3], [vB j.plain, vb j.c], z, ⟨[vu j.set.a0], [vu j.set.a1, vu j.set.a2, vu j.set.a3], z, z, ⟨[vu j.set.a1], [vu j.set.a2, vu j.set.a3], z, z, ⟨[vu j.set.a2], [vu j.set.a3], z, z, z⟩⟩⟩, ⟨[vB j.plain], [vb j.c], z, z, z⟩⟩⟩, z⟩ z ?_)))))))
     intro bX bY bI t aD
     refine nl (At.dq (su_ t z) (WD.heavy 7 z (by kernel_rfl) ?_))
     obtain ⟨aE, al, h⟩ := bnd h
     have aL := ((((((M.st o z z z).st p z z z).st l z z z).st m z z z).st n z z z).st r z z z).st t z z z
     refine WL.append (by decide) ty40 ty47 z (by decide) z z aL aD.src al z ?_
     intro bZ br bJ E Z
     refine nl (At.dq (su_ E z) (WD.y 8 z (by kernel_rfl) (fun _ _ _ => yn z) z (WD.y 9 z (by kernel_rfl) (fun _ _ _ => yf fo42_1 z) z (WD.phase [11] [0, 1, 2, 3, 4, 5, 6, 7, 8, 9, 10] (by kernel_rfl) (by kernel_rfl) (WD.heavy 10 z (by kernel_rfl) ?_)))))
     have aM := h
     obtain ⟨T, U, V, rfl⟩ := Z.shape
     have h := aM
     have aU := (((((((H.st o z).st p z).st l z).st m z).st n z).st r z).st t z).st E z
     refine WL.store (v := (vl T U V)) (cells' := [vs a0, (vl T U V)]) ty40 z z aU z (le_ z) z z ?_
     intro bK F aW
     refine nl (At.dq (su_ F z) (WD.done_ (by kernel_rfl) (th (rg (wY (ym z) z (wY (ym z) z (wY (Y.add_i z z) z ?_)))))))
     obtain ⟨bs, aX, h⟩ := lt1 h
     refine WL.yE (ya z) (congrArg vi aX.symm) z (nl (At.inBlock ?_))
     have aY := Z.st F z z z
     exact At.round (aE, bs, br, (vl T U V)) bB (Nat.lt_succ_self _) ⟨next1 h P, (tr_ (su_ q z) (tr_ (su_ o z) (tr_ (su_ p z) (tr_ (su_ l z) (tr_ (su_ m z) (tr_ (su_ n z) (tr_ (su_ r z) (tr_ (su_ t z) (tr_ (su_ E z) (su_ F z)))))))))), aY, aW⟩ (.cons z (.cons z (.cons z .nil)))
   ·refine WC.condF' z Q (WC.exit (At.thenX (At.loopX ?_)))
    obtain ⟨bt, J, aZ⟩ := OwnSl.rlb 1002 rfl M
    have a1 := H.st J z
    exact At.hitB (σ := (List glob_piece × Own × Value)) (bx, bt, bA) ⟨brk1 h P, (tr_ (su_ q z) (su_ J z)), aZ, a1⟩ (.cons z .nil)
  ·rintro ⟨b5, b6, bG⟩ bu ⟨rfl, aa, am, an⟩
   replace h := flowK_go af
   try dsimp only at h aa am an
   refine (show At _ _ _ [(2, pt C 0)] _ from ?_)
   refine At.inBlockHit (th (sq (rg (wY (ym z) z (wY (ya z) z (wY (ya z) z (wY (ya z) z (nl (th ?_)))))))))
   refine rt ?_
   obtain ⟨rfl, rfl, rfl⟩ := tup3 h
   obtain ⟨bw, K, a2⟩ := OwnSl.giveF rfl flat_glob_piece am
   have I : Stp [11, 12, 13, 15, 1001, 1002] (Lg.O0 A) w bw bu := (tr_ (su_ G z) (tr_ (su_ aa z) (su_ K z)))
   have ab := an.st K z
   exact At.res (.inl z) z (.tmp z (.tmp z (.tmp z .nil))) ⟨pt C 0, z, (se_ I z z), ⟨C, bG, z, (Blk.outF ab I low0 z), (Sl.outFN a2 I low0 ab.lab z)⟩⟩
theorem c_glob_Glob_Match {A : Nat → Prop} {v0_1 : Value} {a0 : glob_Glob} {b0 : Nat} {a1 : List UInt8} {w : World} (hs0_1 : Sl rep_glob_piece w A v0_1 a0.pieces) (hb0 : w.heap[b0]? = some (.cells (List.toArray [vs a0.text, v0_1]) 42 (0, 0))) (hm0 : A b0) {r0 : Bool} (h : glob_Glob_Match a0 a1 = some r0) : Rets Tryd.prog 9 [pt b0 0, vs a1] w (fun v w' => v = vB r0 ∧ Ext w w') := by
 unfold glob_Glob_Match at h
 refine Rets.enter Tryd.func9 z z ?_
 have aQ : Sl rep_glob_piece w (imm (Lg.O0 A)) v0_1 a0.pieces := (Sl.start hs0_1)
 have aR : Blk 0 (Lg.O0 A) w b0 42 [vs a0.text, v0_1] := ⟨(if_pos hm0), hb0⟩
 refine (show WC _ _ _ _ [(0, pt b0 0), (1, vs a1)] _ from ?_)
 refine sq (rg (wY (ya z) z (nl (th (WC.scope 0 z (sq (rg (wY (ya z) z (wY (ya z) z ?_)))))))))
 refine nl (th (sq (rg (wY (ya z) z (wY (ya z) z (nl (th ?_)))))))
 obtain ⟨bc, h, ab⟩ := flow1 h
 obtain ⟨aP, h⟩ := loop_some h
 refine WC.label 0 (σ := (Int × Int × Int × Int × Own)) (fun x k w' => loopN k (glob_Glob_Match_lp1 a0 a1) (x.1, x.2.1, x.2.2.1, x.2.2.2.1) = some bc ∧ Stp [] (Lg.O0 A) w x.2.2.2.2 w') (fun x => [(0, pt b0 0), (1, vs a1), (5, vi x.1), (6, vi x.2.1), (7, vi x.2.2.1), (8, vi x.2.2.2.1)]) (0, 0, (-1), 0, (Lg.O0 A)) aP z (.cons z (.cons z (.cons z (.cons z (.cons z (.cons z .nil)))))) ⟨h, (sr_ _ _ _)⟩ ?_
 rintro ⟨m, o, j, l, D⟩ aP aS ⟨h, q⟩
 obtain ⟨ac, bu, rfl, h, E⟩ := rnd1 h
 unfold glob_Glob_Match_lp1 at h
 try dsimp only at h q
 refine (show WC _ _ _ _ [(0, pt b0 0), (1, vs a1), (5, vi m), (6, vi o), (7, vi j), (8, vi l)] _ from ?_)
 refine sq (WC.block (sq (rg (wY (ym z) z (wY (ym z) z (wY (yn z) z (wY (yf fo42_1 z) z ?_)))))))
 have F := aR.st q z
 refine wY (yl ty40 z z (F.cell 1 _ z)) z ?_
 have G := aQ.i q z z
 refine wY (Y.len ty40 z G) z (wY (Y.lss_i z z) z (wY (ym z) z ?_))
 obtain ⟨bd, h, aT⟩ := bnd h
 refine WL.cut 10 (σ := Bool) (fun x w' => x = bd ∧ aS = w') (fun x => [(0, pt b0 0), (1, vs a1), (5, vi m), (6, vi o), (7, vi j), (8, vi l), (27, vB x)]) ?_ ?_
 ·rcases cnd h with ⟨S, h⟩ | ⟨S, h⟩
  ·refine WL.ren 17 z (congrArg vB S) (ug z z (wY (ym z) z (ug z z (wY (yn z) z (ug z z (wY (yf fo42_1 z) z (ug z z (wY (yl ty40 z z (F.cell 1 _ z)) z (ug z z ?_)))))))))
   refine wY (ym z) z (ug z z ?_)
   obtain ⟨t, aU, h⟩ := bnd h
   obtain ⟨bw, bj, bk, bn, aW, aX, aY, T, am, aZ⟩ := Sl.at2 G aU
   obtain ⟨_, _, rfl, rfl, ⟨_, _, rfl, ⟨_, _, rfl, rfl, ⟨_, _, rfl, rfl, ⟨_, _, rfl, rfl, rfl⟩⟩⟩, ⟨_, _, rfl, rfl, rfl⟩⟩⟩ := am
   replace T : CellsAt _ _ _ [vi t.kind, vu t.set.a0, vu t.set.a1, vu t.set.a2, vu t.set.a3, vB t.plain, vb t.c] := T
   have an := CAt.imm T aZ
   refine wY (Y.indexAddr ty40 ty47 z aW z aX aY) z (ug z z (wY (yf fo47_0 z) z (ug z z (wY (yl ty3 z z (an.at_.sub 0 [vi t.kind] z)) z (ug z z (wY (Y.eql_i z z) z (wY (Y.pick (b := true) z z) z ?_)))))))
   exact nl (At.join (σ := Bool) (decide (t.kind = 1)) ⟨some1 h, z⟩ (.cons z (.cons z (.cons z (.cons z (.cons z (.cons z (.cons z .nil))))))))
  ·refine WL.ren 17 z (congrArg vB S) (WL.gS z z z z (WL.gS z z z z (WL.gS z z z z (WL.gS z z z z (WL.gS z z z z (WL.gS z z z z (WL.gS z z z z (WL.gS z z z z (WL.gS z z z z ?_)))))))))
   refine wY (Y.pick (b := false) z z) z ?_
   exact nl (At.join (σ := Bool) false ⟨some1 h, z⟩ (.cons z (.cons z (.cons z (.cons z (.cons z (.cons z (.cons z .nil))))))))
 ·rintro bf _ ⟨rfl, rfl⟩
  replace h := aT
  try dsimp only at h
  refine (show WL _ _ _ _ _ [(0, pt b0 0), (1, vs a1), (5, vi m), (6, vi o), (7, vi j), (8, vi l), (27, vB bf)] _ from ?_)
  refine wY (ya z) z (nl (th ?_))
  rcases cnd h with ⟨U, h⟩ | ⟨U, h⟩
  ·refine WC.condT' z U (sq (rg (wY (ym z) z (wY (ym z) z (wY (ya z) z (wY (ya z) z (nl (th (sq ?_)))))))))
   refine rg (wY (ym z) z (wY (Y.add_i z z) z ?_))
   obtain ⟨bg, a2, h⟩ := lt1 h
   refine WL.yE (ya z) (congrArg vi a2.symm) z (nl (th (WC.goto (At.inBlockG (At.thenG ?_)))))
   exact At.roundG (m, bg, o, m, D) ac (Nat.lt_succ_self _) ⟨next1 h E, (su_ q z)⟩ (.cons z (.cons z (.cons z (.cons z (.cons z (.cons z .nil))))))
  ·refine WC.condF' z U (sq (WC.drawH [] [0, 1, 2, 3, 4, 5, 6, 7, 8, 9, 10, 11, 12, 13, 14, 15, 16, 17, 18, 19, 20, 21, 22, 23, 24, 25, 26] D 27 fmix z (by kernel_rfl) ?_))
   intro r p
   refine WD.y 0 z (by kernel_rfl) (fun _ _ _ => ym z) z (WD.y 1 z (by kernel_rfl) (fun _ _ _ => ym z) z (WD.y 2 z (by kernel_rfl) (fun _ _ _ => yn z) z (WD.y 3 z (by kernel_rfl) (fun _ _ _ => yf fo42_1 z) z (WD.y 4 z (by kernel_rfl) (fun bo bx ao => have a3 := F.st p z; have a4 := a3.st ao z; yl ty40 z z (a4.cell 1 _ z)) z (WD.y 5 z (by kernel_rfl) (fun bp bz ap => have a5 := G.i p z z; have a6 := a5.i ap z z; Y.len ty40 z a6) z (WD.y 6 z (by kernel_rfl) (fun _ _ _ => Y.lss_i z z) z (WD.y 7 z (by kernel_rfl) (fun _ _ _ => ym z) z ?_)))))))
   refine WD.join (σ := Unit) (f' := 14) [12, 11, 10, 9, 8, 7, 6, 5, 4, 3, 2, 1, 0] (fun _ O' w' => D = O' ∧ r = w') (fun _ => [(0, pt b0 0), (1, vs a1), (5, vi m), (6, vi o), (7, vi j), (8, vi l), (45, vB ((decide (o < (a0.pieces.length : Int))) && (decide (m < (a1.length : Int)))))]) (fun ad => ?_) ?_
   ·refine WD.part 40 z (fun V => ?_) (fun V => ?_)
    ·refine WD.gT 8 z (by kernel_rfl) z z (fun _ _ _ => ym z) z (WD.gT 9 z (by kernel_rfl) z z (fun _ _ _ => ym z) z (WD.gT 10 z (by kernel_rfl) z z (fun _ _ _ => Y.len_s ty9 z) z (WD.gT 11 z (by kernel_rfl) z z (fun _ _ _ => Y.lss_i z z) z (WD.y 12 z (by kernel_rfl) (fun _ _ _ => Y.pick (b := true) z z) z (WD.ren (v' := vB ((decide (o < (a0.pieces.length : Int))) && (decide (m < (a1.length : Int))))) 45 z (congrArg vB (andT V)) ?_)))))
     exact ad () _ _ _ ⟨z, z⟩ (.cons z (.cons z (.cons z (.cons z (.cons z (.cons z (.cons z .nil)))))))
    ·refine WD.gS 8 z (by kernel_rfl) z z z z (WD.gS 9 z (by kernel_rfl) z z z z (WD.gS 10 z (by kernel_rfl) z z z z (WD.gS 11 z (by kernel_rfl) z z z z (WD.y 12 z (by kernel_rfl) (fun _ _ _ => Y.pick (b := false) z z) z (WD.ren (v' := vB ((decide (o < (a0.pieces.length : Int))) && (decide (m < (a1.length : Int))))) 45 z (congrArg vB (andF V)) ?_)))))
     exact ad () _ _ _ ⟨z, z⟩ (.cons z (.cons z (.cons z (.cons z (.cons z (.cons z (.cons z .nil)))))))
   ·rintro _ _ _ ⟨rfl, rfl⟩
    refine (show WD _ _ _ _ _ _ _ _ [(0, pt b0 0), (1, vs a1), (5, vi m), (6, vi o), (7, vi j), (8, vi l), (45, vB ((decide (o < (a0.pieces.length : Int))) && (decide (m < (a1.length : Int)))))] _ _ from ?_)
    refine WD.y 13 z (by kernel_rfl) (fun _ _ _ => ym z) z ?_
    obtain ⟨a7, h, aq⟩ := bnd h
    refine WD.join (σ := Bool) (f' := 1) [25, 24, 23, 22, 21, 20, 19, 18, 17, 16, 15, 14, 13, 12, 11, 10, 9, 8, 7, 6, 5, 4, 3, 2, 1, 0] (fun x O' w' => x = a7 ∧ r = w' ∧ D = O') (fun x => [(0, pt b0 0), (1, vs a1), (5, vi m), (6, vi o), (7, vi j), (8, vi l), (58, vB x)]) (fun X => ?_) ?_
    ·rcases cnd h with ⟨C, h⟩ | ⟨C, h⟩
     ·refine WD.ren 46 z (congrArg vB C) (WD.gT 14 z (by kernel_rfl) z z (fun _ _ _ => ym z) z (WD.gT 15 z (by kernel_rfl) z z (fun _ _ _ => yn z) z (WD.gT 16 z (by kernel_rfl) z z (fun _ _ _ => yf fo42_1 z) z (WD.gT 17 z (by kernel_rfl) z z (fun bl bq ae => have ar := F.st p z; have au := ar.st ae z; yl ty40 z z (au.cell 1 _ z)) z (WD.gT 18 z (by kernel_rfl) z z (fun _ _ _ => ym z) z ?_)))))
      obtain ⟨n, av, h⟩ := bnd h
      have ax := G.i p z z
      obtain ⟨af, Q, bh, bm, ay, az, aA, I, ah, aC⟩ := Sl.at2 ax av
      obtain ⟨_, _, rfl, rfl, ⟨_, _, rfl, ⟨_, _, rfl, rfl, ⟨_, _, rfl, rfl, ⟨_, _, rfl, rfl, rfl⟩⟩⟩, ⟨_, _, rfl, rfl, rfl⟩⟩⟩ := ah
      replace I : CellsAt _ _ _ [vi n.kind, vu n.set.a0, vu n.set.a1, vu n.set.a2, vu n.set.a3, vB n.plain, vb n.c] := I
      have ai := CAt.imm I aC
      refine WD.gT 19 z (by kernel_rfl) z z (fun _ _ _ => Y.indexAddr ty40 ty47 z ay z az aA) z (WD.gT 20 z (by kernel_rfl) z z (fun _ _ _ => yf fo47_1 z) z (WD.gT 21 z (by kernel_rfl) z z (fun _ _ _ => ym z) z (WD.gT 22 z (by kernel_rfl) z z (fun _ _ _ => ym z) z ?_)))
      obtain ⟨aj, aD, h⟩ := bnd h
      refine WD.gT 23 z (by kernel_rfl) z z (fun _ _ _ => Y.index_s ty9 z z aD) z (WD.heavy 24 z (by kernel_rfl) (ug z z ?_))
      obtain ⟨a8, h, aE⟩ := bnd h
      refine WL.callJ (vals := [Value.pointer (some ⟨af, Q + o.toNat * 7 + 1, none⟩), vb aj]) (σ := Bool) (fun x w' => x = a8 ∧ r = w') (fun x => vB x) kok19 z z ?_ ?_
      ·refine Rets.enter Tryd.func19 z z ?_
       refine (show WC _ _ _ _ [(0, Value.pointer (some ⟨af, Q + o.toNat * 7 + 1, none⟩)), (1, vb aj)] _ from ?_)
       refine sq (rg (wY (ya z) z (nl (th (sq (rg (wY (ym z) z (wY (ym z) z (wY (Y.quo_b (b := 64) (by decide) z z) z ?_)))))))))
       refine wY (yn z) z ?_
       obtain ⟨br, Z, h⟩ := bnd h
       have aa := idx_in Z
       refine wY (Y.indexAddrA ty45 ty43 z z aa.1 aa.2) z (wY (yl ty43 z z (CellsAt.idxU (xs := ([n.set.a0, n.set.a1, n.set.a2, n.set.a3] : List UInt64)) (ai.at_.sub 1 [vu n.set.a0, vu n.set.a1, vu n.set.a2, vu n.set.a3] z) Z)) z (wY (ym z) z (wY (Y.rem_b (b := 64) (by decide) z z) z (wY (Y.conv_bu ty5.u ty73.u z) z (wY (Y.shr_uu z z) z (wY (Y.and_u (b := 1) z z) z (wY (Y.eql_u (b := 1) z z) z ?_)))))))
       obtain ⟨a9, aF, h⟩ := lt1 h
       refine WL.yE (ya z) (congrArg vB aF.symm) z (nl (th (rt ?_)))
       exact At.res (.inl z) z (.tmp z .nil) ⟨a9, ⟨some1 h, z⟩, z⟩
      ·rintro ak _ ⟨rfl, rfl⟩
       replace h := aE
       try dsimp only at h
       refine (show WL _ _ _ _ _ ((57, vB ak) :: _) _ from ?_)
       refine nl (At.dq (sr_ _ _ _) (WD.y 25 z (by kernel_rfl) (fun _ _ _ => Y.pick (b := true) z z) z (WD.ren 46 z (congrArg vB C.symm) ?_)))
       exact X ak _ _ _ ⟨some1 h, z, z⟩ (.cons z (.cons z (.cons z (.cons z (.cons z (.cons z (.cons z .nil)))))))
     ·refine WD.ren 46 z (congrArg vB C) (WD.gS 14 z (by kernel_rfl) z z z z (WD.gS 15 z (by kernel_rfl) z z z z (WD.gS 16 z (by kernel_rfl) z z z z (WD.gS 17 z (by kernel_rfl) z z z z (WD.gS 18 z (by kernel_rfl) z z z z (WD.gS 19 z (by kernel_rfl) z z z z (WD.gS 20 z (by kernel_rfl) z z z z (WD.gS 21 z (by kernel_rfl) z z z z (WD.gS 22 z (by kernel_rfl) z z z z ?_)))))))))
      refine WD.gS 23 z (by kernel_rfl) z z z z (WD.heavy 24 z (by kernel_rfl) (WL.gS z z z z (nl (At.dq (sr_ _ _ _) (WD.y 25 z (by kernel_rfl) (fun _ _ _ => Y.pick (b := false) z z) z (WD.ren 46 z (congrArg vB C.symm) ?_))))))
      exact X false _ _ _ ⟨some1 h, z, z⟩ (.cons z (.cons z (.cons z (.cons z (.cons z (.cons z (.cons z .nil)))))))
    ·rintro bi _ _ ⟨rfl, rfl, rfl⟩
     replace h := aq
     try dsimp only at h
     refine (show WD _ _ _ _ _ _ _ _ [(0, pt b0 0), (1, vs a1), (5, vi m), (6, vi o), (7, vi j), (8, vi l), (58, vB bi)] _ _ from ?_)
     refine WD.y 26 z (by kernel_rfl) (fun _ _ _ => ya z) z (WD.done_ (by kernel_rfl) (th ?_))
     rcases cnd h with ⟨J, h⟩ | ⟨J, h⟩
     ·refine WC.condT' z J (sq (rg (wY (ym z) z (wY (Y.add_i z z) z ?_))))
      obtain ⟨ba, aG, h⟩ := lt1 h
      refine WL.yE (ya z) (congrArg vi aG.symm) z (nl (th (sq (rg (wY (ym z) z (wY (Y.add_i z z) z ?_))))))
      obtain ⟨aH, al, h⟩ := lt1 h
      refine WL.yE (ya z) (congrArg vi al.symm) z (nl (th (WC.goto (At.inBlockG (At.thenG ?_)))))
      exact At.roundG (aH, ba, j, l, D) ac (Nat.lt_succ_self _) ⟨next1 h E, (tr_ (su_ q z) (su_ p z))⟩ (.cons z (.cons z (.cons z (.cons z (.cons z (.cons z .nil))))))
     ·refine WC.condF' z J (sq (rg (wY (ym z) z (wY (ym z) z (wY (yn z) z (wY (yf fo42_1 z) z ?_))))))
      have aI := F.st p z
      refine wY (yl ty40 z z (aI.cell 1 _ z)) z ?_
      have aJ := G.i p z z
      refine wY (Y.len ty40 z aJ) z (wY (Y.eql_i z z) z (wY (ym z) z ?_))
      refine WL.cut 5 (σ := Unit) (fun _ w' => r = w') (fun _ => [(0, pt b0 0), (1, vs a1), (7, vi j), (8, vi l), (76, vB ((decide (o = (a0.pieces.length : Int))) && (decide (m = (a1.length : Int)))))]) ?_ ?_
      ·refine WL.part 71 z (fun K => ?_) (fun K => ?_)
       ·refine ug z z (wY (ym z) z (ug z z (wY (ym z) z (ug z z (wY (Y.len_s ty9 z) z (ug z z (wY (Y.eql_i z z) z (wY (Y.pick (b := true) z z) z (WL.ren (v' := vB ((decide (o = (a0.pieces.length : Int))) && (decide (m = (a1.length : Int))))) 76 z (congrArg vB (andT K)) ?_)))))))))
        exact nl (At.join () z (.cons z (.cons z (.cons z (.cons z (.cons z .nil))))))
       ·refine WL.gS z z z z (WL.gS z z z z (WL.gS z z z z (WL.gS z z z z (wY (Y.pick (b := false) z z) z (WL.ren (v' := vB ((decide (o = (a0.pieces.length : Int))) && (decide (m = (a1.length : Int))))) 76 z (congrArg vB (andF K)) ?_)))))
        exact nl (At.join () z (.cons z (.cons z (.cons z (.cons z (.cons z .nil))))))
      ·rintro _ _ rfl
       refine (show WL _ _ _ _ _ [(0, pt b0 0), (1, vs a1), (7, vi j), (8, vi l), (76, vB ((decide (o = (a0.pieces.length : Int))) && (decide (m = (a1.length : Int)))))] _ from ?_)
       obtain ⟨bs, aK, h⟩ := lt1 h
       refine WL.yE (ya z) (congrArg vB aK.symm) z (nl (th ?_))
       rcases cnd h with ⟨L, h⟩ | ⟨L, h⟩
       ·refine WC.condT' z L (sq (rg (wY (ya z) z (nl (th (rt (At.inBlockR (At.thenR (At.gqR ?_)))))))))
        have h := outr1 h E ab
        obtain rfl := some1 h
        have aL : Stp [] (Lg.O0 A) w D r := (tr_ (su_ q z) (su_ p z))
        exact At.res (.inl z) z (.tmp z .nil) ⟨z, (se_ aL z z)⟩
       ·refine WC.condF' z L (sq (rg (wY (ym z) z (wY (Y.geq_i z z) z (wY (ym z) z ?_)))))
        refine WL.cut 5 (σ := Unit) (fun _ w' => r = w') (fun _ => [(0, pt b0 0), (1, vs a1), (7, vi j), (8, vi l), (85, vB ((decide (0 ≤ j)) && (decide (l < (a1.length : Int)))))]) ?_ ?_
        ·refine WL.part 80 z (fun M => ?_) (fun M => ?_)
         ·refine ug z z (wY (ym z) z (ug z z (wY (ym z) z (ug z z (wY (Y.len_s ty9 z) z (ug z z (wY (Y.lss_i z z) z (wY (Y.pick (b := true) z z) z (WL.ren (v' := vB ((decide (0 ≤ j)) && (decide (l < (a1.length : Int))))) 85 z (congrArg vB (andT M)) ?_)))))))))
          exact nl (At.join () z (.cons z (.cons z (.cons z (.cons z (.cons z .nil))))))
         ·refine WL.gS z z z z (WL.gS z z z z (WL.gS z z z z (WL.gS z z z z (wY (Y.pick (b := false) z z) z (WL.ren (v' := vB ((decide (0 ≤ j)) && (decide (l < (a1.length : Int))))) 85 z (congrArg vB (andF M)) ?_)))))
          exact nl (At.join () z (.cons z (.cons z (.cons z (.cons z (.cons z .nil))))))
        ·rintro _ _ rfl
         refine (show WL _ _ _ _ _ [(0, pt b0 0), (1, vs a1), (7, vi j), (8, vi l), (85, vB ((decide (0 ≤ j)) && (decide (l < (a1.length : Int)))))] _ from ?_)
         obtain ⟨bt, aM, h⟩ := lt1 h
         refine WL.yE (ya z) (congrArg vB aM.symm) z (nl (th ?_))
         rcases cnd h with ⟨P, h⟩ | ⟨P, h⟩
         ·refine WC.condT' z P (sq (rg (wY (ym z) z (wY (Y.add_i z z) z ?_))))
          obtain ⟨H, W, h⟩ := lt1 h
          refine WL.yE (ya z) (congrArg vi W.symm) z (nl (th (sq (rg (wY (ym z) z (wY (Y.add_i z z) z (wY (ym z) z ?_)))))))
          obtain ⟨bb, aN, h⟩ := lt1 h
          refine WL.yE (ya z) (congrArg vi aN.symm) z (wY (ya z) z (nl (th (WC.goto (At.inBlockG (At.thenG ?_))))))
          exact At.roundG (H, bb, j, H, D) ac (Nat.lt_succ_self _) ⟨next1 h E, (tr_ (su_ q z) (su_ p z))⟩ (.cons z (.cons z (.cons z (.cons z (.cons z (.cons z .nil))))))
         ·refine WC.condF' z P (sk (At.inBlock (th (sq (rg (wY (ya z) z (nl (th (rt ?_)))))))))
          refine At.gqR ?_
          have h := outr1 h E ab
          obtain rfl := some1 h
          have aO : Stp [] (Lg.O0 A) w D r := (tr_ (su_ q z) (su_ p z))
          exact At.res (.inl z) z (.tmp z .nil) ⟨z, (se_ aO z z)⟩
theorem c_glob_Quote {a0 : List UInt8} {w : World} {r0 : List UInt8} (h : glob_Quote a0 = some r0) : Rets Tryd.prog 14 [vs a0] w (fun v w' => v = vs r0 ∧ Ext w w') := by
 unfold glob_Quote at h
 refine Rets.enter Tryd.func14 z z ?_
 refine (show WC _ _ _ _ [(0, vs a0)] _ from ?_)
 refine sq (rg (wY (ya (v := vs []) z) z (nl (th (sq (rg (wY (ya z) z (nl (th ?_)))))))))
 refine sq (sq (rg (wY (ym z) z (WL.s2b (O := (Lg.O0 (fun _ => False))) ty9 ty60 ty5 z z ?_))))
 intro m K L W M
 refine wY (Y.len ty60 z M) z (wY (ym z) z (nl (th (WC.block ?_))))
 obtain ⟨ak, h, ao⟩ := flow1 h
 obtain ⟨al, h⟩ := loop_some h
 refine WC.joinB 0 (σ := (List UInt8 × Own × Value)) (fun x w' => ak = .go x.1 ∧ Stp [12, 1001, 1002] K L x.2.1 w' ∧ OwnSl 1003 Rep.b 5 x.2.1 w' x.2.2 x.1) (fun x => [(3, x.2.2)]) ?_ ?_
 ·refine WC.loop (σ := (List UInt8 × Int × Own × Value)) (fun x k w' => loopN k (glob_Quote_lp1 a0) (x.1, x.2.1) = some ak ∧ Stp [12, 1001, 1002] K L x.2.2.1 w' ∧ OwnSl 1002 Rep.b 5 x.2.2.1 w' x.2.2.2 x.1) (fun x => [(3, x.2.2.2), (7, m), (8, vi (a0.length : Int)), (9, vi x.2.1)]) ([], 0, K, sn) al (.cons z (.cons z (.cons z (.cons z .nil)))) ⟨h, (sr_ _ _ _), (OwnSl.nil 1002 Rep.b 5)⟩ ?_
  rintro ⟨am, n, an, p⟩ al P ⟨h, l, o⟩
  obtain ⟨aT, bl, rfl, h, Q⟩ := rnd1 h
  unfold glob_Quote_lp1 at h
  try dsimp only at h l o
  refine (show WC _ _ _ _ [(3, p), (7, m), (8, vi (a0.length : Int)), (9, vi n)] _ from ?_)
  refine sq (rg (wY (Y.lss_i z z) z (nl (th (sq ?_)))))
  rcases cnd h with ⟨q, h⟩ | ⟨q, h⟩
  ·refine WC.condT' z q (sk (th (sq (WC.block (sq (rg ?_))))))
   obtain ⟨j, ap, h⟩ := bnd h
   have aq := M.f l z
   obtain ⟨bm, bc, bd, bf, ar, au, av, r, X, ax⟩ := Sl.at2 aq ap
   obtain rfl := X
   replace r : CellsAt _ _ _ [vb j] := r
   have Z := CAt.frs r ax
   refine wY (Y.indexAddr ty60 ty5 z ar z au av) z (wY (yl ty5 z z Z.at_) z (wY (ya z) z (nl (th (sq (sq (rg (wY (ym z) z (nl ?_)))))))))
   refine th ?_
   obtain ⟨aU, h, ay⟩ := bnd h
   refine WC.join (σ := (List UInt8 × Own × Value)) (fun x w' => x.1 = aU ∧ Stp [1002] an P x.2.1 w' ∧ OwnSl 1001 Rep.b 5 x.2.1 w' x.2.2 x.1) (fun x => [(3, x.2.2), (5, vb j), (7, m), (8, vi (a0.length : Int)), (9, vi n)]) ?_ ?_
   ·refine WC.block (sq ?_)
    obtain ⟨aW, h, az⟩ := bnd h
    refine WC.join (σ := Bool) (fun x w' => x = aW ∧ P = w') (fun x => [(3, p), (5, vb j), (7, m), (8, vi (a0.length : Int)), (9, vi n), (14, vB x)]) ?_ ?_
    ·refine sq (rg (wY (Y.eql_b (b := 42) z z) z ?_))
     obtain ⟨aX, aA, h⟩ := lt1 h
     refine WL.yE (ya z) (congrArg vB aA.symm) z (nl (th ?_))
     rcases cnd h with ⟨t, h⟩ | ⟨t, h⟩
     ·refine WC.condT' z t (sk ?_)
      exact At.join (σ := Bool) aX ⟨some1 h, z⟩ (.cons z (.cons z (.cons z (.cons z (.cons z (.cons z .nil))))))
     ·refine WC.condF' z t (sq (rg (wY (Y.eql_b (b := 63) z z) z ?_)))
      obtain ⟨aY, aC, h⟩ := lt1 h
      refine WL.yE (ya z) (congrArg vB aC.symm) z (nl (th ?_))
      rcases cnd h with ⟨C, h⟩ | ⟨C, h⟩
      ·refine WC.condT' z C (sk ?_)
       exact At.join (σ := Bool) aY ⟨some1 h, z⟩ (.cons z (.cons z (.cons z (.cons z (.cons z (.cons z .nil))))))
      ·refine WC.condF' z C (sq (rg (wY (Y.eql_b (b := 91) z z) z ?_)))
       obtain ⟨aZ, aD, h⟩ := lt1 h
       refine WL.yE (ya z) (congrArg vB aD.symm) z (nl (th ?_))
       rcases cnd h with ⟨D, h⟩ | ⟨D, h⟩
       ·refine WC.condT' z D (sk ?_)
        exact At.join (σ := Bool) aZ ⟨some1 h, z⟩ (.cons z (.cons z (.cons z (.cons z (.cons z (.cons z .nil))))))
       ·refine WC.condF' z D (sq (rg (wY (Y.eql_b (b := 93) z z) z ?_)))
        obtain ⟨a1, aE, h⟩ := lt1 h
        refine WL.yE (ya z) (congrArg vB aE.symm) z (nl (th ?_))
        rcases cnd h with ⟨E, h⟩ | ⟨E, h⟩
        ·refine WC.condT' z E (sk ?_)
         exact At.join (σ := Bool) a1 ⟨some1 h, z⟩ (.cons z (.cons z (.cons z (.cons z (.cons z (.cons z .nil))))))
        ·refine WC.condF' z E (rg (wY (Y.eql_b (b := 92) z z) z ?_))
         obtain ⟨a2, aF, h⟩ := lt1 h
         refine WL.yE (ya z) (congrArg vB aF.symm) z (nl ?_)
         exact At.join (σ := Bool) a2 ⟨some1 h, z⟩ (.cons z (.cons z (.cons z (.cons z (.cons z (.cons z .nil))))))
    ·rintro a3 _ ⟨rfl, rfl⟩
     replace h := az
     try dsimp only at h
     refine (show At _ _ _ [(3, p), (5, vb j), (7, m), (8, vi (a0.length : Int)), (9, vi n), (14, vB a3)] _ from ?_)
     refine th ?_
     rcases cnd h with ⟨F, h⟩ | ⟨F, h⟩
     ·refine WC.condT' z F (rg (wY (ym z) z (WL.buildSlice (O := an) (R := Rep.b) (vals := [(0, vb 92)]) 11 [vb 92] (xs := [92]) (by decide) ty60 ty5 (by decide) (by decide) (fe_ z) (by kernel_rfl) z ⟨[vb 92], [], z, z, z⟩ z ?_)))
      intro bn bo bg G aG
      obtain ⟨aH, aa, h⟩ := bnd h
      have aI := o.st G z z z
      refine WL.append (by decide) ty60 ty5 z (by decide) z z aI aG.src aa z ?_
      intro a4 bp bh ab aJ
      refine wY (ya z) z (nl (At.inBlock ?_))
      obtain ⟨a5, ac, aK⟩ := OwnSl.rlb 1001 rfl aJ
      exact At.join (σ := (List UInt8 × Own × Value)) (aH, a5, a4) ⟨some1 h, (tr_ (su_ G z) (tr_ (su_ ab z) (su_ ac z))), aK⟩ (.cons z (.cons z (.cons z (.cons z (.cons z .nil)))))
     ·refine WC.condF' z F (sk (At.inBlock ?_))
      obtain ⟨a6, ad, aL⟩ := OwnSl.rlb 1001 rfl o
      exact At.join (σ := (List UInt8 × Own × Value)) (am, a6, p) ⟨some1 h, (su_ ad z), aL⟩ (.cons z (.cons z (.cons z (.cons z (.cons z .nil)))))
   ·rintro ⟨bq, a7, a8⟩ bi ⟨rfl, H, S⟩
    replace h := ay
    try dsimp only at h H S
    refine (show At _ _ _ [(3, a8), (5, vb j), (7, m), (8, vi (a0.length : Int)), (9, vi n)] _ from ?_)
    refine th (rg (wY (ym z) z (wY (ym z) z (WL.buildSlice (O := a7) (R := Rep.b) (vals := [(0, vb j)]) 12 [vb j] (xs := [j]) (by decide) ty60 ty5 (by decide) (by decide) (fe_ z) (by kernel_rfl) z ⟨[vb j], [], z, z, z⟩ z ?_))))
    intro br bs bj I aM
    obtain ⟨aN, ae, h⟩ := bnd h
    have aO := S.st I z z z
    refine WL.append (by decide) ty60 ty5 z (by decide) z z aO aM.src ae z ?_
    intro a9 bt bk af aP
    refine wY (ya z) z (nl (At.inBlock (th (rg (wY (Y.add_i z z) z (wY (ym z) z (nl ?_)))))))
    obtain ⟨aQ, T, ah⟩ := OwnSl.rlb 1002 rfl aP
    exact At.round (aN, w64 (n + 1), aQ, a9) aT (Nat.lt_succ_self _) ⟨next1 h Q, (tr_ (su_ l z) (tr_ (su_ H z) (tr_ (su_ I z) (tr_ (su_ af z) (su_ T z))))), ah⟩ (.cons z (.cons z (.cons z (.cons z .nil))))
  ·refine WC.condF' z q (WC.exit (At.thenX (At.loopX ?_)))
   obtain ⟨aR, U, ai⟩ := OwnSl.rlb 1003 rfl o
   exact At.hitB (σ := (List UInt8 × Own × Value)) (am, aR, p) ⟨brk1 h Q, (tr_ (su_ l z) (su_ U z)), ai⟩ (.cons z .nil)
 ·rintro ⟨bu, ba, bb⟩ aS ⟨rfl, J, V⟩
  replace h := flowK_go ao
  try dsimp only at h J V
  refine (show At _ _ _ [(3, bb)] _ from ?_)
  refine At.inBlockHit (th (sq (rg (wY (ym z) z (wY (Y.b2s ty60 ty5 ty9 z V.src.sl) z (wY (ya z) z (nl (th (rt ?_)))))))))
  obtain rfl := some1 h
  have aj : Stp [12, 1001, 1002] (Lg.O0 (fun _ => False)) w ba aS := (tr_ (su_ W z) (su_ J z))
  exact At.res (.inl z) z (.tmp z .nil) ⟨z, (se_ aj z z)⟩
theorem c_law32_awake {A : Nat → Prop} {w : World} (hG0 : CellsAt w 0 0 [vi 0, vi 0]) (hGA0 : A 0) {r0 : Bool} (h : law32_awake = some r0) : Rets Tryd.prog 6 [] w (fun v w' => v = vB r0 ∧ Ext w w') := by
 unfold law32_awake at h
 refine Rets.enter Tryd.func6 z z ?_
 have P : CAt [0, 1] (Lg.O0 A) w 0 0 [vi 0, vi 0] := CAt.glob hG0 (if_pos hGA0)
 refine (show WC _ _ _ _ [] _ from ?_)
 refine sq (rg (wY (ya z) z (nl (th (sq (rg ?_))))))
 obtain ⟨⟨H, bi, I⟩, ai, h⟩ := bnd h
 refine WL.call (vals := [vs [97, 42, 98, 63]]) kok7 z z (c_glob_Compile (A := fun _ => True) P.at_ trivial ai) ?_
 rintro a9 Q ⟨S, rfl, aj, af⟩
 obtain ⟨T, aM, q, J⟩ := adoptE (Lg.O0 A) (labP S 11) aj
 refine wY (ym z) z (wY (yx z z) z (wY (yx z z) z (wY (yx z z) z (wY (ya z) z (wY (ya z) z (wY (ya z) z (nl (th (sq ?_)))))))))
 refine rg ?_
 have ak := P.st J z
 obtain ⟨⟨bj, j, l⟩, al, h⟩ := bnd h
 refine WL.call (vals := [vs [91, 98, 45, 97, 93]]) kok7 z z (c_glob_Compile (A := fun _ => True) ak.at_ trivial al) ?_
 rintro ba U ⟨aN, rfl, am, bk⟩
 obtain ⟨V, aO, aP, m⟩ := adoptE T (labP aN 12) am
 refine wY (ym z) z (wY (yx z z) z (wY (yx z z) z (wY (yx z z) z (wY (ya z) z (wY (ya z) z (wY (ya z) z (nl (th (sq ?_)))))))))
 refine rg (wY (ym z) z (wY (Y.neq_opt ty23.u z z af (fun d hd => by obtain ⟨_, _, e, _⟩ := hd; exact ⟨_, e⟩)) z (wY (ym z) z ?_)))
 refine WL.cut 3 (σ := Unit) (fun _ w' => U = w') (fun _ => [(1, S), (5, vi j), (6, vi l), (22, vB (H.isSome && (decide (I = 0))))]) ?_ ?_
 ·refine WL.part 19 z (fun r => ?_) (fun r => ?_)
  ·refine ug z z (wY (ym z) z (ug z z (wY (Y.eql_i z z) z (wY (Y.pick (b := true) z z) z (WL.ren (v' := vB (H.isSome && (decide (I = 0)))) 22 z (congrArg vB (andT r)) ?_)))))
   exact nl (At.join () z (.cons z (.cons z (.cons z (.cons z .nil)))))
  ·refine WL.gS z z z z (WL.gS z z z z (wY (Y.pick (b := false) z z) z (WL.ren (v' := vB (H.isSome && (decide (I = 0)))) 22 z (congrArg vB (andF r)) ?_)))
   exact nl (At.join () z (.cons z (.cons z (.cons z (.cons z .nil)))))
 ·rintro _ _ rfl
  refine (show WL _ _ _ _ _ [(1, S), (5, vi j), (6, vi l), (22, vB (H.isSome && (decide (I = 0))))] _ from ?_)
  refine wY (ym z) z ?_
  obtain ⟨K, an, h⟩ := bnd h
  obtain ⟨p, ah, rfl, ao, aQ⟩ := OptP.some af an
  have W : Sl rep_glob_piece Q (frs T) ah K.pieces := Sl.adoptF aQ (fun k hk => ⟨hk.1, labP_ne hk.2⟩) q
  have X : Blk 11 T Q p 42 [vs K.text, ah] := Blk.new ao q (labP_at p 11)
  obtain ⟨aR, h, ap⟩ := bnd h
  refine WL.cut 3 (σ := (Bool × Own)) (fun x w' => x.1 = aR ∧ Stp [] V U x.2 w') (fun x => [(1, pt p 0), (5, vi j), (6, vi l), (26, vB x.1)]) ?_ ?_
  ·rcases cnd h with ⟨t, h⟩ | ⟨t, h⟩
   ·refine WL.ren 23 z (congrArg vB t) (ug z z (wY (ym z) z (ug z z ?_)))
    have aq := X.st m z
    have ar := W.f m z
    obtain ⟨aS, au, h⟩ := bnd h
    refine WL.call (vals := [pt p 0, vs [97, 120, 120, 98, 99]]) kok9 z z (c_glob_Glob_Match (A := fun _ => True) (a0 := K) (Sl.all ar) aq.blk trivial au) ?_
    rintro bb bc ⟨rfl, av⟩
    obtain ⟨aT, aU, aW, ac⟩ := adoptE V (fun k => 1) av
    refine wY (Y.pick (b := true) z z) z ?_
    exact nl (At.join (σ := (Bool × Own)) (aS, aT) ⟨some1 h, (su_ ac z)⟩ (.cons z (.cons z (.cons z (.cons z .nil)))))
   ·refine WL.ren 23 z (congrArg vB t) (WL.gS z z z z (WL.gS z z z z (wY (Y.pick (b := false) z z) z ?_)))
    exact nl (At.join (σ := (Bool × Own)) (false, V) ⟨some1 h, (sr_ _ _ _)⟩ (.cons z (.cons z (.cons z (.cons z .nil)))))
  ·rintro ⟨aX, Z⟩ ax ⟨rfl, o⟩
   replace h := ap
   try dsimp only at h o
   refine (show WL _ _ _ _ _ [(1, pt p 0), (5, vi j), (6, vi l), (26, vB aX)] _ from ?_)
   refine wY (ym z) z ?_
   obtain ⟨aY, h, ay⟩ := bnd h
   refine WL.cut 4 (σ := (Bool × Own)) (fun x w' => x.1 = aY ∧ Stp [] Z ax x.2 w') (fun x => [(5, vi j), (6, vi l), (31, vB x.1)]) ?_ ?_
   ·rcases cnd h with ⟨C, h⟩ | ⟨C, h⟩
    ·refine WL.ren 27 z (congrArg vB C) (ug z z (wY (ym z) z (ug z z ?_)))
     have aA := (X.st m z).st o z
     have aD := (W.f m z).f o z
     obtain ⟨aZ, aE, h⟩ := bnd h
     refine WL.call (vals := [pt p 0, vs [97, 98]]) kok9 z z (c_glob_Glob_Match (A := fun _ => True) (a0 := K) (Sl.all aD) aA.blk trivial aE) ?_
     rintro bd bf ⟨rfl, aF⟩
     obtain ⟨a1, a2, a3, ad⟩ := adoptE Z (fun k => 1) aF
     refine ug z z (wY (Y.not z) z (wY (Y.pick (b := true) z z) z ?_))
     exact nl (At.join (σ := (Bool × Own)) ((!aZ), a1) ⟨some1 h, (su_ ad z)⟩ (.cons z (.cons z (.cons z .nil))))
    ·refine WL.ren 27 z (congrArg vB C) (WL.gS z z z z (WL.gS z z z z (WL.gS z z z z (wY (Y.pick (b := false) z z) z ?_))))
     exact nl (At.join (σ := (Bool × Own)) (false, Z) ⟨some1 h, (sr_ _ _ _)⟩ (.cons z (.cons z (.cons z .nil))))
   ·rintro ⟨n, aa⟩ D ⟨rfl, L⟩
    replace h := ay
    try dsimp only at h L
    refine (show WL _ _ _ _ _ [(5, vi j), (6, vi l), (31, vB n)] _ from ?_)
    refine wY (ym z) z ?_
    refine WL.cut 3 (σ := Unit) (fun _ w' => D = w') (fun _ => [(6, vi l), (35, vB (n && (decide (j = 1))))]) ?_ ?_
    ·refine WL.part 32 z (fun E => ?_) (fun E => ?_)
     ·refine ug z z (wY (ym z) z (ug z z (wY (Y.eql_i z z) z (wY (Y.pick (b := true) z z) z (WL.ren (v' := vB (n && (decide (j = 1)))) 35 z (congrArg vB (andT E)) ?_)))))
      exact nl (At.join () z (.cons z (.cons z .nil)))
     ·refine WL.gS z z z z (WL.gS z z z z (wY (Y.pick (b := false) z z) z (WL.ren (v' := vB (n && (decide (j = 1)))) 35 z (congrArg vB (andF E)) ?_)))
      exact nl (At.join () z (.cons z (.cons z .nil)))
    ·rintro _ _ rfl
     refine (show WL _ _ _ _ _ [(6, vi l), (35, vB (n && (decide (j = 1))))] _ from ?_)
     refine wY (ym z) z ?_
     refine WL.cut 3 (σ := Unit) (fun _ w' => D = w') (fun _ => [(39, vB ((n && (decide (j = 1))) && (decide (l = 3))))]) ?_ ?_
     ·refine WL.part 36 z (fun F => ?_) (fun F => ?_)
      ·refine ug z z (wY (ym z) z (ug z z (wY (Y.eql_i z z) z (wY (Y.pick (b := true) z z) z (WL.ren (v' := vB ((n && (decide (j = 1))) && (decide (l = 3)))) 39 z (congrArg vB (andT F)) ?_)))))
       exact nl (At.join () z (.cons z .nil))
      ·refine WL.gS z z z z (WL.gS z z z z (wY (Y.pick (b := false) z z) z (WL.ren (v' := vB ((n && (decide (j = 1))) && (decide (l = 3)))) 39 z (congrArg vB (andF F)) ?_)))
       exact nl (At.join () z (.cons z .nil))
     ·rintro _ _ rfl
      refine (show WL _ _ _ _ _ [(39, vB ((n && (decide (j = 1))) && (decide (l = 3))))] _ from ?_)
      refine wY (ym z) z ?_
      obtain ⟨a4, h, aG⟩ := bnd h
      refine WL.cut 3 (σ := (Bool × Own)) (fun x w' => x.1 = a4 ∧ Stp [] aa D x.2 w') (fun x => [(43, vB x.1)]) ?_ ?_
      ·rcases cnd h with ⟨G, h⟩ | ⟨G, h⟩
       ·refine WL.ren 40 z (congrArg vB G) (ug z z ?_)
        obtain ⟨a5, aH, h⟩ := bnd h
        refine WL.call (vals := [vs [97, 42]]) kok14 z z (c_glob_Quote aH) ?_
        rintro bg bh ⟨rfl, aI⟩
        obtain ⟨a6, aK, aL, ab⟩ := adoptE aa (fun k => 1) aI
        refine ug z z (wY (Y.eql_s (b := [97, 92, 42]) z z) z (wY (Y.pick (b := true) z z) z ?_))
        exact nl (At.join (σ := (Bool × Own)) (decide (a5 = [97, 92, 42]), a6) ⟨some1 h, (su_ ab z)⟩ (.cons z .nil))
       ·refine WL.ren 40 z (congrArg vB G) (WL.gS z z z z (WL.gS z z z z (wY (Y.pick (b := false) z z) z ?_)))
        exact nl (At.join (σ := (Bool × Own)) (false, aa) ⟨some1 h, (sr_ _ _ _)⟩ (.cons z .nil))
      ·rintro ⟨a7, a8⟩ aJ ⟨rfl, M⟩
       replace h := aG
       try dsimp only at h M
       refine (show WL _ _ _ _ _ [(43, vB a7)] _ from ?_)
       refine wY (ya z) z (nl (th (rt ?_)))
       obtain rfl := some1 h
       have ae : Stp [] (Lg.O0 A) w a8 aJ := (tr_ (su_ J z) (tr_ (su_ m z) (tr_ (su_ o z) (tr_ (su_ L z) (su_ M z)))))
       exact At.res (.inl z) z (.tmp z .nil) ⟨z, (se_ ae z z)⟩
theorem c_law32_GlobJoins {A : Nat → Prop} {a0 : List UInt8} {a1 : List UInt8} {a2 : List UInt8} {w : World} (hG0 : CellsAt w 0 0 [vi 0, vi 0]) (hGA0 : A 0) {r0 : Bool} (h : law32_GlobJoins a0 a1 a2 = some r0) : Rets Tryd.prog 4 [vs a0, vs a1, vs a2] w (fun v w' => v = vB r0 ∧ Ext w w') := by
 unfold law32_GlobJoins at h
 refine Rets.enter Tryd.func4 z z ?_
 have aA : CAt [0, 1] (Lg.O0 A) w 0 0 [vi 0, vi 0] := CAt.glob hG0 (if_pos hGA0)
 refine (show WC _ _ _ _ [(0, vs a0), (1, vs a1), (2, vs a2)] _ from ?_)
 refine sq (rg (wY (ya z) z (nl (th (sq (sq (rg ?_)))))))
 obtain ⟨cH, bx, h⟩ := bnd h
 refine WL.call (vals := []) kok6 z z (c_law32_awake (A := fun _ => True) aA.at_ trivial bx) ?_
 rintro cy J ⟨rfl, bz⟩
 obtain ⟨aC, cg, ch, n⟩ := adoptE (Lg.O0 A) (fun k => 1) bz
 refine wY (Y.not z) z (nl (th ?_))
 rcases cnd h with ⟨aa, h⟩ | ⟨aa, h⟩
 ·refine WC.condT' z aa (sq (rg (wY (ya z) z (nl (th (rt (At.thenR ?_)))))))
  obtain rfl := some1 h
  have bA : Stp [] (Lg.O0 A) w aC J := (su_ n z)
  exact At.res (.inl z) z (.tmp z .nil) ⟨z, (se_ bA z z)⟩
 ·refine WC.condF' z aa (sk (th (sq (sq (rg (wY (ym z) z (wY (Y.len_s ty9 z) z (wY (Y.gtr_i z z) z (wY (ym z) z ?_)))))))))
  refine WL.cut 4 (σ := Unit) (fun _ w' => J = w') (fun _ => [(0, vs a0), (1, vs a1), (2, vs a2), (27, vB ((decide (32 < (a0.length : Int))) || (decide (32 < (a1.length : Int)))))]) ?_ ?_
  ·refine WL.part 23 z (fun ab => ?_) (fun ab => ?_)
   ·refine WL.gS z z z z (WL.gS z z z z (WL.gS z z z z (wY (Y.pick (b := true) z z) z (WL.ren (v' := vB ((decide (32 < (a0.length : Int))) || (decide (32 < (a1.length : Int))))) 27 z (congrArg vB (orT ab)) ?_))))
    exact nl (At.join () z (.cons z (.cons z (.cons z (.cons z .nil)))))
   ·refine ug z z (wY (ym z) z (ug z z (wY (Y.len_s ty9 z) z (ug z z (wY (Y.gtr_i z z) z (wY (Y.pick (b := false) z z) z (WL.ren (v' := vB ((decide (32 < (a0.length : Int))) || (decide (32 < (a1.length : Int))))) 27 z (congrArg vB (orF ab)) ?_)))))))
    exact nl (At.join () z (.cons z (.cons z (.cons z (.cons z .nil)))))
  ·rintro _ _ rfl
   refine (show WL _ _ _ _ _ [(0, vs a0), (1, vs a1), (2, vs a2), (27, vB ((decide (32 < (a0.length : Int))) || (decide (32 < (a1.length : Int)))))] _ from ?_)
   refine wY (ym z) z ?_
   refine WL.cut 4 (σ := Unit) (fun _ w' => J = w') (fun _ => [(0, vs a0), (1, vs a1), (2, vs a2), (32, vB (((decide (32 < (a0.length : Int))) || (decide (32 < (a1.length : Int)))) || (decide (60 < (a2.length : Int)))))]) ?_ ?_
   ·refine WL.part 28 z (fun ac => ?_) (fun ac => ?_)
    ·refine WL.gS z z z z (WL.gS z z z z (WL.gS z z z z (wY (Y.pick (b := true) z z) z (WL.ren (v' := vB (((decide (32 < (a0.length : Int))) || (decide (32 < (a1.length : Int)))) || (decide (60 < (a2.length : Int))))) 32 z (congrArg vB (orT ac)) ?_))))
     exact nl (At.join () z (.cons z (.cons z (.cons z (.cons z .nil)))))
    ·refine ug z z (wY (ym z) z (ug z z (wY (Y.len_s ty9 z) z (ug z z (wY (Y.gtr_i z z) z (wY (Y.pick (b := false) z z) z (WL.ren (v' := vB (((decide (32 < (a0.length : Int))) || (decide (32 < (a1.length : Int)))) || (decide (60 < (a2.length : Int))))) 32 z (congrArg vB (orF ac)) ?_)))))))
     exact nl (At.join () z (.cons z (.cons z (.cons z (.cons z .nil)))))
   ·rintro _ _ rfl
    refine (show WL _ _ _ _ _ [(0, vs a0), (1, vs a1), (2, vs a2), (32, vB (((decide (32 < (a0.length : Int))) || (decide (32 < (a1.length : Int)))) || (decide (60 < (a2.length : Int)))))] _ from ?_)
    refine nl (th ?_)
    rcases cnd h with ⟨ad, h⟩ | ⟨ad, h⟩
    ·refine WC.condT' z ad (sq (rg (wY (ya z) z (nl (th (rt (At.thenR ?_)))))))
     obtain rfl := some1 h
     have bB : Stp [] (Lg.O0 A) w aC J := (su_ n z)
     exact At.res (.inl z) z (.tmp z .nil) ⟨z, (se_ bB z z)⟩
    ·refine WC.condF' z ad (sk (th (sq (rg (wY (ym z) z ?_)))))
     have aD := aA.st n z
     obtain ⟨⟨an, cI, cJ⟩, bC, h⟩ := bnd h
     refine WL.call (vals := [vs a0]) kok7 z z (c_glob_Compile (A := fun _ => True) aD.at_ trivial bC) ?_
     rintro cz aE ⟨Q, rfl, bD, br⟩
     obtain ⟨aF, ci, S, C⟩ := adoptE aC (labP Q 11) bD
     refine wY (ym z) z (wY (yx z z) z (wY (yx z z) z (wY (yx z z) z (wY (ya z) z (wY (ya z) z (wY (ya z) z (nl (th (sq ?_)))))))))
     refine rg (wY (ym z) z ?_)
     have aG := aD.st C z
     obtain ⟨⟨ao, cK, cL⟩, bE, h⟩ := bnd h
     refine WL.call (vals := [vs a1]) kok7 z z (c_glob_Compile (A := fun _ => True) aG.at_ trivial bE) ?_
     rintro cA K ⟨T, rfl, bF, bs⟩
     obtain ⟨ap, cj, U, o⟩ := adoptE aF (labP T 12) bF
     refine wY (ym z) z (wY (yx z z) z (wY (yx z z) z (wY (yx z z) z (wY (ya z) z (wY (ya z) z (wY (ya z) z (nl (th (sq ?_)))))))))
     refine sq (rg (wY (ym z) z (wY (Y.eql_opt ty23.u z z br (fun d hd => by obtain ⟨_, _, e, _⟩ := hd; exact ⟨_, e⟩)) z (wY (ym z) z ?_))))
     refine WL.cut 3 (σ := Unit) (fun _ w' => K = w') (fun _ => [(0, vs a0), (1, vs a1), (2, vs a2), (7, Q), (10, T), (50, vB (an.isNone || ao.isNone))]) ?_ ?_
     ·refine WL.part 47 z (fun ae => ?_) (fun ae => ?_)
      ·refine WL.gS z z z z (WL.gS z z z z (wY (Y.pick (b := true) z z) z (WL.ren (v' := vB (an.isNone || ao.isNone)) 50 z (congrArg vB (orT ae)) ?_)))
       exact nl (At.join () z (.cons z (.cons z (.cons z (.cons z (.cons z (.cons z .nil)))))))
      ·refine ug z z (wY (ym z) z (ug z z (wY (Y.eql_opt ty23.u z z bs (fun d hd => by obtain ⟨_, _, e, _⟩ := hd; exact ⟨_, e⟩)) z (wY (Y.pick (b := false) z z) z (WL.ren (v' := vB (an.isNone || ao.isNone)) 50 z (congrArg vB (orF ae)) ?_)))))
       exact nl (At.join () z (.cons z (.cons z (.cons z (.cons z (.cons z (.cons z .nil)))))))
     ·rintro _ _ rfl
      refine (show WL _ _ _ _ _ [(0, vs a0), (1, vs a1), (2, vs a2), (7, Q), (10, T), (50, vB (an.isNone || ao.isNone))] _ from ?_)
      refine nl (th ?_)
      rcases cnd h with ⟨af, h⟩ | ⟨af, h⟩
      ·refine WC.condT' z af (sq (rg (wY (ya z) z (nl (th (rt (At.thenR ?_)))))))
       obtain rfl := some1 h
       have bG : Stp [] (Lg.O0 A) w ap K := (tr_ (su_ n z) (tr_ (su_ C z) (su_ o z)))
       exact At.res (.inl z) z (.tmp z .nil) ⟨z, (se_ bG z z)⟩
      ·refine WC.condF' z af (sk (th (sq (rg (wY (ym z) z (wY (ym z) z ?_))))))
       obtain ⟨ck, bH, h⟩ := bnd h
       refine wY (Y.add_s bH z z) z ?_
       have bI := aG.st o z
       obtain ⟨⟨aq, cM, ar⟩, bJ, h⟩ := bnd h
       refine WL.call (vals := [vs ck]) kok7 z z (c_glob_Compile (A := fun _ => True) bI.at_ trivial bJ) ?_
       rintro cC q ⟨l, rfl, bK, bt⟩
       obtain ⟨E, cl, V, p⟩ := adoptE ap (labP l 13) bK
       refine wY (ym z) z (wY (yx z z) z (wY (yx z z) z (wY (yx z z) z (wY (ya z) z (wY (ya z) z (wY (ya z) z (nl (th (sq ?_)))))))))
       refine sq (rg (wY (ym z) z (wY (Y.eql_opt ty23.u z z bt (fun d hd => by obtain ⟨_, _, e, _⟩ := hd; exact ⟨_, e⟩)) z (wY (ym z) z ?_))))
       refine WL.cut 3 (σ := Unit) (fun _ w' => q = w') (fun _ => [(2, vs a2), (7, Q), (10, T), (13, l), (64, vB (aq.isNone || (!decide (ar = 0))))]) ?_ ?_
       ·refine WL.part 61 z (fun ah => ?_) (fun ah => ?_)
        ·refine WL.gS z z z z (WL.gS z z z z (wY (Y.pick (b := true) z z) z (WL.ren (v' := vB (aq.isNone || (!decide (ar = 0)))) 64 z (congrArg vB (orT ah)) ?_)))
         exact nl (At.join () z (.cons z (.cons z (.cons z (.cons z (.cons z .nil))))))
        ·refine ug z z (wY (ym z) z (ug z z (wY (Y.neq_i z z) z (wY (Y.pick (b := false) z z) z (WL.ren (v' := vB (aq.isNone || (!decide (ar = 0)))) 64 z (congrArg vB (orF ah)) ?_)))))
         exact nl (At.join () z (.cons z (.cons z (.cons z (.cons z (.cons z .nil))))))
       ·rintro _ _ rfl
        refine (show WL _ _ _ _ _ [(2, vs a2), (7, Q), (10, T), (13, l), (64, vB (aq.isNone || (!decide (ar = 0))))] _ from ?_)
        refine nl (th ?_)
        rcases cnd h with ⟨ai, h⟩ | ⟨ai, h⟩
        ·refine WC.condT' z ai (sq (rg (wY (ya z) z (nl (th (rt (At.thenR ?_)))))))
         obtain rfl := some1 h
         have bL : Stp [] (Lg.O0 A) w E q := (tr_ (su_ n z) (tr_ (su_ C z) (tr_ (su_ o z) (su_ p z))))
         exact At.res (.inl z) z (.tmp z .nil) ⟨z, (se_ bL z z)⟩
        ·refine WC.condF' z ai (sk (th (sq (rg (wY (ya z) z (nl (th (sq (sq ?_)))))))))
         refine rg (wY (ya z) z (nl (th ?_)))
         obtain ⟨cm, h, bM⟩ := bnd h
         refine WC.join (σ := (Bool × Own)) (fun x w' => x.1 = cm ∧ Stp [] E q x.2 w') (fun x => [(2, vs a2), (13, l), (16, vB x.1)]) ?_ ?_
         ·refine WC.block ?_
          obtain ⟨au, bO, h⟩ := bnd h
          obtain ⟨m, bu, rfl, bP, cn⟩ := OptP.some br bO
          have bQ : Sl rep_glob_piece aE (frs aF) bu au.pieces := Sl.adoptF cn (fun k hk => ⟨hk.1, labP_ne hk.2⟩) S
          have bR : Blk 11 aF aE m 42 [vs au.text, bu] := Blk.new bP S (labP_at m 11)
          obtain ⟨av, bS, h⟩ := bnd h
          obtain ⟨r, bw, rfl, bT, co⟩ := OptP.some bs bS
          have bU : Sl rep_glob_piece K (frs ap) bw av.pieces := Sl.adoptF co (fun k hk => ⟨hk.1, labP_ne hk.2⟩) U
          have bW : Blk 12 ap K r 42 [vs av.text, bw] := Blk.new bT U (labP_at r 12)
          obtain ⟨aH, h, aO⟩ := flow1 h
          obtain ⟨aI, h⟩ := loop_some h
          refine WC.joinB 0 (σ := (Bool × Own)) (fun x w' => aH = .go x.1 ∧ Stp [] E q x.2 w') (fun x => [(2, vs a2), (13, l), (16, vB x.1)]) ?_ ?_
          ·refine WC.loop (σ := (Bool × Int × Own)) (fun x k w' => loopN k (law32_GlobJoins_lp1 a2 au av) (x.1, x.2.1) = some aH ∧ Stp [] E q x.2.2 w') (fun x => [(2, vs a2), (7, pt m 0), (10, pt r 0), (13, l), (16, vB x.1), (17, vi x.2.1)]) (false, 0, E) aI (.cons z (.cons z (.cons z (.cons z (.cons z (.cons z .nil)))))) ⟨h, (sr_ _ _ _)⟩ ?_
           rintro ⟨I, F, ax⟩ aI bX ⟨h, j⟩
           obtain ⟨bY, cD, rfl, h, ay⟩ := rnd1 h
           unfold law32_GlobJoins_lp1 at h
           try dsimp only at h j
           refine (show WC _ _ _ _ [(2, vs a2), (7, pt m 0), (10, pt r 0), (13, l), (16, vB I), (17, vi F)] _ from ?_)
           refine sq (sq (rg (wY (ym z) z (wY (ym z) z (wY (Y.len_s ty9 z) z (wY (Y.leq_i z z) z (nl (th ?_))))))))
           rcases cnd h with ⟨L, h⟩ | ⟨L, h⟩
           ·refine WC.condT' z L (sk (th (sq (WC.block (rg (wY (ym z) z (wY (ym z) z ?_)))))))
            obtain ⟨bZ, h, aP⟩ := bnd h
            refine WL.cut 13 (σ := (Bool × Own)) (fun x w' => x.1 = bZ ∧ Stp [] ax bX x.2 w') (fun x => [(2, vs a2), (7, pt m 0), (10, pt r 0), (13, l), (17, vi F), (85, vB x.1)]) ?_ ?_
            ·rcases cnd h with ⟨M, h⟩ | ⟨M, h⟩
             ·refine WL.ren 72 z (congrArg vB M) (WL.gS z z z z (WL.gS z z z z (WL.gS z z z z (WL.gS z z z z (WL.gS z z z z (WL.gS z z z z (WL.gS z z z z (WL.gS z z z z (WL.gS z z z z ?_)))))))))
              refine WL.gS z z z z (WL.gS z z z z (WL.gS z z z z (wY (Y.pick (b := true) z z) z ?_)))
              exact nl (At.join (σ := (Bool × Own)) (true, ax) ⟨some1 h, (sr_ _ _ _)⟩ (.cons z (.cons z (.cons z (.cons z (.cons z (.cons z .nil)))))))
             ·refine WL.ren 72 z (congrArg vB M) (ug z z (wY (ym z) z (ug z z (wY (ym z) z (ug z z (wY (ym z) z (ug z z ?_)))))))
              obtain ⟨aj, aQ, h⟩ := bnd h
              refine wY (Y.slice_s ty9 z z z aQ) z (ug z z ?_)
              have aT := ((bR.st o z).st p z).st j z
              have aX := ((bQ.f o z).f p z).f j z
              obtain ⟨P, aY, h⟩ := bnd h
              refine WL.call (vals := [pt m 0, vs aj]) kok9 z z (c_glob_Glob_Match (A := fun _ => True) (a0 := au) (Sl.all aX) aT.blk trivial aY) ?_
              rintro cr aZ ⟨rfl, a3⟩
              obtain ⟨ak, ca, cb, G⟩ := adoptE ax (fun k => 1) a3
              refine ug z z (wY (ym z) z ?_)
              obtain ⟨b0, h, a4⟩ := bnd h
              refine WL.cut 6 (σ := (Bool × Own)) (fun x w' => x.1 = b0 ∧ Stp [] ak aZ x.2 w') (fun x => [(2, vs a2), (7, pt m 0), (10, pt r 0), (13, l), (17, vi F), (72, vB false), (73, pt m 0), (74, vs a2), (75, vi F), (76, vs aj), (77, vB P), (78, vB P), (84, vB x.1)]) ?_ ?_
              ·rcases cnd h with ⟨t, h⟩ | ⟨t, h⟩
               ·refine WL.ren 78 z (congrArg vB t) (ug z z (wY (ym z) z (ug z z (wY (ym z) z (ug z z (wY (ym z) z (ug z z ?_)))))))
                obtain ⟨b1, a5, h⟩ := bnd h
                refine wY (Y.slice_s ty9 z z z a5) z (ug z z ?_)
                have a8 := ((bW.st p z).st j z).st G z
                have bb := ((bU.f p z).f j z).f G z
                obtain ⟨b2, bc, h⟩ := bnd h
                refine WL.call (vals := [pt r 0, vs b1]) kok9 z z (c_glob_Glob_Match (A := fun _ => True) (a0 := av) (Sl.all bb) a8.blk trivial bc) ?_
                rintro cs ct ⟨rfl, bd⟩
                obtain ⟨b3, cc, cd, aJ⟩ := adoptE ak (fun k => 1) bd
                refine ug z z (wY (Y.pick (b := true) z z) z (WL.ren 78 z (congrArg vB t.symm) ?_))
                exact nl (At.join (σ := (Bool × Own)) (b2, b3) ⟨some1 h, (su_ aJ z)⟩ (.cons z (.cons z (.cons z (.cons z (.cons z (.cons z (.cons z (.cons z (.cons z (.cons z (.cons z (.cons z (.cons z .nil))))))))))))))
               ·refine WL.ren 78 z (congrArg vB t) (WL.gS z z z z (WL.gS z z z z (WL.gS z z z z (WL.gS z z z z (WL.gS z z z z (ug z z (wY (Y.pick (b := false) z z) z (WL.ren 78 z (congrArg vB t.symm) ?_))))))))
                exact nl (At.join (σ := (Bool × Own)) (false, ak) ⟨some1 h, (sr_ _ _ _)⟩ (.cons z (.cons z (.cons z (.cons z (.cons z (.cons z (.cons z (.cons z (.cons z (.cons z (.cons z (.cons z (.cons z .nil))))))))))))))
              ·rintro ⟨aK, b4⟩ cu ⟨rfl, W⟩
               replace h := a4
               try dsimp only at h W
               refine (show WL _ _ _ _ _ [(2, vs a2), (7, pt m 0), (10, pt r 0), (13, l), (17, vi F), (72, vB false), (73, pt m 0), (74, vs a2), (75, vi F), (76, vs aj), (77, vB P), (78, vB P), (84, vB aK)] _ from ?_)
               refine wY (Y.pick (b := false) z z) z ?_
               exact nl (At.join (σ := (Bool × Own)) (aK, b4) ⟨some1 h, (tr_ (su_ G z) (su_ W z))⟩ (.cons z (.cons z (.cons z (.cons z (.cons z (.cons z .nil)))))))
            ·rintro ⟨aL, b5⟩ cv ⟨rfl, X⟩
             replace h := aP
             try dsimp only at h X
             refine (show WL _ _ _ _ _ [(2, vs a2), (7, pt m 0), (10, pt r 0), (13, l), (17, vi F), (85, vB aL)] _ from ?_)
             refine wY (ya z) z (nl (At.inBlock (th (rg (wY (ym z) z (wY (Y.add_i z z) z ?_))))))
             obtain ⟨b6, bf, h⟩ := lt1 h
             refine WL.yE (ya z) (congrArg vi bf.symm) z (nl ?_)
             exact At.round (aL, b6, b5) bY (Nat.lt_succ_self _) ⟨next1 h ay, (tr_ (su_ j z) (su_ X z))⟩ (.cons z (.cons z (.cons z (.cons z (.cons z (.cons z .nil))))))
           ·refine WC.condF' z L (WC.exit (At.thenX (At.loopX ?_)))
            exact At.hitB (σ := (Bool × Own)) (I, ax) ⟨brk1 h ay, (su_ j z)⟩ (.cons z (.cons z (.cons z .nil)))
          ·rintro ⟨H, b7⟩ cw ⟨rfl, Z⟩
           replace h := flowK_go aO
           try dsimp only at h Z
           refine (show At _ _ _ [(2, vs a2), (13, l), (16, vB H)] _ from ?_)
           refine At.inBlockHit ?_
           exact At.join (σ := (Bool × Own)) (H, b7) ⟨some1 h, (su_ Z z)⟩ (.cons z (.cons z (.cons z .nil)))
         ·rintro ⟨az, cq⟩ cE ⟨rfl, D⟩
          replace h := bM
          try dsimp only at h D
          refine (show At _ _ _ [(2, vs a2), (13, l), (16, vB az)] _ from ?_)
          refine th (sq (rg (wY (ym z) z (wY (ym z) z ?_))))
          obtain ⟨al, bg, h⟩ := bnd h
          obtain ⟨am, aM, rfl, bh, b8⟩ := OptP.some bt bg
          have bi : Sl rep_glob_piece q (frs E) aM al.pieces := Sl.adoptF b8 (fun k hk => ⟨hk.1, labP_ne hk.2⟩) V
          have bj : Blk 13 E q am 42 [vs al.text, aM] := Blk.new bh V (labP_at am 13)
          have bk := bj.st D z
          have bl := bi.f D z
          obtain ⟨cF, bm, h⟩ := bnd h
          refine WL.call (vals := [pt am 0, vs a2]) kok9 z z (c_glob_Glob_Match (A := fun _ => True) (a0 := al) (Sl.all bl) bk.blk trivial bm) ?_
          rintro cx bn ⟨rfl, bo⟩
          obtain ⟨b9, ce, cf, aN⟩ := adoptE cq (fun k => 1) bo
          refine wY (ym z) z (wY (Y.eqlB z z ty4.u) z ?_)
          obtain ⟨cG, bp, h⟩ := lt1 h
          refine WL.yE (ya z) (congrArg vB bp.symm) z (nl (th (rt ?_)))
          obtain rfl := some1 h
          have bq : Stp [] (Lg.O0 A) w b9 bn := (tr_ (su_ n z) (tr_ (su_ C z) (tr_ (su_ o z) (tr_ (su_ p z) (tr_ (su_ D z) (su_ aN z))))))
          exact At.res (.inl z) z (.tmp z .nil) ⟨z, (se_ bq z z)⟩
end Go.Lg
