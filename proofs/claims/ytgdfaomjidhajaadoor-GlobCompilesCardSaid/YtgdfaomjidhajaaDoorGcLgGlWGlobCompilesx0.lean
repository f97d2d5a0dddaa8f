/- The walks of GlobCompiles and of what it calls, printed by gen.py. -/
import Derived.Test.YtgdfaomjidhajaaDoorGcLgPart0
import Derived.Test.YtgdfaomjidhajaaDoorProg
set_option linter.unusedVariables false
namespace Go.Lg
open Go Go.Proofs
set_option maxRecDepth 100000
set_option maxHeartbeats 4000000
theorem fmix : Tryd.prog.follows .mixedOrders = true := by kernel_rfl
theorem ty3 : TyOk Tryd.prog 3 (.int .i64) 1 8 (.int .i64 0) := tyOk Tryd.underlying3 (by kernel_rfl)
theorem ty4 : TyOk Tryd.prog 4 .bool 1 1 (.bool false) := tyOk Tryd.underlying4 (by kernel_rfl)
theorem ty5 : TyOk Tryd.prog 5 (.int .u8) 1 1 (.int .u8 0) := tyOk Tryd.underlying5 (by kernel_rfl)
theorem ty9 : TyOk Tryd.prog 9 .string 1 16 (.string ⟨#[]⟩) := tyOk Tryd.underlying9 (by kernel_rfl)
theorem ty23 : TyOk Tryd.prog 23 (.pointer 42) 1 8 (.pointer none) := tyOk Tryd.underlying23 (by kernel_rfl)
theorem ty24 : TyOk Tryd.prog 24 (.int .i64) 1 8 (.int .i64 0) := tyOk Tryd.underlying24 (by kernel_rfl)
theorem ty27 : TyOk Tryd.prog 27 (.slice 55) 1 24 (.slice none 0 0) := tyOk Tryd.underlying27 (by kernel_rfl)
theorem ty29 : TyOk Tryd.prog 29 (.struct #[(Field.mk "L" 27 0 false "" "" 0), (Field.mk "At" 3 1 false "" "" 24), (Field.mk "E" 24 2 false "" "" 32)]) 3 40 (.agg #[(.slice none 0 0), (.int .i64 0), (.int .i64 0)]) := tyOk Tryd.underlying29 (by kernel_rfl)
theorem ty40 : TyOk Tryd.prog 40 (.slice 47) 1 24 (.slice none 0 0) := tyOk Tryd.underlying40 (by kernel_rfl)
theorem ty43 : TyOk Tryd.prog 43 (.int .u64) 1 8 (.int .u64 0) := tyOk Tryd.underlying43 (by kernel_rfl)
theorem ty45 : TyOk Tryd.prog 45 (.array 4 43) 4 32 (.agg #[(.int .u64 0), (.int .u64 0), (.int .u64 0), (.int .u64 0)]) := tyOk Tryd.underlying45 (by kernel_rfl)
theorem ty47 : TyOk Tryd.prog 47 (.struct #[(Field.mk "kind" 3 0 false "" "limnograph/glob" 0), (Field.mk "set" 45 1 false "" "limnograph/glob" 8), (Field.mk "plain" 4 5 false "" "limnograph/glob" 40), (Field.mk "c" 5 6 false "" "limnograph/glob" 41)]) 7 48 (.agg #[(.int .i64 0), (.int .u64 0), (.int .u64 0), (.int .u64 0), (.int .u64 0), (.bool false), (.int .u8 0)]) := tyOk Tryd.underlying47 (by kernel_rfl)
theorem ty49 : TyOk Tryd.prog 49 (.struct #[(Field.mk "at" 3 0 false "" "limnograph/glob" 0), (Field.mk "e" 24 1 false "" "limnograph/glob" 8)]) 2 16 (.agg #[(.int .i64 0), (.int .i64 0)]) := tyOk Tryd.underlying49 (by kernel_rfl)
theorem ty53 : TyOk Tryd.prog 53 (.slice 4) 1 24 (.slice none 0 0) := tyOk Tryd.underlying53 (by kernel_rfl)
theorem ty55 : TyOk Tryd.prog 55 (.struct #[(Field.mk "Many" 4 0 false "" "" 0), (Field.mk "Plain" 4 1 false "" "" 1), (Field.mk "In" 53 2 false "" "" 8), (Field.mk "C" 5 3 false "" "" 32)]) 4 40 (.agg #[(.bool false), (.bool false), (.slice none 0 0), (.int .u8 0)]) := tyOk Tryd.underlying55 (by kernel_rfl)
theorem ty59 : TyOk Tryd.prog 59 (.pointer 62) 1 8 (.pointer none) := tyOk Tryd.underlying59 (by kernel_rfl)
theorem ty60 : TyOk Tryd.prog 60 (.slice 5) 1 24 (.slice none 0 0) := tyOk Tryd.underlying60 (by kernel_rfl)
theorem ty62 : TyOk Tryd.prog 62 (.struct #[(Field.mk "addr" 59 0 false "" "strings" 0), (Field.mk "buf" 60 1 false "" "strings" 8)]) 2 32 (.agg #[(.pointer none), (.slice none 0 0)]) := tyOk Tryd.underlying62 (by kernel_rfl)
theorem ty70 : TyOk Tryd.prog 70 (.struct #[(Field.mk "C" 5 0 false "" "" 0), (Field.mk "Next" 3 1 false "" "" 8)]) 2 16 (.agg #[(.int .u8 0), (.int .i64 0)]) := tyOk Tryd.underlying70 (by kernel_rfl)
theorem ty73 : TyOk Tryd.prog 73 (.int .u64) 1 8 (.int .u64 0) := tyOk Tryd.underlying73 (by kernel_rfl)
theorem ty74 : TyOk Tryd.prog 74 (.pointer 5) 1 8 (.pointer none) := tyOk Tryd.underlying74 (by kernel_rfl)
theorem ty79 : TyOk Tryd.prog 79 .unsafePointer 1 8 (.pointer none) := tyOk Tryd.underlying79 (by kernel_rfl)
theorem fo29_0 : FieldOk Tryd.prog 29 0 0 := fieldOk Tryd.underlying29 rfl rfl (by kernel_rfl)
theorem fo29_1 : FieldOk Tryd.prog 29 1 1 := fieldOk Tryd.underlying29 rfl rfl (by kernel_rfl)
theorem fo29_2 : FieldOk Tryd.prog 29 2 2 := fieldOk Tryd.underlying29 rfl rfl (by kernel_rfl)
theorem fo42_0 : FieldOk Tryd.prog 42 0 0 := fieldOk Tryd.underlying42 rfl rfl (by kernel_rfl)
theorem fo42_1 : FieldOk Tryd.prog 42 1 1 := fieldOk Tryd.underlying42 rfl rfl (by kernel_rfl)
theorem fo47_0 : FieldOk Tryd.prog 47 0 0 := fieldOk Tryd.underlying47 rfl rfl (by kernel_rfl)
theorem fo47_1 : FieldOk Tryd.prog 47 1 1 := fieldOk Tryd.underlying47 rfl rfl (by kernel_rfl)
theorem fo47_2 : FieldOk Tryd.prog 47 2 5 := fieldOk Tryd.underlying47 rfl rfl (by kernel_rfl)
theorem fo47_3 : FieldOk Tryd.prog 47 3 6 := fieldOk Tryd.underlying47 rfl rfl (by kernel_rfl)
theorem fo49_0 : FieldOk Tryd.prog 49 0 0 := fieldOk Tryd.underlying49 rfl rfl (by kernel_rfl)
theorem fo49_1 : FieldOk Tryd.prog 49 1 1 := fieldOk Tryd.underlying49 rfl rfl (by kernel_rfl)
theorem fo55_1 : FieldOk Tryd.prog 55 1 1 := fieldOk Tryd.underlying55 rfl rfl (by kernel_rfl)
theorem fo55_3 : FieldOk Tryd.prog 55 3 3 := fieldOk Tryd.underlying55 rfl rfl (by kernel_rfl)
theorem fo62_0 : FieldOk Tryd.prog 62 0 0 := fieldOk Tryd.underlying62 rfl rfl (by kernel_rfl)
theorem fo62_1 : FieldOk Tryd.prog 62 1 1 := fieldOk Tryd.underlying62 rfl rfl (by kernel_rfl)
theorem fo70_0 : FieldOk Tryd.prog 70 0 0 := fieldOk Tryd.underlying70 rfl rfl (by kernel_rfl)
theorem fo70_1 : FieldOk Tryd.prog 70 1 1 := fieldOk Tryd.underlying70 rfl rfl (by kernel_rfl)
theorem agok49 : AgOk Tryd.prog 49 #[(Field.mk "at" 3 0 false "" "limnograph/glob" 0), (Field.mk "e" 24 1 false "" "limnograph/glob" 8)] := ⟨Tryd.underlying49, by kernel_rfl, by kernel_rfl⟩
theorem xne_31 : XNe Tryd.prog 31 := xne Tryd.func31 (by kernel_rfl) rfl (by kernel_rfl) (by kernel_rfl)
theorem kok6 : CallOk Tryd.prog 6 := callOk Tryd.func6 (by kernel_rfl) rfl
theorem kok7 : CallOk Tryd.prog 7 := callOk Tryd.func7 (by kernel_rfl) rfl
theorem kok8 : CallOk Tryd.prog 8 := callOk Tryd.func8 (by kernel_rfl) rfl
theorem kok9 : CallOk Tryd.prog 9 := callOk Tryd.func9 (by kernel_rfl) rfl
theorem kok11 : CallOk Tryd.prog 11 := callOk Tryd.func11 (by kernel_rfl) rfl
theorem kok12 : CallOk Tryd.prog 12 := callOk Tryd.func12 (by kernel_rfl) rfl
theorem kok13 : CallOk Tryd.prog 13 := callOk Tryd.func13 (by kernel_rfl) rfl
theorem kok14 : CallOk Tryd.prog 14 := callOk Tryd.func14 (by kernel_rfl) rfl
theorem kok15 : CallOk Tryd.prog 15 := callOk Tryd.func15 (by kernel_rfl) rfl
theorem kok16 : CallOk Tryd.prog 16 := callOk Tryd.func16 (by kernel_rfl) rfl
theorem kok17 : CallOk Tryd.prog 17 := callOk Tryd.func17 (by kernel_rfl) rfl
theorem kok18 : CallOk Tryd.prog 18 := callOk Tryd.func18 (by kernel_rfl) rfl
theorem kok19 : CallOk Tryd.prog 19 := callOk Tryd.func19 (by kernel_rfl) rfl
theorem kok20 : CallOk Tryd.prog 20 := callOk Tryd.func20 (by kernel_rfl) rfl
theorem kok21 : CallOk Tryd.prog 21 := callOk Tryd.func21 (by kernel_rfl) rfl
theorem kok22 : CallOk Tryd.prog 22 := callOk Tryd.func22 (by kernel_rfl) rfl
theorem kok23 : CallOk Tryd.prog 23 := callOk Tryd.func23 (by kernel_rfl) rfl
theorem kok24 : CallOk Tryd.prog 24 := callOk Tryd.func24 (by kernel_rfl) rfl
theorem kok25 : CallOk Tryd.prog 25 := callOk Tryd.func25 (by kernel_rfl) rfl
theorem kok26 : CallOk Tryd.prog 26 := callOk Tryd.func26 (by kernel_rfl) rfl
theorem kok27 : CallOk Tryd.prog 27 := callOk Tryd.func27 (by kernel_rfl) rfl
theorem kok28 : CallOk Tryd.prog 28 := callOk Tryd.func28 (by kernel_rfl) rfl
theorem kok29 : CallOk Tryd.prog 29 := callOk Tryd.func29 (by kernel_rfl) rfl
theorem kok30 : CallOk Tryd.prog 30 := callOk Tryd.func30 (by kernel_rfl) rfl
theorem c_glob_closed {a0 : List UInt8} {a1 : Int} {w : World} {r0 : Bool} (h : glob_closed a0 a1 = some r0) : Rets Tryd.prog 29 [vs a0, vi a1] w (fun v w' => v = vB r0 ∧ Ext w w') := by
 unfold glob_closed at h
 refine Rets.enter Tryd.func29 z z ?_
 refine (show WC _ _ _ _ [(0, vs a0), (1, vi a1)] _ from ?_)
 refine sq (rg (wY (ya z) z (nl (th (sq ?_)))))
 obtain ⟨X, h, G⟩ := bnd h
 refine WC.join (σ := Int) (fun x w' => x = X ∧ w = w') (fun x => [(0, vs a0), (1, vi x)]) ?_ ?_
 ·refine WC.block ?_
  obtain ⟨D, h, H⟩ := flow1 h
  obtain ⟨F, h⟩ := loop_some h
  refine WC.joinB 0 (σ := Int) (fun x w' => D = .go x ∧ w = w') (fun x => [(0, vs a0), (1, vi x)]) ?_ ?_
  ·refine WC.loop (σ := Int) (fun x k w' => loopN k (glob_closed_lp1 a0) x = some D ∧ w = w') (fun x => [(0, vs a0), (1, vi x)]) a1 F (.cons z (.cons z .nil)) ⟨h, z⟩ ?_
   rintro j F _ ⟨h, rfl⟩
   obtain ⟨Z, af, rfl, h, o⟩ := rnd1 h
   unfold glob_closed_lp1 at h
   try dsimp only at h
   refine (show WC _ _ _ _ [(0, vs a0), (1, vi j)] _ from ?_)
   refine sq (sq (rg (wY (ym z) z (wY (ym z) z (wY (Y.len_s ty9 z) z (wY (Y.lss_i z z) z (wY (ym z) z ?_)))))))
   obtain ⟨aa, h, I⟩ := bnd h
   refine WL.cut 5 (σ := Bool) (fun x w' => x = aa ∧ w = w') (fun x => [(0, vs a0), (1, vi j), (14, vB x)]) ?_ ?_
   ·rcases cnd h with ⟨l, h⟩ | ⟨l, h⟩
    ·refine WL.ren 9 z (congrArg vB l) (ug z z (wY (ym z) z (ug z z (wY (ym z) z (ug z z ?_)))))
     obtain ⟨ab, J, h⟩ := bnd h
     refine wY (Y.index_s ty9 z z J) z (ug z z (wY (Y.neq_b (b := 93) z z) z (wY (Y.pick (b := true) z z) z ?_)))
     exact nl (At.join (σ := Bool) (!decide (ab = 93)) ⟨some1 h, z⟩ (.cons z (.cons z (.cons z .nil))))
    ·refine WL.ren 9 z (congrArg vB l) (WL.gS z z z z (WL.gS z z z z (WL.gS z z z z (WL.gS z z z z (wY (Y.pick (b := false) z z) z ?_)))))
     exact nl (At.join (σ := Bool) false ⟨some1 h, z⟩ (.cons z (.cons z (.cons z .nil))))
   ·rintro ac _ ⟨rfl, rfl⟩
    replace h := I
    try dsimp only at h
    refine (show WL _ _ _ _ _ [(0, vs a0), (1, vi j), (14, vB ac)] _ from ?_)
    refine nl (th ?_)
    rcases cnd h with ⟨m, h⟩ | ⟨m, h⟩
    ·refine WC.condT' z m (sk (th ?_))
     obtain ⟨ad, h, K⟩ := bnd h
     refine WC.join (σ := Int) (fun x w' => x = ad ∧ w = w') (fun x => [(0, vs a0), (1, vi x)]) ?_ ?_
     ·refine WC.block (sq ?_)
      obtain ⟨ae, h, M⟩ := bnd h
      refine WC.join (σ := Int) (fun x w' => x = ae ∧ w = w') (fun x => [(0, vs a0), (1, vi x)]) ?_ ?_
      ·refine sq (rg (wY (ym z) z (wY (ym z) z ?_)))
       obtain ⟨ah, P, h⟩ := bnd h
       refine wY (Y.index_s ty9 z z P) z (wY (Y.eql_b (b := 92) z z) z (nl (th ?_)))
       rcases cnd h with ⟨n, h⟩ | ⟨n, h⟩
       ·refine WC.condT' z n (rg (wY (ym z) z (wY (Y.add_i z z) z ?_)))
        obtain ⟨Q, r, h⟩ := lt1 h
        refine WL.yE (ya z) (congrArg vi r.symm) z (nl ?_)
        exact At.join (σ := Int) Q ⟨some1 h, z⟩ (.cons z (.cons z .nil))
       ·refine WC.condF' z n (sk ?_)
        exact At.join (σ := Int) j ⟨some1 h, z⟩ (.cons z (.cons z .nil))
      ·rintro S _ ⟨rfl, rfl⟩
       replace h := M
       try dsimp only at h
       refine (show At _ _ _ [(0, vs a0), (1, vi S)] _ from ?_)
       refine th (rg (wY (ym z) z (wY (Y.add_i z z) z ?_)))
       obtain ⟨T, t, h⟩ := lt1 h
       refine WL.yE (ya z) (congrArg vi t.symm) z (nl (At.inBlock ?_))
       exact At.join (σ := Int) T ⟨some1 h, z⟩ (.cons z (.cons z .nil))
     ·rintro p _ ⟨rfl, rfl⟩
      replace h := K
      try dsimp only at h
      refine (show At _ _ _ [(0, vs a0), (1, vi p)] _ from ?_)
      exact At.round p Z (Nat.lt_succ_self _) ⟨next1 h o, z⟩ (.cons z (.cons z .nil))
    ·refine WC.condF' z m (WC.exit (At.thenX (At.loopX ?_)))
     exact At.hitB (σ := Int) j ⟨brk1 h o, z⟩ (.cons z (.cons z .nil))
  ·rintro q _ ⟨rfl, rfl⟩
   replace h := flowK_go H
   try dsimp only at h
   refine (show At _ _ _ [(0, vs a0), (1, vi q)] _ from ?_)
   refine At.inBlockHit ?_
   exact At.join (σ := Int) q ⟨some1 h, z⟩ (.cons z (.cons z .nil))
 ·rintro U _ ⟨rfl, rfl⟩
  replace h := G
  try dsimp only at h
  refine (show At _ _ _ [(0, vs a0), (1, vi U)] _ from ?_)
  refine th (sq (rg (wY (ym z) z (wY (ym z) z (wY (Y.len_s ty9 z) z (wY (Y.lss_i z z) z ?_))))))
  obtain ⟨ai, V, h⟩ := lt1 h
  refine WL.yE (ya z) (congrArg vB V.symm) z (nl (th (rt ?_)))
  obtain rfl := some1 h
  have W : Stp [] (Lg.O0 (fun _ => False)) w (Lg.O0 (fun _ => False)) w := (sr_ _ _ _)
  exact At.res (.inl z) z (.tmp z .nil) ⟨z, (se_ W z z)⟩
theorem c_glob_member {a0 : List UInt8} {a1 : Int} {w : World} {r0 : UInt8} {r1 : Int} (h : glob_member a0 a1 = some (r0, r1)) : Rets Tryd.prog 30 [vs a0, vi a1] w (fun v w' => v = tp [vb r0, vi r1] ∧ Ext w w') := by
 unfold glob_member at h
 refine Rets.enter Tryd.func30 z z ?_
 refine (show WC _ _ _ _ [(0, vs a0), (1, vi a1)] _ from ?_)
 refine sq (rg (wY (ya (v := vb 0) z) z (wY (ya z) z (nl (th (sq (sq (rg (wY (ym z) z ?_)))))))))
 refine wY (ym z) z ?_
 obtain ⟨q, l, h⟩ := bnd h
 refine wY (Y.index_s ty9 z z l) z (wY (Y.eql_b (b := 92) z z) z (nl (th ?_)))
 rcases cnd h with ⟨j, h⟩ | ⟨j, h⟩
 ·refine WC.condT' z j (sq (rg (wY (ym z) z (wY (ym z) z (wY (Y.add_i z z) z ?_)))))
  obtain ⟨r, m, h⟩ := bnd h
  refine wY (Y.index_s ty9 z z m) z (wY (ya z) z (wY (ya z) z (nl (th (rt (At.thenR ?_))))))
  obtain ⟨rfl, rfl⟩ := tup2 h
  have n : Stp [] (Lg.O0 (fun _ => False)) w (Lg.O0 (fun _ => False)) w := (sr_ _ _ _)
  exact At.res (.inl z) z (.tmp z (.tmp z .nil)) ⟨z, (se_ n z z)⟩
 ·refine WC.condF' z j (sk (th (sq (rg (wY (ym z) z (wY (ym z) z ?_))))))
  obtain ⟨t, o, h⟩ := bnd h
  refine wY (Y.index_s ty9 z z o) z (wY (ya z) z (wY (ya z) z (nl (th (rt ?_)))))
  obtain ⟨rfl, rfl⟩ := tup2 h
  have p : Stp [] (Lg.O0 (fun _ => False)) w (Lg.O0 (fun _ => False)) w := (sr_ _ _ _)
  exact At.res (.inl z) z (.tmp z (.tmp z .nil)) ⟨z, (se_ p z z)⟩
theorem c_glob_class {A : Nat → Prop} {a0 : List UInt8} {a1 : Int} {w : World} (hG0 : CellsAt w 0 0 [vi 0, vi 0]) (hGA0 : A 0) {r0 : glob_piece} {r1 : Int} {r2 : glob_fault} (h : glob_class a0 a1 = some (r0, r1, r2)) : Rets Tryd.prog 23 [vs a0, vi a1] w (fun v w' => v = Value.tuple (List.toArray [ag [vi r0.kind, vu r0.set.a0, vu r0.set.a1, vu r0.set.a2, vu r0.set.a3, vB r0.plain, vb r0.c], vi r1, ag [vi r2.at_, vi r2.e]]) ∧ Ext w w') := by
 unfold glob_class at h
 refine Rets.enter Tryd.func23 z z ?_
 have eb : CAt [0, 1] (Lg.O0 A) w 0 0 [vi 0, vi 0] := CAt.glob hG0 (if_pos hGA0)
 refine (show WC _ _ _ _ [(0, vs a0), (1, vi a1)] _ from ?_)
 refine sq (rg (WL.alloc (O := (Lg.O0 A)) 11 [vi 0, vu 0, vu 0, vu 0, vu 0, vB false, vb 0] ty47 z z ?_))
 intro n fu gd Z am
 refine wY (ya z) z (WL.alloc (O := fu) 12 [vi 0, vi 0] ty49 z z ?_)
 intro o fv ge r an
 refine nl (th (sq (rg (WL.alloc (O := fv) 13 [vi 0, vu 0, vu 0, vu 0, vu 0, vB false, vb 0] ty47 z z ?_))))
 intro j fw b1 m b2
 refine nl (th (sq (rg (wY (ym z) z (wY (Y.add_i z z) z ?_)))))
 obtain ⟨bp, cl, h⟩ := lt1 h
 refine WL.yE (ya z) (congrArg vi cl.symm) z (nl (th (sq (rg (wY (ym z) z (wY (ym z) z (wY (Y.len_s ty9 z) z (wY (Y.lss_i z z) z (wY (ym z) z ?_)))))))))
 obtain ⟨fx, h, ec⟩ := bnd h
 refine WL.cut 5 (σ := Bool) (fun x w' => x = fx ∧ b1 = w') (fun x => [(0, vs a0), (1, vi a1), (4, pt n 0), (6, pt o 0), (7, pt j 0), (8, vi bp), (29, vB x)]) ?_ ?_
 ·rcases cnd h with ⟨bq, h⟩ | ⟨bq, h⟩
  ·refine WL.ren 24 z (congrArg vB bq) (ug z z (wY (ym z) z (ug z z (wY (ym z) z (ug z z ?_)))))
   obtain ⟨fy, ed, h⟩ := bnd h
   refine wY (Y.index_s ty9 z z ed) z (ug z z (wY (Y.eql_b (b := 33) z z) z (wY (Y.pick (b := true) z z) z ?_)))
   exact nl (At.join (σ := Bool) (decide (fy = 33)) ⟨some1 h, z⟩ (.cons z (.cons z (.cons z (.cons z (.cons z (.cons z (.cons z .nil))))))))
  ·refine WL.ren 24 z (congrArg vB bq) (WL.gS z z z z (WL.gS z z z z (WL.gS z z z z (WL.gS z z z z (wY (Y.pick (b := false) z z) z ?_)))))
   exact nl (At.join (σ := Bool) false ⟨some1 h, z⟩ (.cons z (.cons z (.cons z (.cons z (.cons z (.cons z (.cons z .nil))))))))
 ·rintro G _ ⟨rfl, rfl⟩
  replace h := ec
  try dsimp only at h
  refine (show WL _ _ _ _ _ [(0, vs a0), (1, vi a1), (4, pt n 0), (6, pt o 0), (7, pt j 0), (8, vi bp), (29, vB G)] _ from ?_)
  refine wY (ya z) z (nl (th (sq ?_)))
  obtain ⟨fz, h, ee⟩ := bnd h
  refine WC.join (σ := Int) (fun x w' => x = fz ∧ b1 = w') (fun x => [(0, vs a0), (1, vi a1), (4, pt n 0), (6, pt o 0), (7, pt j 0), (8, vi x), (9, vB G)]) ?_ ?_
  ·refine sq (rg (wY (ym z) z (nl (th ?_))))
   rcases cnd h with ⟨br, h⟩ | ⟨br, h⟩
   ·refine WC.condT' z br (rg (wY (ym z) z (wY (Y.add_i z z) z ?_)))
    obtain ⟨ef, cm, h⟩ := lt1 h
    refine WL.yE (ya z) (congrArg vi cm.symm) z (nl ?_)
    exact At.join (σ := Int) ef ⟨some1 h, z⟩ (.cons z (.cons z (.cons z (.cons z (.cons z (.cons z (.cons z .nil)))))))
   ·refine WC.condF' z br (sk ?_)
    exact At.join (σ := Int) bp ⟨some1 h, z⟩ (.cons z (.cons z (.cons z (.cons z (.cons z (.cons z (.cons z .nil)))))))
  ·rintro q _ ⟨rfl, rfl⟩
   replace h := ee
   try dsimp only at h
   refine (show At _ _ _ [(0, vs a0), (1, vi a1), (4, pt n 0), (6, pt o 0), (7, pt j 0), (8, vi q), (9, vB G)] _ from ?_)
   refine th (sq (rg (wY (ym z) z (wY (ya z) z (nl (th (sq (sq (rg ?_)))))))))
   refine wY (ym z) z (wY (ym z) z ?_)
   obtain ⟨gz, eg, h⟩ := bnd h
   refine WL.call (vals := [vs a0, vi q]) kok29 z z (c_glob_closed eg) ?_
   rintro gf bs ⟨rfl, eh⟩
   obtain ⟨a8, fA, fB, l⟩ := adoptE fw (fun k => 1) eh
   refine wY (Y.not z) z (nl (th ?_))
   rcases cnd h with ⟨bt, h⟩ | ⟨bt, h⟩
   ·refine WC.condT' z bt (sq (rg ?_))
    have ei := b2.st l z
    refine wY (yL ty47 z z (ei.cells 0 [vi 0, vu 0, vu 0, vu 0, vu 0, vB false, vb 0] z) z) z (wY (ym z) z (wY (yb (vals := [(0, vi a1), (1, vi 2)]) (cells := [vi a1, vi 2]) (fe_ z) (by kernel_rfl)) z ?_))
    have em := ((am.st r z).st m z).st l z
    refine WL.store (v := ag [vi 0, vu 0, vu 0, vu 0, vu 0, vB false, vb 0]) (cells' := [vi 0, vu 0, vu 0, vu 0, vu 0, vB false, vb 0]) ty47 z z em z (le_ z) z z ?_
    intro gg bA en
    refine wY (ya z) z ?_
    have er := ((an.st m z).st l z).st bA z
    refine WL.store (v := ag [vi a1, vi 2]) (cells' := [vi a1, vi 2]) ty49 z z er z (le_ z) z z ?_
    intro es bB et
    refine nl (th (rt (At.thenR ?_)))
    obtain ⟨rfl, rfl, rfl⟩ := tup3 h
    have eu : Stp [11, 12] (Lg.O0 A) w a8 es := (tr_ (su_ Z z) (tr_ (su_ r z) (tr_ (su_ m z) (tr_ (su_ l z) (tr_ (su_ bA z) (su_ bB z))))))
    have ew := en.st bB z
    exact At.res (.inl z) z (.cell z (ew.runAg 0 [vi 0, vu 0, vu 0, vu 0, vu 0, vB false, vb 0] ty47 z z z) (.tmp z (.cell z (et.runAg 0 [vi a1, vi 2] ty49 z z z) .nil))) ⟨z, (se_ eu z z)⟩
   ·refine WC.condF' z bt (sk (th (sq ?_)))
    obtain ⟨fC, h, bu⟩ := flow1 h
    refine WC.join (σ := (UInt64 × UInt64 × UInt64 × UInt64 × Int × Own)) (fun x w' => fC = .go (x.1, x.2.1, x.2.2.1, x.2.2.2.1, x.2.2.2.2.1) ∧ Stp [13] a8 bs x.2.2.2.2.2 w' ∧ Blk 13 x.2.2.2.2.2 w' j 47 [vi 0, vu x.1, vu x.2.1, vu x.2.2.1, vu x.2.2.2.1, vB false, vb 0]) (fun x => [(1, vi a1), (4, pt n 0), (6, pt o 0), (7, pt j 0), (8, vi x.2.2.2.2.1), (9, vB G), (10, vi q)]) ?_ ?_
    ·refine WC.block ?_
     obtain ⟨d9, h, bw⟩ := flow1 h
     obtain ⟨ea, h⟩ := loop_some h
     refine WC.joinB 0 (σ := (UInt64 × UInt64 × UInt64 × UInt64 × Int × Own)) (fun x w' => d9 = .go (x.1, x.2.1, x.2.2.1, x.2.2.2.1, x.2.2.2.2.1) ∧ Stp [13] a8 bs x.2.2.2.2.2 w' ∧ Blk 13 x.2.2.2.2.2 w' j 47 [vi 0, vu x.1, vu x.2.1, vu x.2.2.1, vu x.2.2.2.1, vB false, vb 0]) (fun x => [(1, vi a1), (4, pt n 0), (6, pt o 0), (7, pt j 0), (8, vi x.2.2.2.2.1), (9, vB G), (10, vi q)]) ?_ ?_
     ·have ex := b2.st l z
      refine WC.loop (σ := (UInt64 × UInt64 × UInt64 × UInt64 × Int × Own)) (fun x k w' => loopN k (glob_class_lp1 a0) (x.1, x.2.1, x.2.2.1, x.2.2.2.1, x.2.2.2.2.1) = some d9 ∧ Stp [13] a8 bs x.2.2.2.2.2 w' ∧ Blk 13 x.2.2.2.2.2 w' j 47 [vi 0, vu x.1, vu x.2.1, vu x.2.2.1, vu x.2.2.2.1, vB false, vb 0]) (fun x => [(0, vs a0), (1, vi a1), (4, pt n 0), (6, pt o 0), (7, pt j 0), (8, vi x.2.2.2.2.1), (9, vB G), (10, vi q)]) (0, 0, 0, 0, q, a8) ea (.cons z (.cons z (.cons z (.cons z (.cons z (.cons z (.cons z (.cons z .nil)))))))) ⟨h, (sr_ _ _ _), ex⟩ ?_
      rintro ⟨aa, M, P, Q, p, ao⟩ ea b3 ⟨h, H, ak⟩
      obtain ⟨fD, gB, rfl, h, aF⟩ := rnd1 h
      unfold glob_class_lp1 at h
      try dsimp only at h H ak
      refine (show WC _ _ _ _ [(0, vs a0), (1, vi a1), (4, pt n 0), (6, pt o 0), (7, pt j 0), (8, vi p), (9, vB G), (10, vi q)] _ from ?_)
      refine sq (sq (rg (wY (ym z) z (wY (ym z) z ?_))))
      obtain ⟨gC, ey, h⟩ := bnd h
      refine wY (Y.index_s ty9 z z ey) z (wY (Y.neq_b (b := 93) z z) z (nl (th ?_)))
      rcases cnd h with ⟨aG, h⟩ | ⟨aG, h⟩
      ·refine WC.condT' z aG (sk (th ?_))
       obtain ⟨ez, h, aH⟩ := flow1 h
       refine WC.join (σ := (UInt64 × UInt64 × UInt64 × UInt64 × Int × Own)) (fun x w' => ez = .go (x.1, x.2.1, x.2.2.1, x.2.2.2.1, x.2.2.2.2.1) ∧ Stp [13] ao b3 x.2.2.2.2.2 w' ∧ Blk 13 x.2.2.2.2.2 w' j 47 [vi 0, vu x.1, vu x.2.1, vu x.2.2.1, vu x.2.2.2.1, vB false, vb 0]) (fun x => [(0, vs a0), (1, vi a1), (4, pt n 0), (6, pt o 0), (7, pt j 0), (8, vi x.2.2.2.2.1), (9, vB G), (10, vi q)]) ?_ ?_
       ·refine WC.block (sq (sq (rg (wY (ym z) z (wY (ym z) z ?_)))))
        obtain ⟨gh, cn, h⟩ := bnd h
        refine wY (Y.index_s ty9 z z cn) z (wY (Y.eql_b (b := 45) z z) z (nl (th ?_)))
        rcases cnd h with ⟨aI, h⟩ | ⟨aI, h⟩
        ·refine WC.condT' z aI (sq (sq (rg (wY (ym z) z (wY (ym z) z (wY (Y.add_i z z) z ?_))))))
         obtain ⟨gi, co, h⟩ := bnd h
         refine wY (Y.index_s ty9 z z co) z (wY (Y.neq_b (b := 93) z z) z (nl (th ?_)))
         rcases cnd h with ⟨aJ, h⟩ | ⟨aJ, h⟩
         ·refine WC.condT' z aJ (sq (rg (wY (yL ty47 z z (ak.cells 0 [vi 0, vu aa, vu M, vu P, vu Q, vB false, vb 0] z) z) z (wY (ym z) z (wY (yb (vals := [(0, vi p), (1, vi 3)]) (cells := [vi p, vi 3]) (fe_ z) (by kernel_rfl)) z ?_)))))
          have ct := (((am.st r z).st m z).st l z).st H z
          refine WL.store (v := ag [vi 0, vu aa, vu M, vu P, vu Q, vB false, vb 0]) (cells' := [vi 0, vu aa, vu M, vu P, vu Q, vB false, vb 0]) ty47 z z ct z (le_ z) z z ?_
          intro fK a9 cu
          refine wY (ya z) z ?_
          have cy := (((an.st m z).st l z).st H z).st a9 z
          refine WL.store (v := ag [vi p, vi 3]) (cells' := [vi p, vi 3]) ty49 z z cy z (le_ z) z z ?_
          intro cz ba cA
          refine nl (th (rt (At.thenR (At.thenR (At.inBlockR ?_)))))
          have h := outs1 h aH
          refine At.joinR (At.loopR ?_)
          have h := outr1 h aF bw
          refine At.joinBR (At.inBlockR ?_)
          have h := outs1 h bu
          refine At.joinR (At.thenR ?_)
          obtain ⟨rfl, rfl, rfl⟩ := tup3 h
          have cC : Stp [11, 12, 13] (Lg.O0 A) w ao cz := (tr_ (su_ Z z) (tr_ (su_ r z) (tr_ (su_ m z) (tr_ (su_ l z) (tr_ (su_ H z) (tr_ (su_ a9 z) (su_ ba z)))))))
          have cD := cu.st ba z
          exact At.res (.inl z) z (.cell z (cD.runAg 0 [vi 0, vu aa, vu M, vu P, vu Q, vB false, vb 0] ty47 z z z) (.tmp z (.cell z (cA.runAg 0 [vi p, vi 3] ty49 z z z) .nil))) ⟨z, (se_ cC z z)⟩
         ·refine WC.condF' z aJ (sk (th (sq (rg (wY (yf fo47_1 z) z ?_)))))
          obtain ⟨eA, h, cE⟩ := bnd h
          refine WL.callJ (vals := [pt j 1, vb 45]) (σ := (UInt64 × Own)) (fun x w' => x.1 = eA ∧ Stp [13] ao b3 x.2 w' ∧ Blk 13 x.2 w' j 47 [vi 0, vu x.1, vu M, vu P, vu Q, vB false, vb 0]) (fun x => tp []) kok28 z z ?_ ?_
          ·refine Rets.enter Tryd.func28 z z ?_
           refine (show WC _ _ _ _ [(0, pt j 1), (1, vb 45)] _ from ?_)
           refine WC.draw 13 ao fmix (by kernel_rfl) ?_
           intro fL bb
           refine WS.y (ym z) z (WS.y (ym z) z (WS.yE (Y.quo_b (b := 64) (by decide) z z) (show vb ((45 : UInt8) / 64) = vb 0 from congrArg vb (by decide)) z (WS.y (yn z) z (WS.yE (Y.indexAddrA ty45 ty43 z z (by decide) (by decide)) (show (Value.pointer (some ⟨j, 1 + ((0 : UInt8).toNat : Int).toNat * 1, none⟩)) = .pointer (some ⟨j, 1, none⟩) from z) z ?_))))
           have bC := ak.st bb z
           refine WS.y (yl ty43 z z (bC.cell 1 _ z)) z (WS.y (ym z) z (WS.yE (Y.rem_b (b := 64) (by decide) z z) (show vb ((45 : UInt8) % 64) = vb 45 from congrArg vb (by decide)) z (WS.y (Y.conv_bu ty5.u ty73.u z) z (WS.y (Y.shl_uu (a := 1) z z) z (WS.y (Y.or_u z z) z (WS.y (yn z) z (WS.yE (Y.indexAddrA ty45 ty43 z z (by decide) (by decide)) (show (Value.pointer (some ⟨j, 1 + ((0 : UInt8).toNat : Int).toNat * 1, none⟩)) = .pointer (some ⟨j, 1, none⟩) from z) z (WS.tail ?_))))))))
           obtain ⟨bx, cF, h⟩ := lt1 h
           refine WL.ren 14 z (congrArg vu cF.symm) (WL.store (v := vu bx) (cells' := [vi 0, vu bx, vu M, vu P, vu Q, vB false, vb 0]) ty43 z z bC z (le_ z) z z ?_)
           intro fN b4 cG
           refine nl ?_
           exact At.res (.inr z) z .nil ⟨(bx, ao), ⟨some1 h, (tr_ (su_ bb z) (su_ b4 z)), cG⟩, z⟩
          ·rintro ⟨eB, eC⟩ fO ⟨rfl, bc, bD⟩
           replace h := cE
           try dsimp only at h bc bD
           refine (show WL _ _ _ _ _ ((58, tp []) :: _) _ from ?_)
           refine nl (th (sq (rg (wY (ym z) z (wY (Y.add_i z z) z ?_)))))
           obtain ⟨cH, b5, h⟩ := lt1 h
           refine WL.yE (ya z) (congrArg vi b5.symm) z (nl (th (WC.exit (At.thenX (At.inBlockHit ?_)))))
           exact At.join (σ := (UInt64 × UInt64 × UInt64 × UInt64 × Int × Own)) (eB, M, P, Q, cH, eC) ⟨go2 h, (su_ bc z), bD⟩ (.cons z (.cons z (.cons z (.cons z (.cons z (.cons z (.cons z (.cons z .nil))))))))
        ·refine WC.condF' z aI (sk (th (sq (rg (wY (ym z) z (wY (ym z) z ?_))))))
         obtain ⟨⟨t, ap⟩, cI, h⟩ := bnd h
         refine WL.call (vals := [vs a0, vi p]) kok30 z z (c_glob_member cI) ?_
         rintro fP aK ⟨rfl, cJ⟩
         obtain ⟨bz, fp, fq, S⟩ := adoptE ao (fun k => 1) cJ
         refine wY (ym z) z (wY (yx z z) z (wY (yx z z) z (wY (ya z) z (wY (ya z) z (nl (th (sq (rg (wY (ym z) z ?_)))))))))
         refine wY (ya z) z (nl (th (sq ?_)))
         obtain ⟨eD, h, bE⟩ := flow1 h
         refine WC.join (σ := (Int × UInt8 × Own)) (fun x w' => eD = .go (x.1, x.2.1) ∧ Stp [] bz aK x.2.2 w') (fun x => [(0, vs a0), (1, vi a1), (4, pt n 0), (6, pt o 0), (7, pt j 0), (8, vi p), (9, vB G), (10, vi q), (11, vb t), (12, vi x.1), (13, vb x.2.1)]) ?_ ?_
         ·refine sq (rg (wY (ym z) z (wY (ym z) z (wY (Y.add_i z z) z ?_))))
          obtain ⟨aq, cK, h⟩ := lt1 h
          refine WL.yE (ya z) (congrArg vi cK.symm) z (nl (th (sq (rg (wY (ym z) z (wY (ym z) z ?_))))))
          obtain ⟨gj, cL, h⟩ := bnd h
          refine wY (Y.index_s ty9 z z cL) z (wY (Y.eql_b (b := 45) z z) z (wY (ym z) z ?_))
          obtain ⟨eE, h, cM⟩ := bnd h
          refine WL.cut 6 (σ := Bool) (fun x w' => x = eE ∧ aK = w') (fun x => [(0, vs a0), (1, vi a1), (4, pt n 0), (6, pt o 0), (7, pt j 0), (8, vi p), (9, vB G), (10, vi q), (11, vb t), (12, vi ap), (13, vb t), (14, vi aq), (81, vB x)]) ?_ ?_
          ·rcases cnd h with ⟨aL, h⟩ | ⟨aL, h⟩
           ·refine WL.ren 75 z (congrArg vB aL) (ug z z (wY (ym z) z (ug z z (wY (ym z) z (ug z z (wY (Y.add_i z z) z (ug z z ?_)))))))
            obtain ⟨eF, cN, h⟩ := bnd h
            refine wY (Y.index_s ty9 z z cN) z (ug z z (wY (Y.neq_b (b := 93) z z) z (wY (Y.pick (b := true) z z) z ?_)))
            exact nl (At.join (σ := Bool) (!decide (eF = 93)) ⟨some1 h, z⟩ (.cons z (.cons z (.cons z (.cons z (.cons z (.cons z (.cons z (.cons z (.cons z (.cons z (.cons z (.cons z (.cons z .nil))))))))))))))
           ·refine WL.ren 75 z (congrArg vB aL) (WL.gS z z z z (WL.gS z z z z (WL.gS z z z z (WL.gS z z z z (WL.gS z z z z (wY (Y.pick (b := false) z z) z ?_))))))
            exact nl (At.join (σ := Bool) false ⟨some1 h, z⟩ (.cons z (.cons z (.cons z (.cons z (.cons z (.cons z (.cons z (.cons z (.cons z (.cons z (.cons z (.cons z (.cons z .nil))))))))))))))
          ·rintro eG _ ⟨rfl, rfl⟩
           replace h := cM
           try dsimp only at h
           refine (show WL _ _ _ _ _ [(0, vs a0), (1, vi a1), (4, pt n 0), (6, pt o 0), (7, pt j 0), (8, vi p), (9, vB G), (10, vi q), (11, vb t), (12, vi ap), (13, vb t), (14, vi aq), (81, vB eG)] _ from ?_)
           refine wY (ym z) z ?_
           obtain ⟨eH, h, cO⟩ := bnd h
           refine WL.cut 6 (σ := Bool) (fun x w' => x = eH ∧ aK = w') (fun x => [(0, vs a0), (1, vi a1), (4, pt n 0), (6, pt o 0), (7, pt j 0), (8, vi p), (9, vB G), (10, vi q), (11, vb t), (12, vi ap), (13, vb t), (14, vi aq), (88, vB x)]) ?_ ?_
           ·rcases cnd h with ⟨aM, h⟩ | ⟨aM, h⟩
            ·refine WL.ren 82 z (congrArg vB aM) (ug z z (wY (ym z) z (ug z z (wY (ym z) z (ug z z (wY (Y.add_i z z) z (ug z z ?_)))))))
             obtain ⟨eI, cP, h⟩ := bnd h
             refine wY (Y.index_s ty9 z z cP) z (ug z z (wY (Y.neq_b (b := 45) z z) z (wY (Y.pick (b := true) z z) z ?_)))
             exact nl (At.join (σ := Bool) (!decide (eI = 45)) ⟨some1 h, z⟩ (.cons z (.cons z (.cons z (.cons z (.cons z (.cons z (.cons z (.cons z (.cons z (.cons z (.cons z (.cons z (.cons z .nil))))))))))))))
            ·refine WL.ren 82 z (congrArg vB aM) (WL.gS z z z z (WL.gS z z z z (WL.gS z z z z (WL.gS z z z z (WL.gS z z z z (wY (Y.pick (b := false) z z) z ?_))))))
             exact nl (At.join (σ := Bool) false ⟨some1 h, z⟩ (.cons z (.cons z (.cons z (.cons z (.cons z (.cons z (.cons z (.cons z (.cons z (.cons z (.cons z (.cons z (.cons z .nil))))))))))))))
           ·rintro eJ _ ⟨rfl, rfl⟩
            replace h := cO
            try dsimp only at h
            refine (show WL _ _ _ _ _ [(0, vs a0), (1, vi a1), (4, pt n 0), (6, pt o 0), (7, pt j 0), (8, vi p), (9, vB G), (10, vi q), (11, vb t), (12, vi ap), (13, vb t), (14, vi aq), (88, vB eJ)] _ from ?_)
            refine nl (th ?_)
            rcases cnd h with ⟨aN, h⟩ | ⟨aN, h⟩
            ·refine WC.condT' z aN (sq (rg (wY (ym z) z (wY (ym z) z (wY (Y.add_i z z) z ?_)))))
             obtain ⟨⟨eK, gk⟩, cQ, h⟩ := bnd h
             refine WL.call (vals := [vs a0, vi (w64 (aq + 1))]) kok30 z z (c_glob_member cQ) ?_
             rintro fQ fR ⟨rfl, cR⟩
             obtain ⟨b6, fs, ft, V⟩ := adoptE bz (fun k => 1) cR
             refine wY (ym z) z (wY (yx z z) z (wY (yx z z) z (wY (ya z) z (wY (ya z) z (nl (th (sq (sq (rg ?_)))))))))
             refine wY (ym z) z (wY (ym z) z (wY (Y.lss_b z z) z (nl (th ?_))))
             rcases cnd h with ⟨aO, h⟩ | ⟨aO, h⟩
             ·refine WC.condT' z aO (sq (rg ?_))
              have cT := (ak.st S z).st V z
              refine wY (yL ty47 z z (cT.cells 0 [vi 0, vu aa, vu M, vu P, vu Q, vB false, vb 0] z) z) z (wY (ym z) z (wY (yb (vals := [(0, vi p), (1, vi 3)]) (cells := [vi p, vi 3]) (fe_ z) (by kernel_rfl)) z ?_))
              have cZ := (((((am.st r z).st m z).st l z).st H z).st S z).st V z
              refine WL.store (v := ag [vi 0, vu aa, vu M, vu P, vu Q, vB false, vb 0]) (cells' := [vi 0, vu aa, vu M, vu P, vu Q, vB false, vb 0]) ty47 z z cZ z (le_ z) z z ?_
              intro fT bd c0
              refine wY (ya z) z ?_
              have c6 := (((((an.st m z).st l z).st H z).st S z).st V z).st bd z
              refine WL.store (v := ag [vi p, vi 3]) (cells' := [vi p, vi 3]) ty49 z z c6 z (le_ z) z z ?_
              intro c7 bf c8
              refine nl (th (rt (At.thenR ?_)))
              have h := outs1 h bE
              refine At.joinR (At.thenR (At.inBlockR ?_))
              have h := outs1 h aH
              refine At.joinR (At.loopR ?_)
              have h := outr1 h aF bw
              refine At.joinBR (At.inBlockR ?_)
              have h := outs1 h bu
              refine At.joinR (At.thenR ?_)
              obtain ⟨rfl, rfl, rfl⟩ := tup3 h
              have c9 : Stp [11, 12, 13] (Lg.O0 A) w b6 c7 := (tr_ (su_ Z z) (tr_ (su_ r z) (tr_ (su_ m z) (tr_ (su_ l z) (tr_ (su_ H z) (tr_ (su_ S z) (tr_ (su_ V z) (tr_ (su_ bd z) (su_ bf z)))))))))
              have da := c0.st bf z
              exact At.res (.inl z) z (.cell z (da.runAg 0 [vi 0, vu aa, vu M, vu P, vu Q, vB false, vb 0] ty47 z z z) (.tmp z (.cell z (c8.runAg 0 [vi p, vi 3] ty49 z z z) .nil))) ⟨z, (se_ c9 z z)⟩
             ·refine WC.condF' z aO (sk (th (rg (wY (ym z) z (wY (ym z) z (wY (Y.add_i z z) z (wY (ym z) z (wY (Y.add_i z z) z (wY (ya z) z ?_)))))))))
              obtain ⟨db, b7, h⟩ := lt1 h
              refine WL.yE (ya z) (congrArg vi b7.symm) z (nl ?_)
              exact At.join (σ := (Int × UInt8 × Own)) (db, eK, b6) ⟨go2 h, (su_ V z)⟩ (.cons z (.cons z (.cons z (.cons z (.cons z (.cons z (.cons z (.cons z (.cons z (.cons z (.cons z .nil)))))))))))
            ·refine WC.condF' z aN (sk ?_)
             exact At.join (σ := (Int × UInt8 × Own)) (ap, t, bz) ⟨go2 h, (sr_ _ _ _)⟩ (.cons z (.cons z (.cons z (.cons z (.cons z (.cons z (.cons z (.cons z (.cons z (.cons z (.cons z .nil)))))))))))
         ·rintro ⟨dc, T, aP⟩ aQ ⟨rfl, ar⟩
          replace h := flowK_go bE
          try dsimp only at h ar
          refine (show At _ _ _ [(0, vs a0), (1, vi a1), (4, pt n 0), (6, pt o 0), (7, pt j 0), (8, vi p), (9, vB G), (10, vi q), (11, vb t), (12, vi dc), (13, vb T)] _ from ?_)
          refine th (sq (rg (wY (yf fo47_1 z) z (wY (ym z) z (wY (ym z) z ?_)))))
          obtain ⟨eL, h, dd⟩ := bnd h
          refine WL.callJ (vals := [pt j 1, vb t, vb T]) (σ := (UInt64 × UInt64 × UInt64 × UInt64 × Own)) (fun x w' => (x.1, x.2.1, x.2.2.1, x.2.2.2.1) = eL ∧ Stp [13] aP aQ x.2.2.2.2 w' ∧ Blk 13 x.2.2.2.2 w' j 47 [vi 0, vu x.1, vu x.2.1, vu x.2.2.1, vu x.2.2.2.1, vB false, vb 0]) (fun x => tp []) kok22 z z ?_ ?_
          ·refine Rets.enter Tryd.func22 z z ?_
           refine (show WC _ _ _ _ [(0, pt j 1), (1, vb t), (2, vb T)] _ from ?_)
           refine sq (rg (wY (ym z) z (wY (Y.conv_bi ty5.u ty3.u z) z ?_)))
           obtain ⟨eM, de, h⟩ := lt1 h
           refine WL.yE (ya z) (congrArg vi de.symm) z (nl (th (WC.block ?_)))
           obtain ⟨b8, h, df⟩ := flow1 h
           obtain ⟨b9, h⟩ := loop_some h
           refine WC.joinB 0 (σ := (UInt64 × UInt64 × UInt64 × UInt64 × Own)) (fun x w' => b8 = .go (x.1, x.2.1, x.2.2.1, x.2.2.2.1) ∧ Stp [13] aP aQ x.2.2.2.2 w' ∧ Blk 13 x.2.2.2.2 w' j 47 [vi 0, vu x.1, vu x.2.1, vu x.2.2.1, vu x.2.2.2.1, vB false, vb 0]) (fun x => []) ?_ ?_
           ·have dh := (ak.st S z).st ar z
            refine WC.loop (σ := (UInt64 × UInt64 × UInt64 × UInt64 × Int × Own)) (fun x k w' => loopN k (glob_class_lp2 T) (x.1, x.2.1, x.2.2.1, x.2.2.2.1, x.2.2.2.2.1) = some b8 ∧ Stp [13] aP aQ x.2.2.2.2.2 w' ∧ Blk 13 x.2.2.2.2.2 w' j 47 [vi 0, vu x.1, vu x.2.1, vu x.2.2.1, vu x.2.2.2.1, vB false, vb 0]) (fun x => [(0, pt j 1), (2, vb T), (6, vi x.2.2.2.2.1)]) (aa, M, P, Q, eM, aP) b9 (.cons z (.cons z (.cons z .nil))) ⟨h, (sr_ _ _ _), dh⟩ ?_
            rintro ⟨ab, ac, ad, ae, I, aR⟩ b9 di ⟨h, au, aS⟩
            obtain ⟨eN, gl, rfl, h, bF⟩ := rnd1 h
            unfold glob_class_lp2 at h
            try dsimp only at h au aS
            refine (show WC _ _ _ _ [(0, pt j 1), (2, vb T), (6, vi I)] _ from ?_)
            refine sq (sq (rg (wY (ym z) z (wY (ym z) z (wY (Y.conv_bi ty5.u ty3.u z) z (wY (Y.leq_i z z) z (nl (th ?_))))))))
            rcases cnd h with ⟨aT, h⟩ | ⟨aT, h⟩
            ·refine WC.condT' z aT (sk (th (sq (WC.block (rg (wY (ym z) z (wY (ym z) z (wY (Y.conv_ib ty3.u ty5.u z) z ?_))))))))
             obtain ⟨p256, h, dj⟩ := bnd h
             refine WL.callJ (vals := [pt j 1, vb (toU8 I)]) (σ := (UInt64 × UInt64 × UInt64 × UInt64 × Own)) (fun x w' => (x.1, x.2.1, x.2.2.1, x.2.2.2.1) = p256 ∧ Stp [13] aR di x.2.2.2.2 w' ∧ Blk 13 x.2.2.2.2 w' j 47 [vi 0, vu x.1, vu x.2.1, vu x.2.2.1, vu x.2.2.2.1, vB false, vb 0]) (fun x => tp []) kok28 z z ?_ ?_
             ·refine Rets.enter Tryd.func28 z z ?_
              refine (show WC _ _ _ _ [(0, pt j 1), (1, vb (toU8 I))] _ from ?_)
              refine WC.draw 13 aR fmix (by kernel_rfl) ?_
              intro fU bg
              refine WS.y (ym z) z (WS.y (ym z) z (WS.y (Y.quo_b (b := 64) (by decide) z z) z (WS.y (yn z) z ?_)))
              obtain ⟨gm, bG, h⟩ := bnd h
              have bH := idx_in bG
              refine WS.y (Y.indexAddrA ty45 ty43 z z bH.1 bH.2) z ?_
              have bI := aS.st bg z
              refine WS.y (yl ty43 z z (CellsAt.idxU (xs := ([ab, ac, ad, ae] : List UInt64)) (bI.cells 1 [vu ab, vu ac, vu ad, vu ae] z) bG)) z (WS.y (ym z) z (WS.y (Y.rem_b (b := 64) (by decide) z z) z (WS.y (Y.conv_bu ty5.u ty73.u z) z (WS.y (Y.shl_uu (a := 1) z z) z (WS.y (Y.or_u z z) z (WS.y (yn z) z ?_))))))
              obtain ⟨gn, bJ, h⟩ := bnd h
              have bK := idx_in bJ
              refine WS.y (Y.indexAddrA ty45 ty43 z z bK.1 bK.2) z (WS.tail ?_)
              obtain ⟨D, dk, h⟩ := lt1 h
              refine WL.ren 14 z (congrArg vu dk.symm) (WL.store4 (xs := ([ab, ac, ad, ae] : List UInt64)) (off := 1) (v := D) (fun i => [vi 0, vu (up4 i 0 D ab), vu (up4 i 1 D ac), vu (up4 i 2 D ad), vu (up4 i 3 D ae), vB false, vb 0]) ty43 z z bJ z bI (le_ z) z z z z ?_)
              intro fV ca aU
              replace aU : Blk _ _ _ _ _ [vi 0, vu (up4 (((toU8 I) / 64).toNat : Int) 0 D ab), vu (up4 (((toU8 I) / 64).toNat : Int) 1 D ac), vu (up4 (((toU8 I) / 64).toNat : Int) 2 D ad), vu (up4 (((toU8 I) / 64).toNat : Int) 3 D ae), vB false, vb 0] := aU
              refine nl ?_
              exact At.res (.inr z) z .nil ⟨((up4 (((toU8 I) / 64).toNat : Int) 0 D ab), (up4 (((toU8 I) / 64).toNat : Int) 1 D ac), (up4 (((toU8 I) / 64).toNat : Int) 2 D ad), (up4 (((toU8 I) / 64).toNat : Int) 3 D ae), aR), ⟨some1 h, (tr_ (su_ bg z) (su_ ca z)), aU⟩, z⟩
             ·rintro ⟨eO, eP, eQ, eR, eS⟩ fY ⟨rfl, bh, bL⟩
              replace h := dj
              try dsimp only at h bh bL
              refine (show WL _ _ _ _ _ ((18, tp []) :: _) _ from ?_)
              refine nl (At.inBlock (th (rg (wY (ym z) z (wY (Y.add_i z z) z ?_)))))
              obtain ⟨eT, dl, h⟩ := lt1 h
              refine WL.yE (ya z) (congrArg vi dl.symm) z (nl ?_)
              exact At.round (eO, eP, eQ, eR, eT, eS) eN (Nat.lt_succ_self _) ⟨next1 h bF, (tr_ (su_ au z) (su_ bh z)), bL⟩ (.cons z (.cons z (.cons z .nil)))
            ·refine WC.condF' z aT (WC.exit (At.thenX (At.loopX ?_)))
             exact At.hitB (σ := (UInt64 × UInt64 × UInt64 × UInt64 × Own)) (ab, ac, ad, ae, aR) ⟨brk1 h bF, (su_ au z), aS⟩ .nil
           ·rintro ⟨eU, eV, eW, eX, eY⟩ f0 ⟨rfl, bi, bM⟩
            replace h := flowK_go df
            try dsimp only at h bi bM
            refine (show At _ _ _ [] _ from ?_)
            refine At.inBlockHit ?_
            exact At.res (.inr z) z .nil ⟨(eU, eV, eW, eX, eY), ⟨some1 h, (su_ bi z), bM⟩, z⟩
          ·rintro ⟨eZ, e0, e1, e2, e5⟩ f1 ⟨rfl, bj, bO⟩
           replace h := dd
           try dsimp only at h bj bO
           refine (show WL _ _ _ _ _ ((110, tp []) :: _) _ from ?_)
           refine nl (th (rg (wY (ym z) z (wY (ym z) z (wY (Y.add_i z z) z ?_)))))
           obtain ⟨dm, cb, h⟩ := lt1 h
           refine WL.yE (ya z) (congrArg vi cb.symm) z (nl (At.inBlock ?_))
           exact At.join (σ := (UInt64 × UInt64 × UInt64 × UInt64 × Int × Own)) (eZ, e0, e1, e2, dm, e5) ⟨go2 h, (tr_ (su_ S z) (tr_ (su_ ar z) (su_ bj z))), bO⟩ (.cons z (.cons z (.cons z (.cons z (.cons z (.cons z (.cons z (.cons z .nil))))))))
       ·rintro ⟨e6, e7, e8, e9, bP, fa⟩ f2 ⟨rfl, bk, bQ⟩
        replace h := flowK_go aH
        try dsimp only at h bk bQ
        refine (show At _ _ _ [(0, vs a0), (1, vi a1), (4, pt n 0), (6, pt o 0), (7, pt j 0), (8, vi bP), (9, vB G), (10, vi q)] _ from ?_)
        exact At.round (e6, e7, e8, e9, bP, fa) fD (Nat.lt_succ_self _) ⟨next1 h aF, (tr_ (su_ H z) (su_ bk z)), bQ⟩ (.cons z (.cons z (.cons z (.cons z (.cons z (.cons z (.cons z (.cons z .nil))))))))
      ·refine WC.condF' z aG (WC.exit (At.thenX (At.loopX ?_)))
       exact At.hitB (σ := (UInt64 × UInt64 × UInt64 × UInt64 × Int × Own)) (aa, M, P, Q, p, ao) ⟨brk1 h aF, (su_ H z), ak⟩ (.cons z (.cons z (.cons z (.cons z (.cons z (.cons z (.cons z .nil)))))))
     ·rintro ⟨fF, fG, fH, fI, cc, fJ⟩ gp ⟨rfl, bR, cd⟩
      replace h := flowK_go bw
      try dsimp only at h bR cd
      refine (show At _ _ _ [(1, vi a1), (4, pt n 0), (6, pt o 0), (7, pt j 0), (8, vi cc), (9, vB G), (10, vi q)] _ from ?_)
      refine At.inBlockHit ?_
      exact At.join (σ := (UInt64 × UInt64 × UInt64 × UInt64 × Int × Own)) (fF, fG, fH, fI, cc, fJ) ⟨go2 h, (su_ bR z), cd⟩ (.cons z (.cons z (.cons z (.cons z (.cons z (.cons z (.cons z .nil)))))))
    ·rintro ⟨aA, aC, aD, aE, U, av⟩ aW ⟨rfl, J, aX⟩
     replace h := flowK_go bu
     try dsimp only at h J aX
     refine (show At _ _ _ [(1, vi a1), (4, pt n 0), (6, pt o 0), (7, pt j 0), (8, vi U), (9, vB G), (10, vi q)] _ from ?_)
     refine th (sq (sq (rg (wY (ym z) z (wY (ym z) z (wY (Y.eql_i z z) z (nl (th ?_))))))))
     rcases cnd h with ⟨aY, h⟩ | ⟨aY, h⟩
     ·refine WC.condT' z aY (sq (rg (wY (yL ty47 z z (aX.cells 0 [vi 0, vu aA, vu aC, vu aD, vu aE, vB false, vb 0] z) z) z (wY (ym z) z (wY (yb (vals := [(0, vi a1), (1, vi 3)]) (cells := [vi a1, vi 3]) (fe_ z) (by kernel_rfl)) z ?_)))))
      have ds := (((am.st r z).st m z).st l z).st J z
      refine WL.store (v := ag [vi 0, vu aA, vu aC, vu aD, vu aE, vB false, vb 0]) (cells' := [vi 0, vu aA, vu aC, vu aD, vu aE, vB false, vb 0]) ty47 z z ds z (le_ z) z z ?_
      intro f3 bl dt
      refine wY (ya z) z ?_
      have dy := (((an.st m z).st l z).st J z).st bl z
      refine WL.store (v := ag [vi a1, vi 3]) (cells' := [vi a1, vi 3]) ty49 z z dy z (le_ z) z z ?_
      intro dz bm dA
      refine nl (th (rt (At.thenR ?_)))
      obtain ⟨rfl, rfl, rfl⟩ := tup3 h
      have dB : Stp [11, 12, 13] (Lg.O0 A) w av dz := (tr_ (su_ Z z) (tr_ (su_ r z) (tr_ (su_ m z) (tr_ (su_ l z) (tr_ (su_ J z) (tr_ (su_ bl z) (su_ bm z)))))))
      have dC := dt.st bm z
      exact At.res (.inl z) z (.cell z (dC.runAg 0 [vi 0, vu aA, vu aC, vu aD, vu aE, vB false, vb 0] ty47 z z z) (.tmp z (.cell z (dA.runAg 0 [vi a1, vi 3] ty49 z z z) .nil))) ⟨z, (se_ dB z z)⟩
     ·refine WC.condF' z aY (sk (th (sq ?_)))
      obtain ⟨fc, h, dD⟩ := bnd h
      refine WC.join (σ := (UInt64 × UInt64 × UInt64 × UInt64 × Own)) (fun x w' => (x.1, x.2.1, x.2.2.1, x.2.2.2.1) = fc ∧ Stp [13] av aW x.2.2.2.2 w' ∧ Blk 13 x.2.2.2.2 w' j 47 [vi 0, vu x.1, vu x.2.1, vu x.2.2.1, vu x.2.2.2.1, vB false, vb 0]) (fun x => [(1, vi a1), (4, pt n 0), (6, pt o 0), (7, pt j 0), (8, vi U)]) ?_ ?_
      ·refine sq (rg (wY (ym z) z (nl (th ?_))))
       rcases cnd h with ⟨aZ, h⟩ | ⟨aZ, h⟩
       ·refine WC.condT' z aZ (sq (rg (wY (ym z) z (nl (th ?_)))))
        obtain ⟨fd, h, dE⟩ := bnd h
        refine WC.join (σ := (UInt64 × UInt64 × UInt64 × UInt64 × Own)) (fun x w' => (x.1, x.2.1, x.2.2.1, x.2.2.2.1) = fd ∧ Stp [13] av aW x.2.2.2.2 w' ∧ Blk 13 x.2.2.2.2 w' j 47 [vi 0, vu x.1, vu x.2.1, vu x.2.2.1, vu x.2.2.2.1, vB false, vb 0]) (fun x => [(1, vi a1), (4, pt n 0), (6, pt o 0), (7, pt j 0), (8, vi U)]) ?_ ?_
        ·refine WC.block ?_
         obtain ⟨ce, h, dF⟩ := flow1 h
         obtain ⟨cf, h⟩ := loop_some h
         refine WC.joinB 2 (σ := (UInt64 × UInt64 × UInt64 × UInt64 × Own)) (fun x w' => ce = .go (x.1, x.2.1, x.2.2.1, x.2.2.2.1) ∧ Stp [13] av aW x.2.2.2.2 w' ∧ Blk 13 x.2.2.2.2 w' j 47 [vi 0, vu x.1, vu x.2.1, vu x.2.2.1, vu x.2.2.2.1, vB false, vb 0]) (fun x => [(1, vi a1), (4, pt n 0), (6, pt o 0), (7, pt j 0), (8, vi U)]) ?_ ?_
         ·refine WC.loop (σ := (UInt64 × UInt64 × UInt64 × UInt64 × Int × Own)) (fun x k w' => loopN k (glob_class_lp3) (x.1, x.2.1, x.2.2.1, x.2.2.2.1, x.2.2.2.2.1) = some ce ∧ Stp [13] av aW x.2.2.2.2.2 w' ∧ Blk 13 x.2.2.2.2.2 w' j 47 [vi 0, vu x.1, vu x.2.1, vu x.2.2.1, vu x.2.2.2.1, vB false, vb 0]) (fun x => [(1, vi a1), (4, pt n 0), (6, pt o 0), (7, pt j 0), (8, vi U), (121, vi x.2.2.2.2.1)]) (aA, aC, aD, aE, 0, av) cf (.cons z (.cons z (.cons z (.cons z (.cons z (.cons z .nil)))))) ⟨h, (sr_ _ _ _), aX⟩ ?_
          rintro ⟨af, ah, ai, aj, K, cg⟩ cf f4 ⟨h, ax, al⟩
          obtain ⟨fe, gq, rfl, h, bS⟩ := rnd1 h
          unfold glob_class_lp3 at h
          try dsimp only at h ax al
          refine (show WC _ _ _ _ [(1, vi a1), (4, pt n 0), (6, pt o 0), (7, pt j 0), (8, vi U), (121, vi K)] _ from ?_)
          refine sq (rg (wY (Y.lss_i z z) z (nl (th (sq ?_)))))
          rcases cnd h with ⟨a2, h⟩ | ⟨a2, h⟩
          ·refine WC.condT' z a2 (sk (th (sq (WC.block (sq (rg (wY (ym z) z (wY (ya z) z (nl ?_)))))))))
           refine th (rg (wY (ym z) z (wY (ym z) z (wY (yf fo47_1 z) z ?_))))
           obtain ⟨gr, bT, h⟩ := bnd h
           have bU := idx_in bT
           refine wY (Y.indexAddrA ty45 ty43 z z bU.1 bU.2) z (wY (yl ty43 z z (CellsAt.idxU (xs := ([af, ah, ai, aj] : List UInt64)) (al.cells 1 [vu af, vu ah, vu ai, vu aj] z) bT)) z (wY (Y.not_u z) z (wY (yf fo47_1 z) z ?_)))
           obtain ⟨gs, bW, h⟩ := bnd h
           have bX := idx_in bW
           refine wY (Y.indexAddrA ty45 ty43 z z bX.1 bX.2) z ?_
           obtain ⟨F, dG, h⟩ := lt1 h
           refine WL.ren 129 z (congrArg vu dG.symm) (WL.store4 (xs := ([af, ah, ai, aj] : List UInt64)) (off := 1) (v := F) (fun i => [vi 0, vu (up4 i 0 F af), vu (up4 i 1 F ah), vu (up4 i 2 F ai), vu (up4 i 3 F aj), vB false, vb 0]) ty43 z z bW z al (le_ z) z z z z ?_)
           intro f5 ch a3
           replace a3 : Blk _ _ _ _ _ [vi 0, vu (up4 K 0 F af), vu (up4 K 1 F ah), vu (up4 K 2 F ai), vu (up4 K 3 F aj), vB false, vb 0] := a3
           refine nl (At.inBlock (th (rg (wY (Y.add_i z z) z (wY (ym z) z (nl ?_))))))
           exact At.round ((up4 K 0 F af), (up4 K 1 F ah), (up4 K 2 F ai), (up4 K 3 F aj), w64 (K + 1), cg) fe (Nat.lt_succ_self _) ⟨next1 h bS, (tr_ (su_ ax z) (su_ ch z)), a3⟩ (.cons z (.cons z (.cons z (.cons z (.cons z (.cons z .nil))))))
          ·refine WC.condF' z a2 (WC.exit (At.thenX (At.loopX ?_)))
           exact At.hitB (σ := (UInt64 × UInt64 × UInt64 × UInt64 × Own)) (af, ah, ai, aj, cg) ⟨brk1 h bS, (su_ ax z), al⟩ (.cons z (.cons z (.cons z (.cons z (.cons z .nil)))))
         ·rintro ⟨ff, fg, fh, fi, fj⟩ f6 ⟨rfl, bn, bY⟩
          replace h := flowK_go dF
          try dsimp only at h bn bY
          refine (show At _ _ _ [(1, vi a1), (4, pt n 0), (6, pt o 0), (7, pt j 0), (8, vi U)] _ from ?_)
          refine At.inBlockHit ?_
          exact At.join (σ := (UInt64 × UInt64 × UInt64 × UInt64 × Own)) (ff, fg, fh, fi, fj) ⟨some1 h, (su_ bn z), bY⟩ (.cons z (.cons z (.cons z (.cons z (.cons z .nil)))))
        ·rintro ⟨fk, fl, fm, fn, fo⟩ f7 ⟨rfl, bo, bZ⟩
         replace h := dE
         try dsimp only at h bo bZ
         refine (show At _ _ _ [(1, vi a1), (4, pt n 0), (6, pt o 0), (7, pt j 0), (8, vi U)] _ from ?_)
         exact At.join (σ := (UInt64 × UInt64 × UInt64 × UInt64 × Own)) (fk, fl, fm, fn, fo) ⟨some1 h, (su_ bo z), bZ⟩ (.cons z (.cons z (.cons z (.cons z (.cons z .nil)))))
       ·refine WC.condF' z aZ (sk ?_)
        exact At.join (σ := (UInt64 × UInt64 × UInt64 × UInt64 × Own)) (aA, aC, aD, aE, av) ⟨some1 h, (sr_ _ _ _), aX⟩ (.cons z (.cons z (.cons z (.cons z (.cons z .nil)))))
      ·rintro ⟨a4, a5, a6, a7, ci⟩ f8 ⟨rfl, W, b0⟩
       replace h := dD
       try dsimp only at h W b0
       refine (show At _ _ _ [(1, vi a1), (4, pt n 0), (6, pt o 0), (7, pt j 0), (8, vi U)] _ from ?_)
       refine th (sq (WC.drawH [11] [0, 1, 2, 3, 4, 5, 6, 7] ci 9 fmix z (by kernel_rfl) ?_))
       intro f9 X
       refine WD.y 0 z (by kernel_rfl) (fun ga gt cj => have dH := b0.st X z; have dI := dH.st cj z; yL ty47 z z (dI.cells 0 [vi 0, vu a4, vu a5, vu a6, vu a7, vB false, vb 0] z) z) z (WD.y 1 z (by kernel_rfl) (fun _ _ _ => ym z) z (WD.y 2 z (by kernel_rfl) (fun _ _ _ => Y.add_i z z) z (WD.y 3 z (by kernel_rfl) (fun _ _ _ => ym z) z (WD.y 4 z (by kernel_rfl) (fun _ _ _ => Y.sub_i z z) z (WD.y 5 z (by kernel_rfl) (fun gb gu ck => have dJ := eb.st Z z; have dK := dJ.st r z; have dL := dK.st m z; have dM := dL.st l z; have dN := dM.st J z; have dO := dN.st W z; have dP := dO.st X z; have dQ := dP.st ck z; yL ty49 z z dQ.at_ z) z (WD.heavy 6 z (by kernel_rfl) ?_))))))
       have dW := (((((am.st r z).st m z).st l z).st J z).st W z).st X z
       refine WL.store (v := ag [vi 0, vu a4, vu a5, vu a6, vu a7, vB false, vb 0]) (cells' := [vi 0, vu a4, vu a5, vu a6, vu a7, vB false, vb 0]) ty47 z z dW z (le_ z) z z ?_
       intro gc ay dX
       refine nl (At.dq (su_ ay z) ?_)
       obtain ⟨gw, dY, h⟩ := lt1 h
       refine WD.yE 7 z (by kernel_rfl) (fun _ _ _ => ya z) (congrArg vi dY.symm) z (WD.phase [12] [0, 1, 2, 3, 4, 5, 6, 7, 8] (by kernel_rfl) (by kernel_rfl) (WD.heavy 8 z (by kernel_rfl) ?_))
       have d4 := (((((an.st m z).st l z).st J z).st W z).st X z).st ay z
       refine WL.store (v := ag [vi 0, vi 0]) (cells' := [vi 0, vi 0]) ty49 z z d4 z (le_ z) z z ?_
       intro d5 az d6
       refine nl (At.dq (su_ az z) (WD.done_ (by kernel_rfl) (th (rt ?_))))
       obtain ⟨rfl, rfl, rfl⟩ := tup3 h
       have d7 : Stp [11, 12, 13] (Lg.O0 A) w ci d5 := (tr_ (su_ Z z) (tr_ (su_ r z) (tr_ (su_ m z) (tr_ (su_ l z) (tr_ (su_ J z) (tr_ (su_ W z) (tr_ (su_ X z) (tr_ (su_ ay z) (su_ az z)))))))))
       have d8 := dX.st az z
       exact At.res (.inl z) z (.cell z (d8.runAg 0 [vi 0, vu a4, vu a5, vu a6, vu a7, vB false, vb 0] ty47 z z z) (.tmp z (.cell z (d6.runAg 0 [vi 0, vi 0] ty49 z z z) .nil))) ⟨z, (se_ d7 z z)⟩
theorem c_glob_byteOf {a0 : UInt8} {w : World} {r0 : glob_piece} (h : glob_byteOf a0 = some r0) : Rets Tryd.prog 24 [vb a0] w (fun v w' => v = ag [vi r0.kind, vu r0.set.a0, vu r0.set.a1, vu r0.set.a2, vu r0.set.a3, vB r0.plain, vb r0.c] ∧ Ext w w') := by
 unfold glob_byteOf at h
 refine Rets.enter Tryd.func24 z z ?_
 refine (show WC _ _ _ _ [(0, vb a0)] _ from ?_)
 refine sq (rg (WL.alloc (O := (Lg.O0 (fun _ => False))) 11 [vi 0, vu 0, vu 0, vu 0, vu 0, vB false, vb 0] ty47 z z ?_))
 intro aq ai al Q U
 refine nl (th (sq (rg (wY (ym z) z (wY (yb (vals := [(2, vB true), (3, vb a0)]) (cells := [vi 0, vu 0, vu 0, vu 0, vu 0, vB true, vb a0]) (fe_ z) (by kernel_rfl)) z (WL.alloc (O := ai) 12 [vi 0, vu 0, vu 0, vu 0, vu 0, vB false, vb 0] ty47 z z ?_))))))
 intro F G am n V
 refine WL.store (v := ag [vi 0, vu 0, vu 0, vu 0, vu 0, vB true, vb a0]) (cells' := [vi 0, vu 0, vu 0, vu 0, vu 0, vB true, vb a0]) ty47 z z V z (le_ z) z z ?_
 intro W o X
 refine nl (th (sq (rg (wY (yf fo47_1 z) z (wY (ym z) z ?_)))))
 obtain ⟨aj, h, Z⟩ := bnd h
 refine WL.callJ (vals := [pt F 1, vb a0]) (σ := (UInt64 × UInt64 × UInt64 × UInt64 × Own)) (fun x w' => (x.1, x.2.1, x.2.2.1, x.2.2.2.1) = aj ∧ Stp [12] G W x.2.2.2.2 w' ∧ Blk 12 x.2.2.2.2 w' F 47 [vi 0, vu x.1, vu x.2.1, vu x.2.2.1, vu x.2.2.2.1, vB true, vb a0]) (fun x => tp []) kok28 z z ?_ ?_
 ·refine Rets.enter Tryd.func28 z z ?_
  refine (show WC _ _ _ _ [(0, pt F 1), (1, vb a0)] _ from ?_)
  refine WC.draw 13 G fmix (by kernel_rfl) ?_
  intro an p
  refine WS.y (ym z) z (WS.y (ym z) z (WS.y (Y.quo_b (b := 64) (by decide) z z) z (WS.y (yn z) z ?_)))
  obtain ⟨ar, H, h⟩ := bnd h
  have I := idx_in H
  refine WS.y (Y.indexAddrA ty45 ty43 z z I.1 I.2) z ?_
  have J := X.st p z
  refine WS.y (yl ty43 z z (CellsAt.idxU (xs := ([0, 0, 0, 0] : List UInt64)) (J.cells 1 [vu 0, vu 0, vu 0, vu 0] z) H)) z (WS.y (ym z) z (WS.y (Y.rem_b (b := 64) (by decide) z z) z (WS.y (Y.conv_bu ty5.u ty73.u z) z (WS.y (Y.shl_uu (a := 1) z z) z (WS.y (Y.or_u z z) z (WS.y (yn z) z ?_))))))
  obtain ⟨au, K, h⟩ := bnd h
  have M := idx_in K
  refine WS.y (Y.indexAddrA ty45 ty43 z z M.1 M.2) z (WS.tail ?_)
  obtain ⟨j, aa, h⟩ := lt1 h
  refine WL.ren 14 z (congrArg vu aa.symm) (WL.store4 (xs := ([0, 0, 0, 0] : List UInt64)) (off := 1) (v := j) (fun i => [vi 0, vu (up4 i 0 j 0), vu (up4 i 1 j 0), vu (up4 i 2 j 0), vu (up4 i 3 j 0), vB true, vb a0]) ty43 z z K z J (le_ z) z z z z ?_)
  intro ao S m
  replace m : Blk _ _ _ _ _ [vi 0, vu (up4 ((a0 / 64).toNat : Int) 0 j 0), vu (up4 ((a0 / 64).toNat : Int) 1 j 0), vu (up4 ((a0 / 64).toNat : Int) 2 j 0), vu (up4 ((a0 / 64).toNat : Int) 3 j 0), vB true, vb a0] := m
  refine nl ?_
  exact At.res (.inr z) z .nil ⟨((up4 ((a0 / 64).toNat : Int) 0 j 0), (up4 ((a0 / 64).toNat : Int) 1 j 0), (up4 ((a0 / 64).toNat : Int) 2 j 0), (up4 ((a0 / 64).toNat : Int) 3 j 0), G), ⟨some1 h, (tr_ (su_ p z) (su_ S z)), m⟩, z⟩
 ·rintro ⟨q, r, t, D, ak⟩ ap ⟨rfl, l, P⟩
  replace h := Z
  try dsimp only at h l P
  refine (show WL _ _ _ _ _ ((8, tp []) :: _) _ from ?_)
  refine nl (th (sq (rg (wY (yL ty47 z z (P.cells 0 [vi 0, vu q, vu r, vu t, vu D, vB true, vb a0] z) z) z ?_))))
  have ad := ((U.st n z).st o z).st l z
  refine WL.store (v := ag [vi 0, vu q, vu r, vu t, vu D, vB true, vb a0]) (cells' := [vi 0, vu q, vu r, vu t, vu D, vB true, vb a0]) ty47 z z ad z (le_ z) z z ?_
  intro ae T af
  refine nl (th (rt ?_))
  obtain rfl := some1 h
  have ah : Stp [11, 12] (Lg.O0 (fun _ => False)) w ak ae := (tr_ (su_ Q z) (tr_ (su_ n z) (tr_ (su_ o z) (tr_ (su_ l z) (su_ T z)))))
  exact At.res (.inl z) z (.cell z (af.runAg 0 [vi 0, vu q, vu r, vu t, vu D, vB true, vb a0] ty47 z z z) .nil) ⟨z, (se_ ah z z)⟩
theorem c_glob_next {A : Nat → Prop} {a0 : List UInt8} {a1 : Int} {w : World} (hG0 : CellsAt w 0 0 [vi 0, vi 0]) (hGA0 : A 0) {r0 : glob_piece} {r1 : Int} {r2 : glob_fault} (h : glob_next a0 a1 = some (r0, r1, r2)) : Rets Tryd.prog 15 [vs a0, vi a1] w (fun v w' => v = Value.tuple (List.toArray [ag [vi r0.kind, vu r0.set.a0, vu r0.set.a1, vu r0.set.a2, vu r0.set.a3, vB r0.plain, vb r0.c], vi r1, ag [vi r2.at_, vi r2.e]]) ∧ Ext w w') := by
 unfold glob_next at h
 refine Rets.enter Tryd.func15 z z ?_
 have T : CAt [0, 1] (Lg.O0 A) w 0 0 [vi 0, vi 0] := CAt.glob hG0 (if_pos hGA0)
 refine (show WC _ _ _ _ [(0, vs a0), (1, vi a1)] _ from ?_)
 refine sq (rg (WL.alloc (O := (Lg.O0 A)) 11 [vi 0, vu 0, vu 0, vu 0, vu 0, vB false, vb 0] ty47 z z ?_))
 intro dW c4 dG o K
 refine wY (ya z) z (WL.alloc (O := c4) 12 [vi 0, vi 0] ty49 z z ?_)
 intro dX D dH j M
 refine nl (th (sq (sq (rg (wY (ym z) z (wY (ym z) z ?_))))))
 obtain ⟨dY, cv, h⟩ := bnd h
 refine wY (Y.index_s ty9 z z cv) z (nl (th (WC.block (sq (rg (wY (Y.eql_b (b := 42) z z) z ?_))))))
 obtain ⟨dZ, cw, h⟩ := lt1 h
 refine WL.yE (ya z) (congrArg vB cw.symm) z (nl (th ?_))
 rcases cnd h with ⟨ax, h⟩ | ⟨ax, h⟩
 ·refine WC.condT' z ax (sq (WC.drawH [11] [0, 1, 2, 3] D 5 fmix z (by kernel_rfl) ?_))
  intro dI Q
  refine WD.y 0 z (by kernel_rfl) (fun _ _ _ => yb (vals := [(0, vi 1)]) (cells := [vi 1, vu 0, vu 0, vu 0, vu 0, vB false, vb 0]) (fe_ z) (by kernel_rfl)) z (WD.y 1 z (by kernel_rfl) (fun dJ d0 aZ => have cx := T.st o z; have cy := cx.st j z; have cz := cy.st Q z; have cA := cz.st aZ z; yL ty49 z z cA.at_ z) z (WD.heavy 2 z (by kernel_rfl) ?_))
  have cD := (K.st j z).st Q z
  refine WL.store (v := ag [vi 1, vu 0, vu 0, vu 0, vu 0, vB false, vb 0]) (cells' := [vi 1, vu 0, vu 0, vu 0, vu 0, vB false, vb 0]) ty47 z z cD z (le_ z) z z ?_
  intro dK ah cE
  refine nl (At.dq (su_ ah z) (WD.y 3 z (by kernel_rfl) (fun _ _ _ => ya z) z (WD.phase [12] [0, 1, 2, 3, 4] (by kernel_rfl) (by kernel_rfl) (WD.heavy 4 z (by kernel_rfl) ?_))))
  have cG := (M.st Q z).st ah z
  refine WL.store (v := ag [vi 0, vi 0]) (cells' := [vi 0, vi 0]) ty49 z z cG z (le_ z) z z ?_
  intro cH ai cI
  refine nl (At.dq (su_ ai z) (WD.done_ (by kernel_rfl) (th (rt (At.inBlockR (At.thenR ?_))))))
  obtain ⟨rfl, rfl, rfl⟩ := tup3 h
  have cJ : Stp [11, 12] (Lg.O0 A) w D cH := (tr_ (su_ o z) (tr_ (su_ j z) (tr_ (su_ Q z) (tr_ (su_ ah z) (su_ ai z)))))
  have cK := cE.st ai z
  exact At.res (.inl z) z (.cell z (cK.runAg 0 [vi 1, vu 0, vu 0, vu 0, vu 0, vB false, vb 0] ty47 z z z) (.tmp z (.cell z (cI.runAg 0 [vi 0, vi 0] ty49 z z z) .nil))) ⟨z, (se_ cJ z z)⟩
 ·refine WC.condF' z ax (sq (rg (wY (Y.eql_b (b := 63) z z) z ?_)))
  obtain ⟨d1, cL, h⟩ := lt1 h
  refine WL.yE (ya z) (congrArg vB cL.symm) z (nl (th ?_))
  rcases cnd h with ⟨ay, h⟩ | ⟨ay, h⟩
  ·refine WC.condT' z ay (sq (rg (WL.alloc (O := D) 13 [vi 0, vu 0, vu 0, vu 0, vu 0, vB false, vb 0] ty47 z z ?_)))
   intro t aD az S cM
   refine nl (th (sq (rg (wY (yf fo47_1 z) z ?_))))
   obtain ⟨c5, h, cN⟩ := bnd h
   refine WL.callJ (vals := [pt t 1, vb 0, vb 255]) (σ := (UInt64 × UInt64 × UInt64 × UInt64 × Own)) (fun x w' => (x.1, x.2.1, x.2.2.1, x.2.2.2.1) = c5 ∧ Stp [13] aD az x.2.2.2.2 w' ∧ Blk 13 x.2.2.2.2 w' t 47 [vi 0, vu x.1, vu x.2.1, vu x.2.2.1, vu x.2.2.2.1, vB false, vb 0]) (fun x => tp []) kok22 z z ?_ ?_
   ·refine Rets.enter Tryd.func22 z z ?_
    refine (show WC _ _ _ _ [(0, pt t 1), (1, vb 0), (2, vb 255)] _ from ?_)
    refine sq (rg (wY (ym z) z (wY (Y.conv_bi ty5.u ty3.u z) z ?_)))
    obtain ⟨c6, cO, h⟩ := lt1 h
    refine WL.yE (ya z) (congrArg vi cO.symm) z (nl (th (WC.block ?_)))
    obtain ⟨cs, h, cP⟩ := flow1 h
    obtain ⟨ct, h⟩ := loop_some h
    refine WC.joinB 0 (σ := (UInt64 × UInt64 × UInt64 × UInt64 × Own)) (fun x w' => cs = .go (x.1, x.2.1, x.2.2.1, x.2.2.2.1) ∧ Stp [13] aD az x.2.2.2.2 w' ∧ Blk 13 x.2.2.2.2 w' t 47 [vi 0, vu x.1, vu x.2.1, vu x.2.2.1, vu x.2.2.2.1, vB false, vb 0]) (fun x => []) ?_ ?_
    ·refine WC.loop (σ := (UInt64 × UInt64 × UInt64 × UInt64 × Int × Own)) (fun x k w' => loopN k (glob_next_lp1) (x.1, x.2.1, x.2.2.1, x.2.2.2.1, x.2.2.2.2.1) = some cs ∧ Stp [13] aD az x.2.2.2.2.2 w' ∧ Blk 13 x.2.2.2.2.2 w' t 47 [vi 0, vu x.1, vu x.2.1, vu x.2.2.1, vu x.2.2.2.1, vB false, vb 0]) (fun x => [(0, pt t 1), (2, vb 255), (6, vi x.2.2.2.2.1)]) (0, 0, 0, 0, c6, aD) ct (.cons z (.cons z (.cons z .nil))) ⟨h, (sr_ _ _ _), cM⟩ ?_
     rintro ⟨U, V, W, X, q, aE⟩ ct cQ ⟨h, aj, aA⟩
     obtain ⟨c7, d2, rfl, h, aP⟩ := rnd1 h
     unfold glob_next_lp1 at h
     try dsimp only at h aj aA
     refine (show WC _ _ _ _ [(0, pt t 1), (2, vb 255), (6, vi q)] _ from ?_)
     refine sq (sq (rg (wY (ym z) z (wY (ym z) z (wY (Y.conv_bi ty5.u ty3.u z) z (wY (Y.leq_i z z) z (nl (th ?_))))))))
     rcases cnd h with ⟨aC, h⟩ | ⟨aC, h⟩
     ·refine WC.condT' z aC (sk (th (sq (WC.block (rg (wY (ym z) z (wY (ym z) z (wY (Y.conv_ib ty3.u ty5.u z) z ?_))))))))
      obtain ⟨cR, h, a2⟩ := bnd h
      refine WL.callJ (vals := [pt t 1, vb (toU8 q)]) (σ := (UInt64 × UInt64 × UInt64 × UInt64 × Own)) (fun x w' => (x.1, x.2.1, x.2.2.1, x.2.2.2.1) = cR ∧ Stp [13] aE cQ x.2.2.2.2 w' ∧ Blk 13 x.2.2.2.2 w' t 47 [vi 0, vu x.1, vu x.2.1, vu x.2.2.1, vu x.2.2.2.1, vB false, vb 0]) (fun x => tp []) kok28 z z ?_ ?_
      ·refine Rets.enter Tryd.func28 z z ?_
       refine (show WC _ _ _ _ [(0, pt t 1), (1, vb (toU8 q))] _ from ?_)
       refine WC.draw 13 aE fmix (by kernel_rfl) ?_
       intro di ao
       refine WS.y (ym z) z (WS.y (ym z) z (WS.y (Y.quo_b (b := 64) (by decide) z z) z (WS.y (yn z) z ?_)))
       obtain ⟨dL, aF, h⟩ := bnd h
       have aG := idx_in aF
       refine WS.y (Y.indexAddrA ty45 ty43 z z aG.1 aG.2) z ?_
       have aH := aA.st ao z
       refine WS.y (yl ty43 z z (CellsAt.idxU (xs := ([U, V, W, X] : List UInt64)) (aH.cells 1 [vu U, vu V, vu W, vu X] z) aF)) z (WS.y (ym z) z (WS.y (Y.rem_b (b := 64) (by decide) z z) z (WS.y (Y.conv_bu ty5.u ty73.u z) z (WS.y (Y.shl_uu (a := 1) z z) z (WS.y (Y.or_u z z) z (WS.y (yn z) z ?_))))))
       obtain ⟨dM, aI, h⟩ := bnd h
       have aJ := idx_in aI
       refine WS.y (Y.indexAddrA ty45 ty43 z z aJ.1 aJ.2) z (WS.tail ?_)
       obtain ⟨p, a3, h⟩ := lt1 h
       refine WL.ren 14 z (congrArg vu a3.symm) (WL.store4 (xs := ([U, V, W, X] : List UInt64)) (off := 1) (v := p) (fun i => [vi 0, vu (up4 i 0 p U), vu (up4 i 1 p V), vu (up4 i 2 p W), vu (up4 i 3 p X), vB false, vb 0]) ty43 z z aI z aH (le_ z) z z z z ?_)
       intro dj aQ ak
       replace ak : Blk _ _ _ _ _ [vi 0, vu (up4 (((toU8 q) / 64).toNat : Int) 0 p U), vu (up4 (((toU8 q) / 64).toNat : Int) 1 p V), vu (up4 (((toU8 q) / 64).toNat : Int) 2 p W), vu (up4 (((toU8 q) / 64).toNat : Int) 3 p X), vB false, vb 0] := ak
       refine nl ?_
       exact At.res (.inr z) z .nil ⟨((up4 (((toU8 q) / 64).toNat : Int) 0 p U), (up4 (((toU8 q) / 64).toNat : Int) 1 p V), (up4 (((toU8 q) / 64).toNat : Int) 2 p W), (up4 (((toU8 q) / 64).toNat : Int) 3 p X), aE), ⟨some1 h, (tr_ (su_ ao z) (su_ aQ z)), ak⟩, z⟩
      ·rintro ⟨c8, c9, da, db, dc⟩ dk ⟨rfl, ap, aR⟩
       replace h := a2
       try dsimp only at h ap aR
       refine (show WL _ _ _ _ _ ((18, tp []) :: _) _ from ?_)
       refine nl (At.inBlock (th (rg (wY (ym z) z (wY (Y.add_i z z) z ?_)))))
       obtain ⟨cS, a4, h⟩ := lt1 h
       refine WL.yE (ya z) (congrArg vi a4.symm) z (nl ?_)
       exact At.round (c8, c9, da, db, cS, dc) c7 (Nat.lt_succ_self _) ⟨next1 h aP, (tr_ (su_ aj z) (su_ ap z)), aR⟩ (.cons z (.cons z (.cons z .nil)))
     ·refine WC.condF' z aC (WC.exit (At.thenX (At.loopX ?_)))
      exact At.hitB (σ := (UInt64 × UInt64 × UInt64 × UInt64 × Own)) (U, V, W, X, aE) ⟨brk1 h aP, (su_ aj z), aA⟩ .nil
    ·rintro ⟨dd, de, df, dg, dh⟩ dN ⟨rfl, aK, aS⟩
     replace h := flowK_go cP
     try dsimp only at h aK aS
     refine (show At _ _ _ [] _ from ?_)
     refine At.inBlockHit ?_
     exact At.res (.inr z) z .nil ⟨(dd, de, df, dg, dh), ⟨some1 h, (su_ aK z), aS⟩, z⟩
   ·rintro ⟨aL, aM, aN, aO, cu⟩ dO ⟨rfl, F, aT⟩
    replace h := cN
    try dsimp only at h F aT
    refine (show WL _ _ _ _ _ ((18, tp []) :: _) _ from ?_)
    refine nl (th (sq (WC.drawH [11] [0, 1, 2, 3] cu 5 fmix z (by kernel_rfl) ?_)))
    intro dl r
    refine WD.y 0 z (by kernel_rfl) (fun dm dP aU => have a5 := aT.st r z; have a6 := a5.st aU z; yL ty47 z z (a6.cells 0 [vi 0, vu aL, vu aM, vu aN, vu aO, vB false, vb 0] z) z) z (WD.y 1 z (by kernel_rfl) (fun dn dQ aW => have a7 := T.st o z; have a8 := a7.st j z; have a9 := a8.st S z; have ba := a9.st F z; have bb := ba.st r z; have bc := bb.st aW z; yL ty49 z z bc.at_ z) z (WD.heavy 2 z (by kernel_rfl) ?_))
    have bh := (((K.st j z).st S z).st F z).st r z
    refine WL.store (v := ag [vi 0, vu aL, vu aM, vu aN, vu aO, vB false, vb 0]) (cells' := [vi 0, vu aL, vu aM, vu aN, vu aO, vB false, vb 0]) ty47 z z bh z (le_ z) z z ?_
    intro dp Z bi
    refine nl (At.dq (su_ Z z) (WD.y 3 z (by kernel_rfl) (fun _ _ _ => ya z) z (WD.phase [12] [0, 1, 2, 3, 4] (by kernel_rfl) (by kernel_rfl) (WD.heavy 4 z (by kernel_rfl) ?_))))
    have bm := (((M.st S z).st F z).st r z).st Z z
    refine WL.store (v := ag [vi 0, vi 0]) (cells' := [vi 0, vi 0]) ty49 z z bm z (le_ z) z z ?_
    intro bn aa bo
    refine nl (At.dq (su_ aa z) (WD.done_ (by kernel_rfl) (th (rt (At.inBlockR (At.thenR ?_))))))
    obtain ⟨rfl, rfl, rfl⟩ := tup3 h
    have bp : Stp [11, 12, 13] (Lg.O0 A) w cu bn := (tr_ (su_ o z) (tr_ (su_ j z) (tr_ (su_ S z) (tr_ (su_ F z) (tr_ (su_ r z) (tr_ (su_ Z z) (su_ aa z)))))))
    have bq := bi.st aa z
    exact At.res (.inl z) z (.cell z (bq.runAg 0 [vi 0, vu aL, vu aM, vu aN, vu aO, vB false, vb 0] ty47 z z z) (.tmp z (.cell z (bo.runAg 0 [vi 0, vi 0] ty49 z z z) .nil))) ⟨z, (se_ bp z z)⟩
  ·refine WC.condF' z ay (sq (rg (wY (Y.eql_b (b := 91) z z) z ?_)))
   obtain ⟨dR, br, h⟩ := lt1 h
   refine WL.yE (ya z) (congrArg vB br.symm) z (nl (th ?_))
   rcases cnd h with ⟨al, h⟩ | ⟨al, h⟩
   ·refine WC.condT' z al (sq (rg (wY (ym z) z (wY (ym z) z ?_))))
    have bt := (T.st o z).st j z
    obtain ⟨⟨l, dS, P⟩, bu, h⟩ := bnd h
    refine WL.call (vals := [vs a0, vi a1]) kok23 z z (c_glob_class (A := fun _ => True) bt.at_ trivial bu) ?_
    rintro dr ds ⟨rfl, bw⟩
    obtain ⟨cT, cY, cZ, ab⟩ := adoptE D (fun k => 1) bw
    refine wY (yx z z) z (wY (yx z z) z (wY (yx z z) z ?_))
    have bz := (K.st j z).st ab z
    refine WL.store (v := ag [vi l.kind, vu l.set.a0, vu l.set.a1, vu l.set.a2, vu l.set.a3, vB l.plain, vb l.c]) (cells' := [vi l.kind, vu l.set.a0, vu l.set.a1, vu l.set.a2, vu l.set.a3, vB l.plain, vb l.c]) ty47 z z bz z (le_ z) z z ?_
    intro dt aq bA
    refine wY (ya z) z ?_
    have bC := (M.st ab z).st aq z
    refine WL.store (v := ag [vi P.at_, vi P.e]) (cells' := [vi P.at_, vi P.e]) ty49 z z bC z (le_ z) z z ?_
    intro bD ar bE
    refine nl (th (rt (At.inBlockR (At.thenR ?_))))
    obtain ⟨rfl, rfl, rfl⟩ := tup3 h
    have bF : Stp [11, 12] (Lg.O0 A) w cT bD := (tr_ (su_ o z) (tr_ (su_ j z) (tr_ (su_ ab z) (tr_ (su_ aq z) (su_ ar z)))))
    have bG := bA.st ar z
    exact At.res (.inl z) z (.cell z (bG.runAg 0 [vi l.kind, vu l.set.a0, vu l.set.a1, vu l.set.a2, vu l.set.a3, vB l.plain, vb l.c] ty47 z z z) (.tmp z (.cell z (bE.runAg 0 [vi P.at_, vi P.e] ty49 z z z) .nil))) ⟨z, (se_ bF z z)⟩
   ·refine WC.condF' z al (sq (rg (wY (Y.eql_b (b := 92) z z) z ?_)))
    obtain ⟨dT, bH, h⟩ := lt1 h
    refine WL.yE (ya z) (congrArg vB bH.symm) z (nl (th ?_))
    rcases cnd h with ⟨am, h⟩ | ⟨am, h⟩
    ·refine WC.condT' z am (sq (sq (rg (wY (ym z) z (wY (Y.add_i z z) z (wY (ym z) z (wY (Y.len_s ty9 z) z (wY (Y.eql_i z z) z (nl ?_)))))))))
     refine th ?_
     rcases cnd h with ⟨an, h⟩ | ⟨an, h⟩
     ·refine WC.condT' z an (sq (rg (wY (yb (vals := []) (cells := [vi 0, vu 0, vu 0, vu 0, vu 0, vB false, vb 0]) (fe_ z) (by kernel_rfl)) z (wY (ym z) z (wY (yb (vals := [(0, vi a1), (1, vi 2)]) (cells := [vi a1, vi 2]) (fe_ z) (by kernel_rfl)) z ?_)))))
      have bI := K.st j z
      refine WL.store (v := ag [vi 0, vu 0, vu 0, vu 0, vu 0, vB false, vb 0]) (cells' := [vi 0, vu 0, vu 0, vu 0, vu 0, vB false, vb 0]) ty47 z z bI z (le_ z) z z ?_
      intro du au bJ
      refine wY (ya z) z ?_
      have bK := M.st au z
      refine WL.store (v := ag [vi a1, vi 2]) (cells' := [vi a1, vi 2]) ty49 z z bK z (le_ z) z z ?_
      intro bL av bM
      refine nl (th (rt (At.thenR (At.inBlockR (At.thenR ?_)))))
      obtain ⟨rfl, rfl, rfl⟩ := tup3 h
      have bO : Stp [11, 12] (Lg.O0 A) w D bL := (tr_ (su_ o z) (tr_ (su_ j z) (tr_ (su_ au z) (su_ av z))))
      have bP := bJ.st av z
      exact At.res (.inl z) z (.cell z (bP.runAg 0 [vi 0, vu 0, vu 0, vu 0, vu 0, vB false, vb 0] ty47 z z z) (.tmp z (.cell z (bM.runAg 0 [vi a1, vi 2] ty49 z z z) .nil))) ⟨z, (se_ bO z z)⟩
     ·refine WC.condF' z an (sk (th (sq (WC.drawH [11] [0, 1, 2, 3, 4, 5, 6, 7] D 9 fmix z (by kernel_rfl) ?_))))
      intro dw G
      refine WD.y 0 z (by kernel_rfl) (fun _ _ _ => ym z) z (WD.y 1 z (by kernel_rfl) (fun _ _ _ => ym z) z (WD.y 2 z (by kernel_rfl) (fun _ _ _ => Y.add_i z z) z ?_))
      obtain ⟨cU, bQ, h⟩ := bnd h
      refine WD.y 3 z (by kernel_rfl) (fun _ _ _ => Y.index_s ty9 z z bQ) z (WD.y 5 z (by kernel_rfl) (fun dx dU aX => have bR := T.st o z; have bS := bR.st j z; have bT := bS.st G z; have bU := bT.st aX z; yL ty49 z z bU.at_ z) z (WD.heavy 4 z (by kernel_rfl) ?_))
      obtain ⟨m, bW, h⟩ := bnd h
      refine WL.call (vals := [vb cU]) kok24 z z (c_glob_byteOf bW) ?_
      rintro dy dz ⟨rfl, bX⟩
      obtain ⟨cV, c0, c1, H⟩ := adoptE D (fun k => 1) bX
      refine nl (At.dq (su_ H z) (WD.heavy 6 z (by kernel_rfl) ?_))
      have b0 := ((K.st j z).st G z).st H z
      refine WL.store (v := ag [vi m.kind, vu m.set.a0, vu m.set.a1, vu m.set.a2, vu m.set.a3, vB m.plain, vb m.c]) (cells' := [vi m.kind, vu m.set.a0, vu m.set.a1, vu m.set.a2, vu m.set.a3, vB m.plain, vb m.c]) ty47 z z b0 z (le_ z) z z ?_
      intro dA ac b1
      refine nl (At.dq (su_ ac z) (WD.y 7 z (by kernel_rfl) (fun _ _ _ => ya z) z (WD.phase [12] [0, 1, 2, 3, 4, 5, 6, 7, 8] (by kernel_rfl) (by kernel_rfl) (WD.heavy 8 z (by kernel_rfl) ?_))))
      have b4 := ((M.st G z).st H z).st ac z
      refine WL.store (v := ag [vi 0, vi 0]) (cells' := [vi 0, vi 0]) ty49 z z b4 z (le_ z) z z ?_
      intro b5 ad b6
      refine nl (At.dq (su_ ad z) (WD.done_ (by kernel_rfl) (th (rt (At.inBlockR (At.thenR ?_))))))
      obtain ⟨rfl, rfl, rfl⟩ := tup3 h
      have b7 : Stp [11, 12] (Lg.O0 A) w cV b5 := (tr_ (su_ o z) (tr_ (su_ j z) (tr_ (su_ G z) (tr_ (su_ H z) (tr_ (su_ ac z) (su_ ad z))))))
      have b8 := b1.st ad z
      exact At.res (.inl z) z (.cell z (b8.runAg 0 [vi m.kind, vu m.set.a0, vu m.set.a1, vu m.set.a2, vu m.set.a3, vB m.plain, vb m.c] ty47 z z z) (.tmp z (.cell z (b6.runAg 0 [vi 0, vi 0] ty49 z z z) .nil))) ⟨z, (se_ b7 z z)⟩
    ·refine WC.condF' z am (sk (At.inBlock (th (sq (WC.drawH [11] [0, 1, 2, 3, 4, 5, 6] D 8 fmix z (by kernel_rfl) ?_)))))
     intro dB I
     refine WD.y 0 z (by kernel_rfl) (fun _ _ _ => ym z) z (WD.y 1 z (by kernel_rfl) (fun _ _ _ => ym z) z ?_)
     obtain ⟨cW, b9, h⟩ := bnd h
     refine WD.y 2 z (by kernel_rfl) (fun _ _ _ => Y.index_s ty9 z z b9) z (WD.y 4 z (by kernel_rfl) (fun dC dV aY => have ca := T.st o z; have cb := ca.st j z; have cc := cb.st I z; have cd := cc.st aY z; yL ty49 z z cd.at_ z) z (WD.heavy 3 z (by kernel_rfl) ?_))
     obtain ⟨n, ce, h⟩ := bnd h
     refine WL.call (vals := [vb cW]) kok24 z z (c_glob_byteOf ce) ?_
     rintro dD dE ⟨rfl, cf⟩
     obtain ⟨cX, c2, c3, J⟩ := adoptE D (fun k => 1) cf
     refine nl (At.dq (su_ J z) (WD.heavy 5 z (by kernel_rfl) ?_))
     have ci := ((K.st j z).st I z).st J z
     refine WL.store (v := ag [vi n.kind, vu n.set.a0, vu n.set.a1, vu n.set.a2, vu n.set.a3, vB n.plain, vb n.c]) (cells' := [vi n.kind, vu n.set.a0, vu n.set.a1, vu n.set.a2, vu n.set.a3, vB n.plain, vb n.c]) ty47 z z ci z (le_ z) z z ?_
     intro dF ae cj
     refine nl (At.dq (su_ ae z) (WD.y 6 z (by kernel_rfl) (fun _ _ _ => ya z) z (WD.phase [12] [0, 1, 2, 3, 4, 5, 6, 7] (by kernel_rfl) (by kernel_rfl) (WD.heavy 7 z (by kernel_rfl) ?_))))
     have cm := ((M.st I z).st J z).st ae z
     refine WL.store (v := ag [vi 0, vi 0]) (cells' := [vi 0, vi 0]) ty49 z z cm z (le_ z) z z ?_
     intro cn af co
     refine nl (At.dq (su_ af z) (WD.done_ (by kernel_rfl) (th (rt ?_))))
     obtain ⟨rfl, rfl, rfl⟩ := tup3 h
     have cq : Stp [11, 12] (Lg.O0 A) w cX cn := (tr_ (su_ o z) (tr_ (su_ j z) (tr_ (su_ I z) (tr_ (su_ J z) (tr_ (su_ ae z) (su_ af z))))))
     have cr := cj.st af z
     exact At.res (.inl z) z (.cell z (cr.runAg 0 [vi n.kind, vu n.set.a0, vu n.set.a1, vu n.set.a2, vu n.set.a3, vB n.plain, vb n.c] ty47 z z z) (.tmp z (.cell z (co.runAg 0 [vi 0, vi 0] ty49 z z z) .nil))) ⟨z, (se_ cq z z)⟩
theorem c_glob_Compile {A : Nat → Prop} {a0 : List UInt8} {w : World} (hG0 : CellsAt w 0 0 [vi 0, vi 0]) (hGA0 : A 0) {r0 : Option glob_Glob} {r1 : Int} {r2 : Int} (h : glob_Compile a0 = some (r0, r1, r2)) : Rets Tryd.prog 7 [vs a0] w (fun v w' => ∃ (u0 : Value), v = tp [u0, vi r1, vi r2] ∧ Ext w w' ∧ OptP u0 r0 fun d => ∃ (p0 : Nat) (af : Value), u0 = .pointer (some ⟨p0, 0, none⟩) ∧ (w'.heap[p0]? = some (.cells (List.toArray [vs d.text, af]) 42 (0, 0)) ∧ w.heap.size ≤ p0) ∧ Sl rep_glob_piece w' (fun k => w.heap.size ≤ k ∧ k ≠ p0) af d.pieces) := by
 unfold glob_Compile at h
 refine Rets.enter Tryd.func7 z z ?_
 have ba : CAt [0, 1] (Lg.O0 A) w 0 0 [vi 0, vi 0] := CAt.glob hG0 (if_pos hGA0)
 refine (show WC _ _ _ _ [(0, vs a0)] _ from ?_)
 refine sq (rg (wY (ya z) z (wY (ya z) z (wY (ya z) z (nl (th (sq (sq (rg ?_)))))))))
 refine wY (ym z) z (wY (Y.len_s ty9 z) z (wY (Y.gtr_i z z) z (nl (th ?_))))
 rcases cnd h with ⟨Q, h⟩ | ⟨Q, h⟩
 ·refine WC.condT' z Q (sq (rg (wY (ya z) z (wY (ya z) z (wY (ya z) z (nl (th (rt (At.thenR ?_)))))))))
  obtain ⟨rfl, rfl, rfl⟩ := tup3 h
  have bb : Stp [] (Lg.O0 A) w (Lg.O0 A) w := (sr_ _ _ _)
  exact At.res (.inl z) z (.tmp z (.tmp z (.tmp z .nil))) ⟨Value.pointer none, z, (se_ bb z z), z⟩
 ·refine WC.condF' z Q (sk (th (sq (rg (wY (ym z) z (wY (yb (vals := [(0, vs a0)]) (cells := [vs a0, sn]) (fe_ z) (by kernel_rfl)) z (WL.box (O := (Lg.O0 A)) 11 [vs a0, sn] z z z ?_)))))))
  intro D ah ai I bc
  refine wY (ya z) z (nl (th (sq (sq (rg (wY (ya z) z (nl (th (WC.block ?_)))))))))
  obtain ⟨a6, h, aj⟩ := flow1 h
  obtain ⟨a7, h⟩ := loop_some h
  refine WC.joinB 0 (σ := (List glob_piece × Own × Value)) (fun x w' => a6 = .go x.1 ∧ Stp [11, 12, 13, 15, 1001] ah ai x.2.1 w' ∧ OwnSl 1002 rep_glob_piece 47 x.2.1 w' x.2.2 x.1 ∧ Blk 11 x.2.1 w' D 42 [vs a0, x.2.2]) (fun x => [(2, pt D 0)]) ?_ ?_
  ·refine WC.loop (σ := (List glob_piece × Int × Own × Value)) (fun x k w' => loopN k (glob_Compile_lp1 a0) (x.1, x.2.1) = some a6 ∧ Stp [11, 12, 13, 15, 1001] ah ai x.2.2.1 w' ∧ OwnSl 1001 rep_glob_piece 47 x.2.2.1 w' x.2.2.2 x.1 ∧ Blk 11 x.2.2.1 w' D 42 [vs a0, x.2.2.2]) (fun x => [(0, vs a0), (2, pt D 0), (5, vi x.2.1)]) ([], 0, ah, sn) a7 (.cons z (.cons z (.cons z .nil))) ⟨h, (sr_ _ _ _), (OwnSl.nil 1001 rep_glob_piece 47), bc⟩ ?_
   rintro ⟨bB, a8, bC, bD⟩ a7 bP ⟨h, q, S, J⟩
   obtain ⟨bE, b3, rfl, h, T⟩ := rnd1 h
   unfold glob_Compile_lp1 at h
   try dsimp only at h q S J
   refine (show WC _ _ _ _ [(0, vs a0), (2, pt D 0), (5, vi a8)] _ from ?_)
   refine sq (sq (rg (wY (ym z) z (wY (ym z) z (wY (Y.len_s ty9 z) z (wY (Y.lss_i z z) z (nl (th ?_))))))))
   rcases cnd h with ⟨U, h⟩ | ⟨U, h⟩
   ·refine WC.condT' z U (sk (th (WC.block (sq (rg (wY (ym z) z (wY (ym z) z ?_)))))))
    have ak := (ba.st I z).st q z
    obtain ⟨⟨j, b4, F⟩, bf, h⟩ := bnd h
    refine WL.call (vals := [vs a0, vi a8]) kok15 z z (c_glob_next (A := fun _ => True) ak.at_ trivial bf) ?_
    rintro bQ bR ⟨rfl, bg⟩
    obtain ⟨bF, bG, bH, o⟩ := adoptE bC (fun k => 1) bg
    refine wY (ym z) z (wY (yx z z) z (wY (yx z z) z (wY (yx z z) z (WL.alloc (O := bF) 12 [vi 0, vu 0, vu 0, vu 0, vu 0, vB false, vb 0] ty47 z z ?_))))
    intro b5 bI bS p bh
    refine WL.alloc (O := bI) 13 [vi 0, vi 0] ty49 z z ?_
    intro b6 aa bT l bi
    have bj := bh.st l z
    refine WL.store (v := ag [vi j.kind, vu j.set.a0, vu j.set.a1, vu j.set.a2, vu j.set.a3, vB j.plain, vb j.c]) (cells' := [vi j.kind, vu j.set.a0, vu j.set.a1, vu j.set.a2, vu j.set.a3, vB j.plain, vb j.c]) ty47 z z bj z (le_ z) z z ?_
    intro bU m bk
    refine wY (ya z) z ?_
    have bl := bi.st m z
    refine WL.store (v := ag [vi F.at_, vi F.e]) (cells' := [vi F.at_, vi F.e]) ty49 z z bl z (le_ z) z z ?_
    intro bW n al
    refine nl (th (sq (sq (rg (wY (yL ty49 z z (al.cells 0 [vi F.at_, vi F.e] z) z) z ?_)))))
    have bq := ((((ak.st o z).st p z).st l z).st m z).st n z
    refine wY (yL ty49 z z bq.at_ z) z (wY (Y.neq_ag agok49 z z (EqF.cons (by decide) (fun w => run_part_plain w (by kernel_rfl) z) (fun w => run_part_plain w (by kernel_rfl) z) (EqV.i (a := F.at_) (b := 0) ty3.u) (EqF.cons (by decide) (fun w => run_part_plain w (by kernel_rfl) z) (fun w => run_part_plain w (by kernel_rfl) z) (EqV.i (a := F.e) (b := 0) ty24.u) EqF.nil))) z (nl (th ?_)))
    rcases cnd h with ⟨V, h⟩ | ⟨V, h⟩
    ·refine WC.condT' z V (sq (WC.draw 6 aa fmix (by kernel_rfl) ?_))
     intro br ab
     refine WS.y (yf fo49_0 z) z ?_
     have am := al.st ab z
     refine WS.y (yl ty3 z z (am.cell 0 _ z)) z (WS.y (yf fo49_1 z) z (WS.y (yl ty24 z z (am.cell 1 _ z)) z (WS.y (ya z) z (WS.y (ya z) z (WS.tail (wY (ya z) z (nl (th (rt ?_)))))))))
     refine At.thenR (At.inBlockR (At.loopR ?_))
     have h := outr1 h T aj
     refine At.joinBR (At.inBlockR (At.thenR ?_))
     obtain ⟨rfl, rfl, rfl⟩ := tup3 h
     have bs : Stp [11, 12, 13, 15, 1001] (Lg.O0 A) w aa br := (tr_ (su_ I z) (tr_ (su_ q z) (tr_ (su_ o z) (tr_ (su_ p z) (tr_ (su_ l z) (tr_ (su_ m z) (tr_ (su_ n z) (su_ ab z))))))))
     exact At.res (.inl z) z (.tmp z (.tmp z (.tmp z .nil))) ⟨Value.pointer none, z, (se_ bs z z), z⟩
    ·refine WC.condF' z V (sk (th (sq (WC.drawH [1001] [0, 1, 2, 3, 4, 5, 6, 7, 8, 9] aa 11 fmix z (by kernel_rfl) ?_))))
     intro bX r
     refine WD.y 0 z (by kernel_rfl) (fun _ _ _ => ym z) z (WD.y 1 z (by kernel_rfl) (fun _ _ _ => ym z) z (WD.y 2 z (by kernel_rfl) (fun _ _ _ => yn z) z (WD.y 3 z (by kernel_rfl) (fun _ _ _ => yf fo42_1 z) z (WD.y 4 z (by kernel_rfl) (fun bY b7 au => have bt := J.st o z; have av := bt.st p z; have ax := av.st l z; have ay := ax.st m z; have az := ay.st n z; have aA := az.st r z; have aC := aA.st au z; yl ty40 z z (aC.cell 1 _ z)) z (WD.y 5 z (by kernel_rfl) (fun bK bZ an => have aD := bk.st n z; have aE := aD.st r z; have aF := aE.st an z; yL ty47 z z (aF.cells 0 [vi j.kind, vu j.set.a0, vu j.set.a1, vu j.set.a2, vu j.set.a3, vB j.plain, vb j.c] z) z) z (WD.heavy 6 z (by kernel_rfl) (WL.buildSlice (O := aa) (R := rep_glob_piece) (vals := [(0, ag [vi j.kind, vu j.set.a0, vu j.set.a1, vu j.set.a2, vu j.set.a3, vB j.plain, vb j.c])]) 14 [vi j.kind, vu j.set.a0, vu j.set.a1, vu j.set.a2, vu j.set.a3, vB j.plain, vb j.c] (xs := [j]) (by decide) ty40 ty47 (by decide) (by decide) (fe_ z) (by kernel_rfl) z ⟨[vi j.kind, vu j.set.a0, vu j.set.a1, vu j.set.a2, vu j.set.a3, vB j.plain, vb j.c], [], z, ⟨[vi j.kind], [vu j.set.a0, vu j.set.a1, vu j.set.a2, vu j.set.a3, vB j.plain, vb j.c], z, z, ⟨[vu j.set.a0, vu j.set.a1, vu j.set.a2, vu j.set.a3], [vB j.plain, vb j.c], z, ⟨[vu j.set.a0], [vu j.set.a1, vu j.set.a2, vu j.set.a3], z, z, ⟨[vu j.set.a1], [vu j.set.a2, vu j.set.a3], z, z, ⟨[vu j.set.a2], [vu j.set.a3], z, z, z⟩⟩⟩, ⟨[vB j.plain], [vb j.c], z, z, z⟩⟩⟩, z⟩ z ?_)))))))
     intro b0 b1 bL t aG
     refine nl (At.dq (su_ t z) (WD.heavy 7 z (by kernel_rfl) ?_))
     obtain ⟨aH, ao, h⟩ := bnd h
     have aO := ((((((S.st o z z z).st p z z z).st l z z z).st m z z z).st n z z z).st r z z z).st t z z z
     refine WL.append (by decide) ty40 ty47 z (by decide) z z aO aG.src ao z ?_
     intro b2 bu bM G ac
     refine nl (At.dq (su_ G z) (WD.y 8 z (by kernel_rfl) (fun _ _ _ => yn z) z (WD.y 9 z (by kernel_rfl) (fun _ _ _ => yf fo42_1 z) z (WD.phase [11] [0, 1, 2, 3, 4, 5, 6, 7, 8, 9, 10] (by kernel_rfl) (by kernel_rfl) (WD.heavy 10 z (by kernel_rfl) ?_)))))
     have aP := h
     obtain ⟨W, X, Z, rfl⟩ := ac.shape
     have h := aP
     have aY := (((((((J.st o z).st p z).st l z).st m z).st n z).st r z).st t z).st G z
     refine WL.store (v := (vl W X Z)) (cells' := [vs a0, (vl W X Z)]) ty40 z z aY z (le_ z) z z ?_
     intro bO H aZ
     refine nl (At.dq (su_ H z) (WD.done_ (by kernel_rfl) (th (rg (wY (ym z) z (wY (ym z) z (wY (Y.add_i z z) z ?_)))))))
     obtain ⟨bw, a1, h⟩ := lt1 h
     refine WL.yE (ya z) (congrArg vi a1.symm) z (nl (At.inBlock ?_))
     have a2 := ac.st H z z z
     exact At.round (aH, bw, bu, (vl W X Z)) bE (Nat.lt_succ_self _) ⟨next1 h T, (tr_ (su_ q z) (tr_ (su_ o z) (tr_ (su_ p z) (tr_ (su_ l z) (tr_ (su_ m z) (tr_ (su_ n z) (tr_ (su_ r z) (tr_ (su_ t z) (tr_ (su_ G z) (su_ H z)))))))))), a2, aZ⟩ (.cons z (.cons z (.cons z .nil)))
   ·refine WC.condF' z U (WC.exit (At.thenX (At.loopX ?_)))
    obtain ⟨bx, M, a3⟩ := OwnSl.rlb 1002 rfl S
    have a4 := J.st M z
    exact At.hitB (σ := (List glob_piece × Own × Value)) (bB, bx, bD) ⟨brk1 h T, (tr_ (su_ q z) (su_ M z)), a3, a4⟩ (.cons z .nil)
  ·rintro ⟨b8, b9, bJ⟩ bz ⟨rfl, ad, ap, aq⟩
   replace h := flowK_go aj
   try dsimp only at h ad ap aq
   refine (show At _ _ _ [(2, pt D 0)] _ from ?_)
   refine At.inBlockHit (th (sq (rg (wY (ym z) z (wY (ya z) z (wY (ya z) z (wY (ya z) z (nl (th ?_)))))))))
   refine rt ?_
   obtain ⟨rfl, rfl, rfl⟩ := tup3 h
   obtain ⟨bA, P, a5⟩ := OwnSl.giveF rfl flat_glob_piece ap
   have K : Stp [11, 12, 13, 15, 1001, 1002] (Lg.O0 A) w bA bz := (tr_ (su_ I z) (tr_ (su_ ad z) (su_ P z)))
   have ae := aq.st P z
   exact At.res (.inl z) z (.tmp z (.tmp z (.tmp z .nil))) ⟨pt D 0, z, (se_ K z z), ⟨D, bJ, z, (Blk.outF ae K low0 z), (Sl.outFN a5 K low0 ae.lab z)⟩⟩
theorem c_glob_Glob_Match {A : Nat → Prop} {v0_1 : Value} {a0 : glob_Glob} {b0 : Nat} {a1 : List UInt8} {w : World} (hs0_1 : Sl rep_glob_piece w A v0_1 a0.pieces) (hb0 : w.heap[b0]? = some (.cells (List.toArray [vs a0.text, v0_1]) 42 (0, 0))) (hm0 : A b0) {r0 : Bool} (h : glob_Glob_Match a0 a1 = some r0) : Rets Tryd.prog 9 [pt b0 0, vs a1] w (fun v w' => v = vB r0 ∧ Ext w w') := by
 unfold glob_Glob_Match at h
 refine Rets.enter Tryd.func9 z z ?_
 have aT : Sl rep_glob_piece w (imm (Lg.O0 A)) v0_1 a0.pieces := (Sl.start hs0_1)
 have aU : Blk 0 (Lg.O0 A) w b0 42 [vs a0.text, v0_1] := ⟨(if_pos hm0), hb0⟩
 refine (show WC _ _ _ _ [(0, pt b0 0), (1, vs a1)] _ from ?_)
 refine sq (rg (wY (ya z) z (nl (th (WC.scope 0 z (sq (rg (wY (ya z) z (wY (ya z) z ?_)))))))))
 refine nl (th (sq (rg (wY (ya z) z (wY (ya z) z (nl (th ?_)))))))
 obtain ⟨bg, h, ae⟩ := flow1 h
 obtain ⟨aS, h⟩ := loop_some h
 refine WC.label 0 (σ := (Int × Int × Int × Int × Own)) (fun x k w' => loopN k (glob_Glob_Match_lp1 a0 a1) (x.1, x.2.1, x.2.2.1, x.2.2.2.1) = some bg ∧ Stp [] (Lg.O0 A) w x.2.2.2.2 w') (fun x => [(0, pt b0 0), (1, vs a1), (5, vi x.1), (6, vi x.2.1), (7, vi x.2.2.1), (8, vi x.2.2.2.1)]) (0, 0, (-1), 0, (Lg.O0 A)) aS z (.cons z (.cons z (.cons z (.cons z (.cons z (.cons z .nil)))))) ⟨h, (sr_ _ _ _)⟩ ?_
 rintro ⟨m, o, j, l, F⟩ aS aW ⟨h, q⟩
 obtain ⟨af, bz, rfl, h, G⟩ := rnd1 h
 unfold glob_Glob_Match_lp1 at h
 try dsimp only at h q
 refine (show WC _ _ _ _ [(0, pt b0 0), (1, vs a1), (5, vi m), (6, vi o), (7, vi j), (8, vi l)] _ from ?_)
 refine sq (WC.block (sq (rg (wY (ym z) z (wY (ym z) z (wY (yn z) z (wY (yf fo42_1 z) z ?_)))))))
 have H := aU.st q z
 refine wY (yl ty40 z z (H.cell 1 _ z)) z ?_
 have I := aT.i q z z
 refine wY (Y.len ty40 z I) z (wY (Y.lss_i z z) z (wY (ym z) z ?_))
 obtain ⟨bh, h, aX⟩ := bnd h
 refine WL.cut 10 (σ := Bool) (fun x w' => x = bh ∧ aW = w') (fun x => [(0, pt b0 0), (1, vs a1), (5, vi m), (6, vi o), (7, vi j), (8, vi l), (27, vB x)]) ?_ ?_
 ·rcases cnd h with ⟨V, h⟩ | ⟨V, h⟩
  ·refine WL.ren 17 z (congrArg vB V) (ug z z (wY (ym z) z (ug z z (wY (yn z) z (ug z z (wY (yf fo42_1 z) z (ug z z (wY (yl ty40 z z (H.cell 1 _ z)) z (ug z z ?_)))))))))
   refine wY (ym z) z (ug z z ?_)
   obtain ⟨t, aY, h⟩ := bnd h
   obtain ⟨bA, bm, bn, bq, aZ, a2, a3, W, ap, a4⟩ := Sl.at2 I aY
   obtain ⟨_, _, rfl, rfl, ⟨_, _, rfl, ⟨_, _, rfl, rfl, ⟨_, _, rfl, rfl, ⟨_, _, rfl, rfl, rfl⟩⟩⟩, ⟨_, _, rfl, rfl, rfl⟩⟩⟩ := ap
   replace W : CellsAt _ _ _ [vi t.kind, vu t.set.a0, vu t.set.a1, vu t.set.a2, vu t.set.a3, vB t.plain, vb t.c] := W
   have aq := CAt.imm W a4
   refine wY (Y.indexAddr ty40 ty47 z aZ z a2 a3) z (ug z z (wY (yf fo47_0 z) z (ug z z (wY (yl ty3 z z (aq.at_.sub 0 [vi t.kind] z)) z (ug z z (wY (Y.eql_i z z) z (wY (Y.pick (b := true) z z) z ?_)))))))
   exact nl (At.join (σ := Bool) (decide (t.kind = 1)) ⟨some1 h, z⟩ (.cons z (.cons z (.cons z (.cons z (.cons z (.cons z (.cons z .nil))))))))
  ·refine WL.ren 17 z (congrArg vB V) (WL.gS z z z z (WL.gS z z z z (WL.gS z z z z (WL.gS z z z z (WL.gS z z z z (WL.gS z z z z (WL.gS z z z z (WL.gS z z z z (WL.gS z z z z ?_)))))))))
   refine wY (Y.pick (b := false) z z) z ?_
   exact nl (At.join (σ := Bool) false ⟨some1 h, z⟩ (.cons z (.cons z (.cons z (.cons z (.cons z (.cons z (.cons z .nil))))))))
 ·rintro bi _ ⟨rfl, rfl⟩
  replace h := aX
  try dsimp only at h
  refine (show WL _ _ _ _ _ [(0, pt b0 0), (1, vs a1), (5, vi m), (6, vi o), (7, vi j), (8, vi l), (27, vB bi)] _ from ?_)
  refine wY (ya z) z (nl (th ?_))
  rcases cnd h with ⟨X, h⟩ | ⟨X, h⟩
  ·refine WC.condT' z X (sq (rg (wY (ym z) z (wY (ym z) z (wY (ya z) z (wY (ya z) z (nl (th (sq ?_)))))))))
   refine rg (wY (ym z) z (wY (Y.add_i z z) z ?_))
   obtain ⟨bj, a5, h⟩ := lt1 h
   refine WL.yE (ya z) (congrArg vi a5.symm) z (nl (th (WC.goto (At.inBlockG (At.thenG ?_)))))
   exact At.roundG (m, bj, o, m, F) af (Nat.lt_succ_self _) ⟨next1 h G, (su_ q z)⟩ (.cons z (.cons z (.cons z (.cons z (.cons z (.cons z .nil))))))
  ·refine WC.condF' z X (sq (WC.drawH [] [0, 1, 2, 3, 4, 5, 6, 7, 8, 9, 10, 11, 12, 13, 14, 15, 16, 17, 18, 19, 20, 21, 22, 23, 24, 25, 26] F 27 fmix z (by kernel_rfl) ?_))
   intro r p
   refine WD.y 0 z (by kernel_rfl) (fun _ _ _ => ym z) z (WD.y 1 z (by kernel_rfl) (fun _ _ _ => ym z) z (WD.y 2 z (by kernel_rfl) (fun _ _ _ => yn z) z (WD.y 3 z (by kernel_rfl) (fun _ _ _ => yf fo42_1 z) z (WD.y 4 z (by kernel_rfl) (fun br bB ar => have a6 := H.st p z; have a7 := a6.st ar z; yl ty40 z z (a7.cell 1 _ z)) z (WD.y 5 z (by kernel_rfl) (fun bs bC au => have a8 := I.i p z z; have a9 := a8.i au z z; Y.len ty40 z a9) z (WD.y 6 z (by kernel_rfl) (fun _ _ _ => Y.lss_i z z) z (WD.y 7 z (by kernel_rfl) (fun _ _ _ => ym z) z ?_)))))))
   refine WD.join (σ := Unit) (f' := 14) [12, 11, 10, 9, 8, 7, 6, 5, 4, 3, 2, 1, 0] (fun _ O' w' => F = O' ∧ r = w') (fun _ => [(0, pt b0 0), (1, vs a1), (5, vi m), (6, vi o), (7, vi j), (8, vi l), (45, vB ((decide (o < (a0.pieces.length : Int))) && (decide (m < (a1.length : Int)))))]) (fun ah => ?_) ?_
   ·refine WD.part 40 z (fun Z => ?_) (fun Z => ?_)
    ·refine WD.gT 8 z (by kernel_rfl) z z (fun _ _ _ => ym z) z (WD.gT 9 z (by kernel_rfl) z z (fun _ _ _ => ym z) z (WD.gT 10 z (by kernel_rfl) z z (fun _ _ _ => Y.len_s ty9 z) z (WD.gT 11 z (by kernel_rfl) z z (fun _ _ _ => Y.lss_i z z) z (WD.y 12 z (by kernel_rfl) (fun _ _ _ => Y.pick (b := true) z z) z (WD.ren (v' := vB ((decide (o < (a0.pieces.length : Int))) && (decide (m < (a1.length : Int))))) 45 z (congrArg vB (andT Z)) ?_)))))
     exact ah () _ _ _ ⟨z, z⟩ (.cons z (.cons z (.cons z (.cons z (.cons z (.cons z (.cons z .nil)))))))
    ·refine WD.gS 8 z (by kernel_rfl) z z z z (WD.gS 9 z (by kernel_rfl) z z z z (WD.gS 10 z (by kernel_rfl) z z z z (WD.gS 11 z (by kernel_rfl) z z z z (WD.y 12 z (by kernel_rfl) (fun _ _ _ => Y.pick (b := false) z z) z (WD.ren (v' := vB ((decide (o < (a0.pieces.length : Int))) && (decide (m < (a1.length : Int))))) 45 z (congrArg vB (andF Z)) ?_)))))
     exact ah () _ _ _ ⟨z, z⟩ (.cons z (.cons z (.cons z (.cons z (.cons z (.cons z (.cons z .nil)))))))
   ·rintro _ _ _ ⟨rfl, rfl⟩
    refine (show WD _ _ _ _ _ _ _ _ [(0, pt b0 0), (1, vs a1), (5, vi m), (6, vi o), (7, vi j), (8, vi l), (45, vB ((decide (o < (a0.pieces.length : Int))) && (decide (m < (a1.length : Int)))))] _ _ from ?_)
    refine WD.y 13 z (by kernel_rfl) (fun _ _ _ => ym z) z ?_
    obtain ⟨ba, h, av⟩ := bnd h
    refine WD.join (σ := Bool) (f' := 1) [25, 24, 23, 22, 21, 20, 19, 18, 17, 16, 15, 14, 13, 12, 11, 10, 9, 8, 7, 6, 5, 4, 3, 2, 1, 0] (fun x O' w' => x = ba ∧ r = w' ∧ F = O') (fun x => [(0, pt b0 0), (1, vs a1), (5, vi m), (6, vi o), (7, vi j), (8, vi l), (58, vB x)]) (fun ab => ?_) ?_
    ·rcases cnd h with ⟨D, h⟩ | ⟨D, h⟩
     ·refine WD.ren 46 z (congrArg vB D) (WD.gT 14 z (by kernel_rfl) z z (fun _ _ _ => ym z) z (WD.gT 15 z (by kernel_rfl) z z (fun _ _ _ => yn z) z (WD.gT 16 z (by kernel_rfl) z z (fun _ _ _ => yf fo42_1 z) z (WD.gT 17 z (by kernel_rfl) z z (fun bo bt ai => have ax := H.st p z; have ay := ax.st ai z; yl ty40 z z (ay.cell 1 _ z)) z (WD.gT 18 z (by kernel_rfl) z z (fun _ _ _ => ym z) z ?_)))))
      obtain ⟨n, az, h⟩ := bnd h
      have aA := I.i p z z
      obtain ⟨aj, U, bk, bp, aC, aD, aE, K, ak, aF⟩ := Sl.at2 aA az
      obtain ⟨_, _, rfl, rfl, ⟨_, _, rfl, ⟨_, _, rfl, rfl, ⟨_, _, rfl, rfl, ⟨_, _, rfl, rfl, rfl⟩⟩⟩, ⟨_, _, rfl, rfl, rfl⟩⟩⟩ := ak
      replace K : CellsAt _ _ _ [vi n.kind, vu n.set.a0, vu n.set.a1, vu n.set.a2, vu n.set.a3, vB n.plain, vb n.c] := K
      have al := CAt.imm K aF
      refine WD.gT 19 z (by kernel_rfl) z z (fun _ _ _ => Y.indexAddr ty40 ty47 z aC z aD aE) z (WD.gT 20 z (by kernel_rfl) z z (fun _ _ _ => yf fo47_1 z) z (WD.gT 21 z (by kernel_rfl) z z (fun _ _ _ => ym z) z (WD.gT 22 z (by kernel_rfl) z z (fun _ _ _ => ym z) z ?_)))
      obtain ⟨am, aG, h⟩ := bnd h
      refine WD.gT 23 z (by kernel_rfl) z z (fun _ _ _ => Y.index_s ty9 z z aG) z (WD.heavy 24 z (by kernel_rfl) (ug z z ?_))
      obtain ⟨bb, h, aH⟩ := bnd h
      refine WL.callJ (vals := [Value.pointer (some ⟨aj, U + o.toNat * 7 + 1, none⟩), vb am]) (σ := Bool) (fun x w' => x = bb ∧ r = w') (fun x => vB x) kok19 z z ?_ ?_
      ·refine Rets.enter Tryd.func19 z z ?_
       refine (show WC _ _ _ _ [(0, Value.pointer (some ⟨aj, U + o.toNat * 7 + 1, none⟩)), (1, vb am)] _ from ?_)
       refine sq (rg (wY (ya z) z (nl (th (sq (rg (wY (ym z) z (wY (ym z) z (wY (Y.quo_b (b := 64) (by decide) z z) z ?_)))))))))
       refine wY (yn z) z ?_
       obtain ⟨bu, ac, h⟩ := bnd h
       have ad := idx_in ac
       refine wY (Y.indexAddrA ty45 ty43 z z ad.1 ad.2) z (wY (yl ty43 z z (CellsAt.idxU (xs := ([n.set.a0, n.set.a1, n.set.a2, n.set.a3] : List UInt64)) (al.at_.sub 1 [vu n.set.a0, vu n.set.a1, vu n.set.a2, vu n.set.a3] z) ac)) z (wY (ym z) z (wY (Y.rem_b (b := 64) (by decide) z z) z (wY (Y.conv_bu ty5.u ty73.u z) z (wY (Y.shr_uu z z) z (wY (Y.and_u (b := 1) z z) z (wY (Y.eql_u (b := 1) z z) z ?_)))))))
       obtain ⟨bc, aI, h⟩ := lt1 h
       refine WL.yE (ya z) (congrArg vB aI.symm) z (nl (th (rt ?_)))
       exact At.res (.inl z) z (.tmp z .nil) ⟨bc, ⟨some1 h, z⟩, z⟩
      ·rintro an _ ⟨rfl, rfl⟩
       replace h := aH
       try dsimp only at h
       refine (show WL _ _ _ _ _ ((57, vB an) :: _) _ from ?_)
       refine nl (At.dq (sr_ _ _ _) (WD.y 25 z (by kernel_rfl) (fun _ _ _ => Y.pick (b := true) z z) z (WD.ren 46 z (congrArg vB D.symm) ?_)))
       exact ab an _ _ _ ⟨some1 h, z, z⟩ (.cons z (.cons z (.cons z (.cons z (.cons z (.cons z (.cons z .nil)))))))
     ·refine WD.ren 46 z (congrArg vB D) (WD.gS 14 z (by kernel_rfl) z z z z (WD.gS 15 z (by kernel_rfl) z z z z (WD.gS 16 z (by kernel_rfl) z z z z (WD.gS 17 z (by kernel_rfl) z z z z (WD.gS 18 z (by kernel_rfl) z z z z (WD.gS 19 z (by kernel_rfl) z z z z (WD.gS 20 z (by kernel_rfl) z z z z (WD.gS 21 z (by kernel_rfl) z z z z (WD.gS 22 z (by kernel_rfl) z z z z ?_)))))))))
      refine WD.gS 23 z (by kernel_rfl) z z z z (WD.heavy 24 z (by kernel_rfl) (WL.gS z z z z (nl (At.dq (sr_ _ _ _) (WD.y 25 z (by kernel_rfl) (fun _ _ _ => Y.pick (b := false) z z) z (WD.ren 46 z (congrArg vB D.symm) ?_))))))
      exact ab false _ _ _ ⟨some1 h, z, z⟩ (.cons z (.cons z (.cons z (.cons z (.cons z (.cons z (.cons z .nil)))))))
    ·rintro bl _ _ ⟨rfl, rfl, rfl⟩
     replace h := av
     try dsimp only at h
     refine (show WD _ _ _ _ _ _ _ _ [(0, pt b0 0), (1, vs a1), (5, vi m), (6, vi o), (7, vi j), (8, vi l), (58, vB bl)] _ _ from ?_)
     refine WD.y 26 z (by kernel_rfl) (fun _ _ _ => ya z) z (WD.done_ (by kernel_rfl) (th ?_))
     rcases cnd h with ⟨M, h⟩ | ⟨M, h⟩
     ·refine WC.condT' z M (sq (rg (wY (ym z) z (wY (Y.add_i z z) z ?_))))
      obtain ⟨bd, aJ, h⟩ := lt1 h
      refine WL.yE (ya z) (congrArg vi aJ.symm) z (nl (th (sq (rg (wY (ym z) z (wY (Y.add_i z z) z ?_))))))
      obtain ⟨aK, ao, h⟩ := lt1 h
      refine WL.yE (ya z) (congrArg vi ao.symm) z (nl (th (WC.goto (At.inBlockG (At.thenG ?_)))))
      exact At.roundG (aK, bd, j, l, F) af (Nat.lt_succ_self _) ⟨next1 h G, (tr_ (su_ q z) (su_ p z))⟩ (.cons z (.cons z (.cons z (.cons z (.cons z (.cons z .nil))))))
     ·refine WC.condF' z M (sq (rg (wY (ym z) z (wY (ym z) z (wY (yn z) z (wY (yf fo42_1 z) z ?_))))))
      have aL := H.st p z
      refine wY (yl ty40 z z (aL.cell 1 _ z)) z ?_
      have aM := I.i p z z
      refine wY (Y.len ty40 z aM) z (wY (Y.eql_i z z) z (wY (ym z) z ?_))
      refine WL.cut 5 (σ := Unit) (fun _ w' => r = w') (fun _ => [(0, pt b0 0), (1, vs a1), (7, vi j), (8, vi l), (76, vB ((decide (o = (a0.pieces.length : Int))) && (decide (m = (a1.length : Int)))))]) ?_ ?_
      ·refine WL.part 71 z (fun P => ?_) (fun P => ?_)
       ·refine ug z z (wY (ym z) z (ug z z (wY (ym z) z (ug z z (wY (Y.len_s ty9 z) z (ug z z (wY (Y.eql_i z z) z (wY (Y.pick (b := true) z z) z (WL.ren (v' := vB ((decide (o = (a0.pieces.length : Int))) && (decide (m = (a1.length : Int))))) 76 z (congrArg vB (andT P)) ?_)))))))))
        exact nl (At.join () z (.cons z (.cons z (.cons z (.cons z (.cons z .nil))))))
       ·refine WL.gS z z z z (WL.gS z z z z (WL.gS z z z z (WL.gS z z z z (wY (Y.pick (b := false) z z) z (WL.ren (v' := vB ((decide (o = (a0.pieces.length : Int))) && (decide (m = (a1.length : Int))))) 76 z (congrArg vB (andF P)) ?_)))))
        exact nl (At.join () z (.cons z (.cons z (.cons z (.cons z (.cons z .nil))))))
      ·rintro _ _ rfl
       refine (show WL _ _ _ _ _ [(0, pt b0 0), (1, vs a1), (7, vi j), (8, vi l), (76, vB ((decide (o = (a0.pieces.length : Int))) && (decide (m = (a1.length : Int)))))] _ from ?_)
       obtain ⟨bw, aN, h⟩ := lt1 h
       refine WL.yE (ya z) (congrArg vB aN.symm) z (nl (th ?_))
       rcases cnd h with ⟨Q, h⟩ | ⟨Q, h⟩
       ·refine WC.condT' z Q (sq (rg (wY (ya z) z (nl (th (rt (At.inBlockR (At.thenR (At.gqR ?_)))))))))
        have h := outr1 h G ae
        obtain rfl := some1 h
        have aO : Stp [] (Lg.O0 A) w F r := (tr_ (su_ q z) (su_ p z))
        exact At.res (.inl z) z (.tmp z .nil) ⟨z, (se_ aO z z)⟩
       ·refine WC.condF' z Q (sq (rg (wY (ym z) z (wY (Y.geq_i z z) z (wY (ym z) z ?_)))))
        refine WL.cut 5 (σ := Unit) (fun _ w' => r = w') (fun _ => [(0, pt b0 0), (1, vs a1), (7, vi j), (8, vi l), (85, vB ((decide (0 ≤ j)) && (decide (l < (a1.length : Int)))))]) ?_ ?_
        ·refine WL.part 80 z (fun S => ?_) (fun S => ?_)
         ·refine ug z z (wY (ym z) z (ug z z (wY (ym z) z (ug z z (wY (Y.len_s ty9 z) z (ug z z (wY (Y.lss_i z z) z (wY (Y.pick (b := true) z z) z (WL.ren (v' := vB ((decide (0 ≤ j)) && (decide (l < (a1.length : Int))))) 85 z (congrArg vB (andT S)) ?_)))))))))
          exact nl (At.join () z (.cons z (.cons z (.cons z (.cons z (.cons z .nil))))))
         ·refine WL.gS z z z z (WL.gS z z z z (WL.gS z z z z (WL.gS z z z z (wY (Y.pick (b := false) z z) z (WL.ren (v' := vB ((decide (0 ≤ j)) && (decide (l < (a1.length : Int))))) 85 z (congrArg vB (andF S)) ?_)))))
          exact nl (At.join () z (.cons z (.cons z (.cons z (.cons z (.cons z .nil))))))
        ·rintro _ _ rfl
         refine (show WL _ _ _ _ _ [(0, pt b0 0), (1, vs a1), (7, vi j), (8, vi l), (85, vB ((decide (0 ≤ j)) && (decide (l < (a1.length : Int)))))] _ from ?_)
         obtain ⟨bx, aP, h⟩ := lt1 h
         refine WL.yE (ya z) (congrArg vB aP.symm) z (nl (th ?_))
         rcases cnd h with ⟨T, h⟩ | ⟨T, h⟩
         ·refine WC.condT' z T (sq (rg (wY (ym z) z (wY (Y.add_i z z) z ?_))))
          obtain ⟨J, aa, h⟩ := lt1 h
          refine WL.yE (ya z) (congrArg vi aa.symm) z (nl (th (sq (rg (wY (ym z) z (wY (Y.add_i z z) z (wY (ym z) z ?_)))))))
          obtain ⟨bf, aQ, h⟩ := lt1 h
          refine WL.yE (ya z) (congrArg vi aQ.symm) z (wY (ya z) z (nl (th (WC.goto (At.inBlockG (At.thenG ?_))))))
          exact At.roundG (J, bf, j, J, F) af (Nat.lt_succ_self _) ⟨next1 h G, (tr_ (su_ q z) (su_ p z))⟩ (.cons z (.cons z (.cons z (.cons z (.cons z (.cons z .nil))))))
         ·refine WC.condF' z T (sk (At.inBlock (th (sq (rg (wY (ya z) z (nl (th (rt ?_)))))))))
          refine At.gqR ?_
          have h := outr1 h G ae
          obtain rfl := some1 h
          have aR : Stp [] (Lg.O0 A) w F r := (tr_ (su_ q z) (su_ p z))
          exact At.res (.inl z) z (.tmp z .nil) ⟨z, (se_ aR z z)⟩
theorem c_glob_Quote {a0 : List UInt8} {w : World} {r0 : List UInt8} (h : glob_Quote a0 = some r0) : Rets Tryd.prog 14 [vs a0] w (fun v w' => v = vs r0 ∧ Ext w w') := by
 unfold glob_Quote at h
 refine Rets.enter Tryd.func14 z z ?_
 refine (show WC _ _ _ _ [(0, vs a0)] _ from ?_)
 refine sq (rg (wY (ya (v := vs []) z) z (nl (th (sq (rg (wY (ya z) z (nl (th ?_)))))))))
 refine sq (sq (rg (wY (ym z) z (WL.s2b (O := (Lg.O0 (fun _ => False))) ty9 ty60 ty5 z z ?_))))
 intro m P Q aa S
 refine wY (Y.len ty60 z S) z (wY (ym z) z (nl (th (WC.block ?_))))
 obtain ⟨an, h, ar⟩ := flow1 h
 obtain ⟨ao, h⟩ := loop_some h
 refine WC.joinB 0 (σ := (List UInt8 × Own × Value)) (fun x w' => an = .go x.1 ∧ Stp [12, 1001, 1002] P Q x.2.1 w' ∧ OwnSl 1003 Rep.b 5 x.2.1 w' x.2.2 x.1) (fun x => [(3, x.2.2)]) ?_ ?_
 ·refine WC.loop (σ := (List UInt8 × Int × Own × Value)) (fun x k w' => loopN k (glob_Quote_lp1 a0) (x.1, x.2.1) = some an ∧ Stp [12, 1001, 1002] P Q x.2.2.1 w' ∧ OwnSl 1002 Rep.b 5 x.2.2.1 w' x.2.2.2 x.1) (fun x => [(3, x.2.2.2), (7, m), (8, vi (a0.length : Int)), (9, vi x.2.1)]) ([], 0, P, sn) ao (.cons z (.cons z (.cons z (.cons z .nil)))) ⟨h, (sr_ _ _ _), (OwnSl.nil 1002 Rep.b 5)⟩ ?_
  rintro ⟨ap, n, aq, p⟩ ao T ⟨h, l, o⟩
  obtain ⟨aX, bo, rfl, h, U⟩ := rnd1 h
  unfold glob_Quote_lp1 at h
  try dsimp only at h l o
  refine (show WC _ _ _ _ [(3, p), (7, m), (8, vi (a0.length : Int)), (9, vi n)] _ from ?_)
  refine sq (rg (wY (Y.lss_i z z) z (nl (th (sq ?_)))))
  rcases cnd h with ⟨q, h⟩ | ⟨q, h⟩
  ·refine WC.condT' z q (sk (th (sq (WC.block (sq (rg ?_))))))
   obtain ⟨j, au, h⟩ := bnd h
   have av := S.f l z
   obtain ⟨bp, bg, bh, bi, ax, ay, az, r, ab, aA⟩ := Sl.at2 av au
   obtain rfl := ab
   replace r : CellsAt _ _ _ [vb j] := r
   have ac := CAt.frs r aA
   refine wY (Y.indexAddr ty60 ty5 z ax z ay az) z (wY (yl ty5 z z ac.at_) z (wY (ya z) z (nl (th (sq (sq (rg (wY (ym z) z (nl ?_)))))))))
   refine th ?_
   obtain ⟨aY, h, aC⟩ := bnd h
   refine WC.join (σ := (List UInt8 × Own × Value)) (fun x w' => x.1 = aY ∧ Stp [1002] aq T x.2.1 w' ∧ OwnSl 1001 Rep.b 5 x.2.1 w' x.2.2 x.1) (fun x => [(3, x.2.2), (5, vb j), (7, m), (8, vi (a0.length : Int)), (9, vi n)]) ?_ ?_
   ·refine WC.block (sq ?_)
    obtain ⟨aZ, h, aD⟩ := bnd h
    refine WC.join (σ := Bool) (fun x w' => x = aZ ∧ T = w') (fun x => [(3, p), (5, vb j), (7, m), (8, vi (a0.length : Int)), (9, vi n), (14, vB x)]) ?_ ?_
    ·refine sq (rg (wY (Y.eql_b (b := 42) z z) z ?_))
     obtain ⟨a1, aE, h⟩ := lt1 h
     refine WL.yE (ya z) (congrArg vB aE.symm) z (nl (th ?_))
     rcases cnd h with ⟨t, h⟩ | ⟨t, h⟩
     ·refine WC.condT' z t (sk ?_)
      exact At.join (σ := Bool) a1 ⟨some1 h, z⟩ (.cons z (.cons z (.cons z (.cons z (.cons z (.cons z .nil))))))
     ·refine WC.condF' z t (sq (rg (wY (Y.eql_b (b := 63) z z) z ?_)))
      obtain ⟨a2, aF, h⟩ := lt1 h
      refine WL.yE (ya z) (congrArg vB aF.symm) z (nl (th ?_))
      rcases cnd h with ⟨D, h⟩ | ⟨D, h⟩
      ·refine WC.condT' z D (sk ?_)
       exact At.join (σ := Bool) a2 ⟨some1 h, z⟩ (.cons z (.cons z (.cons z (.cons z (.cons z (.cons z .nil))))))
      ·refine WC.condF' z D (sq (rg (wY (Y.eql_b (b := 91) z z) z ?_)))
       obtain ⟨a3, aG, h⟩ := lt1 h
       refine WL.yE (ya z) (congrArg vB aG.symm) z (nl (th ?_))
       rcases cnd h with ⟨F, h⟩ | ⟨F, h⟩
       ·refine WC.condT' z F (sk ?_)
        exact At.join (σ := Bool) a3 ⟨some1 h, z⟩ (.cons z (.cons z (.cons z (.cons z (.cons z (.cons z .nil))))))
       ·refine WC.condF' z F (sq (rg (wY (Y.eql_b (b := 93) z z) z ?_)))
        obtain ⟨a4, aH, h⟩ := lt1 h
        refine WL.yE (ya z) (congrArg vB aH.symm) z (nl (th ?_))
        rcases cnd h with ⟨G, h⟩ | ⟨G, h⟩
        ·refine WC.condT' z G (sk ?_)
         exact At.join (σ := Bool) a4 ⟨some1 h, z⟩ (.cons z (.cons z (.cons z (.cons z (.cons z (.cons z .nil))))))
        ·refine WC.condF' z G (rg (wY (Y.eql_b (b := 92) z z) z ?_))
         obtain ⟨a5, aI, h⟩ := lt1 h
         refine WL.yE (ya z) (congrArg vB aI.symm) z (nl ?_)
         exact At.join (σ := Bool) a5 ⟨some1 h, z⟩ (.cons z (.cons z (.cons z (.cons z (.cons z (.cons z .nil))))))
    ·rintro a6 _ ⟨rfl, rfl⟩
     replace h := aD
     try dsimp only at h
     refine (show At _ _ _ [(3, p), (5, vb j), (7, m), (8, vi (a0.length : Int)), (9, vi n), (14, vB a6)] _ from ?_)
     refine th ?_
     rcases cnd h with ⟨H, h⟩ | ⟨H, h⟩
     ·refine WC.condT' z H (rg (wY (ym z) z (WL.buildSlice (O := aq) (R := Rep.b) (vals := [(0, vb 92)]) 11 [vb 92] (xs := [92]) (by decide) ty60 ty5 (by decide) (by decide) (fe_ z) (by kernel_rfl) z ⟨[vb 92], [], z, z, z⟩ z ?_)))
      intro bq br bj I aJ
      obtain ⟨aK, ad, h⟩ := bnd h
      have aL := o.st I z z z
      refine WL.append (by decide) ty60 ty5 z (by decide) z z aL aJ.src ad z ?_
      intro a7 bs bk ae aM
      refine wY (ya z) z (nl (At.inBlock ?_))
      obtain ⟨a8, af, aN⟩ := OwnSl.rlb 1001 rfl aM
      exact At.join (σ := (List UInt8 × Own × Value)) (aK, a8, a7) ⟨some1 h, (tr_ (su_ I z) (tr_ (su_ ae z) (su_ af z))), aN⟩ (.cons z (.cons z (.cons z (.cons z (.cons z .nil)))))
     ·refine WC.condF' z H (sk (At.inBlock ?_))
      obtain ⟨a9, ah, aO⟩ := OwnSl.rlb 1001 rfl o
      exact At.join (σ := (List UInt8 × Own × Value)) (ap, a9, p) ⟨some1 h, (su_ ah z), aO⟩ (.cons z (.cons z (.cons z (.cons z (.cons z .nil)))))
   ·rintro ⟨bt, ba, bb⟩ bl ⟨rfl, J, V⟩
    replace h := aC
    try dsimp only at h J V
    refine (show At _ _ _ [(3, bb), (5, vb j), (7, m), (8, vi (a0.length : Int)), (9, vi n)] _ from ?_)
    refine th (rg (wY (ym z) z (wY (ym z) z (WL.buildSlice (O := ba) (R := Rep.b) (vals := [(0, vb j)]) 12 [vb j] (xs := [j]) (by decide) ty60 ty5 (by decide) (by decide) (fe_ z) (by kernel_rfl) z ⟨[vb j], [], z, z, z⟩ z ?_))))
    intro bu bw bm K aP
    obtain ⟨aQ, ai, h⟩ := bnd h
    have aR := V.st K z z z
    refine WL.append (by decide) ty60 ty5 z (by decide) z z aR aP.src ai z ?_
    intro bc bx bn aj aS
    refine wY (ya z) z (nl (At.inBlock (th (rg (wY (Y.add_i z z) z (wY (ym z) z (nl ?_)))))))
    obtain ⟨aT, W, ak⟩ := OwnSl.rlb 1002 rfl aS
    exact At.round (aQ, w64 (n + 1), aT, bc) aX (Nat.lt_succ_self _) ⟨next1 h U, (tr_ (su_ l z) (tr_ (su_ J z) (tr_ (su_ K z) (tr_ (su_ aj z) (su_ W z))))), ak⟩ (.cons z (.cons z (.cons z (.cons z .nil))))
  ·refine WC.condF' z q (WC.exit (At.thenX (At.loopX ?_)))
   obtain ⟨aU, X, al⟩ := OwnSl.rlb 1003 rfl o
   exact At.hitB (σ := (List UInt8 × Own × Value)) (ap, aU, p) ⟨brk1 h U, (tr_ (su_ l z) (su_ X z)), al⟩ (.cons z .nil)
 ·rintro ⟨bz, bd, bf⟩ aW ⟨rfl, M, Z⟩
  replace h := flowK_go ar
  try dsimp only at h M Z
  refine (show At _ _ _ [(3, bf)] _ from ?_)
  refine At.inBlockHit (th (sq (rg (wY (ym z) z (wY (Y.b2s ty60 ty5 ty9 z Z.src.sl) z (wY (ya z) z (nl (th (rt ?_)))))))))
  obtain rfl := some1 h
  have am : Stp [12, 1001, 1002] (Lg.O0 (fun _ => False)) w bd aW := (tr_ (su_ aa z) (su_ M z))
  exact At.res (.inl z) z (.tmp z .nil) ⟨z, (se_ am z z)⟩
theorem c_law32_awake {A : Nat → Prop} {w : World} (hG0 : CellsAt w 0 0 [vi 0, vi 0]) (hGA0 : A 0) {r0 : Bool} (h : law32_awake = some r0) : Rets Tryd.prog 6 [] w (fun v w' => v = vB r0 ∧ Ext w w') := by
 unfold law32_awake at h
 refine Rets.enter Tryd.func6 z z ?_
 have T : CAt [0, 1] (Lg.O0 A) w 0 0 [vi 0, vi 0] := CAt.glob hG0 (if_pos hGA0)
 refine (show WC _ _ _ _ [] _ from ?_)
 refine sq (rg (wY (ya z) z (nl (th (sq (rg ?_))))))
 obtain ⟨⟨J, bl, K⟩, al, h⟩ := bnd h
 refine WL.call (vals := [vs [97, 42, 98, 63]]) kok7 z z (c_glob_Compile (A := fun _ => True) T.at_ trivial al) ?_
 rintro bc U ⟨V, rfl, am, aj⟩
 obtain ⟨W, aP, q, M⟩ := adoptE (Lg.O0 A) (labP V 11) am
 refine wY (ym z) z (wY (yx z z) z (wY (yx z z) z (wY (yx z z) z (wY (ya z) z (wY (ya z) z (wY (ya z) z (nl (th (sq ?_)))))))))
 refine rg ?_
 have an := T.st M z
 obtain ⟨⟨bm, j, l⟩, ao, h⟩ := bnd h
 refine WL.call (vals := [vs [91, 98, 45, 97, 93]]) kok7 z z (c_glob_Compile (A := fun _ => True) an.at_ trivial ao) ?_
 rintro bd X ⟨aQ, rfl, ap, bn⟩
 obtain ⟨Z, aR, aS, m⟩ := adoptE W (labP aQ 12) ap
 refine wY (ym z) z (wY (yx z z) z (wY (yx z z) z (wY (yx z z) z (wY (ya z) z (wY (ya z) z (wY (ya z) z (nl (th (sq ?_)))))))))
 refine rg (wY (ym z) z (wY (Y.neq_opt ty23.u z z aj (fun d hd => by obtain ⟨_, _, e, _⟩ := hd; exact ⟨_, e⟩)) z (wY (ym z) z ?_)))
 refine WL.cut 3 (σ := Unit) (fun _ w' => X = w') (fun _ => [(1, V), (5, vi j), (6, vi l), (22, vB (J.isSome && (decide (K = 0))))]) ?_ ?_
 ·refine WL.part 19 z (fun r => ?_) (fun r => ?_)
  ·refine ug z z (wY (ym z) z (ug z z (wY (Y.eql_i z z) z (wY (Y.pick (b := true) z z) z (WL.ren (v' := vB (J.isSome && (decide (K = 0)))) 22 z (congrArg vB (andT r)) ?_)))))
   exact nl (At.join () z (.cons z (.cons z (.cons z (.cons z .nil)))))
  ·refine WL.gS z z z z (WL.gS z z z z (wY (Y.pick (b := false) z z) z (WL.ren (v' := vB (J.isSome && (decide (K = 0)))) 22 z (congrArg vB (andF r)) ?_)))
   exact nl (At.join () z (.cons z (.cons z (.cons z (.cons z .nil)))))
 ·rintro _ _ rfl
  refine (show WL _ _ _ _ _ [(1, V), (5, vi j), (6, vi l), (22, vB (J.isSome && (decide (K = 0))))] _ from ?_)
  refine wY (ym z) z ?_
  obtain ⟨P, aq, h⟩ := bnd h
  obtain ⟨p, ak, rfl, ar, aT⟩ := OptP.some aj aq
  have aa : Sl rep_glob_piece U (frs W) ak P.pieces := Sl.adoptF aT (fun k hk => ⟨hk.1, labP_ne hk.2⟩) q
  have ab : Blk 11 W U p 42 [vs P.text, ak] := Blk.new ar q (labP_at p 11)
  obtain ⟨aU, h, au⟩ := bnd h
  refine WL.cut 3 (σ := (Bool × Own)) (fun x w' => x.1 = aU ∧ Stp [] Z X x.2 w') (fun x => [(1, pt p 0), (5, vi j), (6, vi l), (26, vB x.1)]) ?_ ?_
  ·rcases cnd h with ⟨t, h⟩ | ⟨t, h⟩
   ·refine WL.ren 23 z (congrArg vB t) (ug z z (wY (ym z) z (ug z z ?_)))
    have av := ab.st m z
    have ax := aa.f m z
    obtain ⟨aW, ay, h⟩ := bnd h
    refine WL.call (vals := [pt p 0, vs [97, 120, 120, 98, 99]]) kok9 z z (c_glob_Glob_Match (A := fun _ => True) (a0 := P) (Sl.all ax) av.blk trivial ay) ?_
    rintro bf bg ⟨rfl, az⟩
    obtain ⟨aX, aY, aZ, af⟩ := adoptE Z (fun k => 1) az
    refine wY (Y.pick (b := true) z z) z ?_
    exact nl (At.join (σ := (Bool × Own)) (aW, aX) ⟨some1 h, (su_ af z)⟩ (.cons z (.cons z (.cons z (.cons z .nil)))))
   ·refine WL.ren 23 z (congrArg vB t) (WL.gS z z z z (WL.gS z z z z (wY (Y.pick (b := false) z z) z ?_)))
    exact nl (At.join (σ := (Bool × Own)) (false, Z) ⟨some1 h, (sr_ _ _ _)⟩ (.cons z (.cons z (.cons z (.cons z .nil)))))
  ·rintro ⟨a1, ac⟩ aA ⟨rfl, o⟩
   replace h := au
   try dsimp only at h o
   refine (show WL _ _ _ _ _ [(1, pt p 0), (5, vi j), (6, vi l), (26, vB a1)] _ from ?_)
   refine wY (ym z) z ?_
   obtain ⟨a2, h, aC⟩ := bnd h
   refine WL.cut 4 (σ := (Bool × Own)) (fun x w' => x.1 = a2 ∧ Stp [] ac aA x.2 w') (fun x => [(5, vi j), (6, vi l), (31, vB x.1)]) ?_ ?_
   ·rcases cnd h with ⟨D, h⟩ | ⟨D, h⟩
    ·refine WL.ren 27 z (congrArg vB D) (ug z z (wY (ym z) z (ug z z ?_)))
     have aE := (ab.st m z).st o z
     have aG := (aa.f m z).f o z
     obtain ⟨a3, aH, h⟩ := bnd h
     refine WL.call (vals := [pt p 0, vs [97, 98]]) kok9 z z (c_glob_Glob_Match (A := fun _ => True) (a0 := P) (Sl.all aG) aE.blk trivial aH) ?_
     rintro bh bi ⟨rfl, aI⟩
     obtain ⟨a4, a5, a6, ah⟩ := adoptE ac (fun k => 1) aI
     refine ug z z (wY (Y.not z) z (wY (Y.pick (b := true) z z) z ?_))
     exact nl (At.join (σ := (Bool × Own)) ((!a3), a4) ⟨some1 h, (su_ ah z)⟩ (.cons z (.cons z (.cons z .nil))))
    ·refine WL.ren 27 z (congrArg vB D) (WL.gS z z z z (WL.gS z z z z (WL.gS z z z z (wY (Y.pick (b := false) z z) z ?_))))
     exact nl (At.join (σ := (Bool × Own)) (false, ac) ⟨some1 h, (sr_ _ _ _)⟩ (.cons z (.cons z (.cons z .nil))))
   ·rintro ⟨n, ad⟩ F ⟨rfl, Q⟩
    replace h := aC
    try dsimp only at h Q
    refine (show WL _ _ _ _ _ [(5, vi j), (6, vi l), (31, vB n)] _ from ?_)
    refine wY (ym z) z ?_
    refine WL.cut 3 (σ := Unit) (fun _ w' => F = w') (fun _ => [(6, vi l), (35, vB (n && (decide (j = 1))))]) ?_ ?_
    ·refine WL.part 32 z (fun G => ?_) (fun G => ?_)
     ·refine ug z z (wY (ym z) z (ug z z (wY (Y.eql_i z z) z (wY (Y.pick (b := true) z z) z (WL.ren (v' := vB (n && (decide (j = 1)))) 35 z (congrArg vB (andT G)) ?_)))))
      exact nl (At.join () z (.cons z (.cons z .nil)))
     ·refine WL.gS z z z z (WL.gS z z z z (wY (Y.pick (b := false) z z) z (WL.ren (v' := vB (n && (decide (j = 1)))) 35 z (congrArg vB (andF G)) ?_)))
      exact nl (At.join () z (.cons z (.cons z .nil)))
    ·rintro _ _ rfl
     refine (show WL _ _ _ _ _ [(6, vi l), (35, vB (n && (decide (j = 1))))] _ from ?_)
     refine wY (ym z) z ?_
     refine WL.cut 3 (σ := Unit) (fun _ w' => F = w') (fun _ => [(39, vB ((n && (decide (j = 1))) && (decide (l = 3))))]) ?_ ?_
     ·refine WL.part 36 z (fun H => ?_) (fun H => ?_)
      ·refine ug z z (wY (ym z) z (ug z z (wY (Y.eql_i z z) z (wY (Y.pick (b := true) z z) z (WL.ren (v' := vB ((n && (decide (j = 1))) && (decide (l = 3)))) 39 z (congrArg vB (andT H)) ?_)))))
       exact nl (At.join () z (.cons z .nil))
      ·refine WL.gS z z z z (WL.gS z z z z (wY (Y.pick (b := false) z z) z (WL.ren (v' := vB ((n && (decide (j = 1))) && (decide (l = 3)))) 39 z (congrArg vB (andF H)) ?_)))
       exact nl (At.join () z (.cons z .nil))
     ·rintro _ _ rfl
      refine (show WL _ _ _ _ _ [(39, vB ((n && (decide (j = 1))) && (decide (l = 3))))] _ from ?_)
      refine wY (ym z) z ?_
      obtain ⟨a7, h, aJ⟩ := bnd h
      refine WL.cut 3 (σ := (Bool × Own)) (fun x w' => x.1 = a7 ∧ Stp [] ad F x.2 w') (fun x => [(43, vB x.1)]) ?_ ?_
      ·rcases cnd h with ⟨I, h⟩ | ⟨I, h⟩
       ·refine WL.ren 40 z (congrArg vB I) (ug z z ?_)
        obtain ⟨a8, aK, h⟩ := bnd h
        refine WL.call (vals := [vs [97, 42]]) kok14 z z (c_glob_Quote aK) ?_
        rintro bj bk ⟨rfl, aL⟩
        obtain ⟨a9, aN, aO, ae⟩ := adoptE ad (fun k => 1) aL
        refine ug z z (wY (Y.eql_s (b := [97, 92, 42]) z z) z (wY (Y.pick (b := true) z z) z ?_))
        exact nl (At.join (σ := (Bool × Own)) (decide (a8 = [97, 92, 42]), a9) ⟨some1 h, (su_ ae z)⟩ (.cons z .nil))
       ·refine WL.ren 40 z (congrArg vB I) (WL.gS z z z z (WL.gS z z z z (wY (Y.pick (b := false) z z) z ?_)))
        exact nl (At.join (σ := (Bool × Own)) (false, ad) ⟨some1 h, (sr_ _ _ _)⟩ (.cons z .nil))
      ·rintro ⟨ba, bb⟩ aM ⟨rfl, S⟩
       replace h := aJ
       try dsimp only at h S
       refine (show WL _ _ _ _ _ [(43, vB ba)] _ from ?_)
       refine wY (ya z) z (nl (th (rt ?_)))
       obtain rfl := some1 h
       have ai : Stp [] (Lg.O0 A) w bb aM := (tr_ (su_ M z) (tr_ (su_ m z) (tr_ (su_ o z) (tr_ (su_ Q z) (su_ S z)))))
       exact At.res (.inl z) z (.tmp z .nil) ⟨z, (se_ ai z z)⟩
theorem c_ref32_nothing {a0 : Bool} {w : World} {r0 : List Bool} (h : ref32_nothing a0 = some r0) : Rets Tryd.prog 18 [vB a0] w (fun v w' => ∃ (X : Value), v = X ∧ Ext w w' ∧ RowF Rep.B 4 w w' X r0) := by
 unfold ref32_nothing at h
 refine Rets.enter Tryd.func18 z z ?_
 refine (show WC _ _ _ _ [(0, vB a0)] _ from ?_)
 refine sq (rg (wY (ya z) z (nl (th (sq (rg (wY (ya z) z (nl (th ?_)))))))))
 refine sq (sq (rg (wY (ya z) z (nl (th (WC.block ?_))))))
 obtain ⟨H, h, M⟩ := flow1 h
 obtain ⟨I, h⟩ := loop_some h
 refine WC.joinB 0 (σ := (List Bool × Own × Value)) (fun x w' => H = .go x.1 ∧ Stp [12, 1001] (Lg.O0 (fun _ => False)) w x.2.1 w' ∧ OwnSl 1002 Rep.B 4 x.2.1 w' x.2.2 x.1) (fun x => [(3, x.2.2)]) ?_ ?_
 ·refine WC.loop (σ := (List Bool × Int × Own × Value)) (fun x k w' => loopN k (ref32_nothing_lp1 a0) (x.1, x.2.1) = some H ∧ Stp [12, 1001] (Lg.O0 (fun _ => False)) w x.2.2.1 w' ∧ OwnSl 1001 Rep.B 4 x.2.2.1 w' x.2.2.2 x.1) (fun x => [(0, vB a0), (3, x.2.2.2), (4, vi x.2.1)]) ([], 0, (Lg.O0 (fun _ => False)), sn) I (.cons z (.cons z (.cons z .nil))) ⟨h, (sr_ _ _ _), (OwnSl.nil 1001 Rep.B 4)⟩ ?_
  rintro ⟨t, Z, aa, J⟩ I aj ⟨h, j, l⟩
  obtain ⟨ab, am, rfl, h, p⟩ := rnd1 h
  unfold ref32_nothing_lp1 at h
  try dsimp only at h j l
  refine (show WC _ _ _ _ [(0, vB a0), (3, J), (4, vi Z)] _ from ?_)
  refine sq (sq (rg (wY (ym z) z (wY (Y.lss_i z z) z (nl (th ?_))))))
  rcases cnd h with ⟨m, h⟩ | ⟨m, h⟩
  ·refine WC.condT' z m (sk (th (sq (WC.block (rg (wY (ym z) z (wY (ym z) z (WL.buildSlice (O := aa) (R := Rep.B) (vals := [(0, vB a0)]) 11 [vB a0] (xs := [a0]) (by decide) ty53 ty4 (by decide) (by decide) (fe_ z) (by kernel_rfl) z ⟨[vB a0], [], z, z, z⟩ z ?_))))))))
   intro an ao ak n P
   obtain ⟨Q, D, h⟩ := bnd h
   have S := l.st n z z z
   refine WL.append (by decide) ty53 ty4 z (by decide) z z S P.src D z ?_
   intro ac ad al F T
   refine wY (ya z) z (nl (At.inBlock (th (rg (wY (ym z) z (wY (Y.add_i z z) z ?_))))))
   obtain ⟨ae, U, h⟩ := lt1 h
   refine WL.yE (ya z) (congrArg vi U.symm) z (nl ?_)
   exact At.round (Q, ae, ad, ac) ab (Nat.lt_succ_self _) ⟨next1 h p, (tr_ (su_ j z) (tr_ (su_ n z) (su_ F z))), T⟩ (.cons z (.cons z (.cons z .nil)))
  ·refine WC.condF' z m (WC.exit (At.thenX (At.loopX ?_)))
   obtain ⟨af, G, V⟩ := OwnSl.rlb 1002 rfl l
   exact At.hitB (σ := (List Bool × Own × Value)) (t, af, J) ⟨brk1 h p, (tr_ (su_ j z) (su_ G z)), V⟩ (.cons z .nil)
 ·rintro ⟨ai, ah, K⟩ W ⟨rfl, o, q⟩
  replace h := flowK_go M
  try dsimp only at h o q
  refine (show At _ _ _ [(3, K)] _ from ?_)
  refine At.inBlockHit (th (sq (rg (wY (ym z) z (wY (ya z) z (nl (th (rt ?_))))))))
  obtain rfl := some1 h
  have r : Stp [12, 1001] (Lg.O0 (fun _ => False)) w ah W := (su_ o z)
  exact At.res (.inl z) z (.tmp z .nil) ⟨K, z, (se_ r z z), (OwnSl.outF q r low0 z)⟩
theorem c_ref32_end {a0 : List UInt8} {a1 : Int} {w : World} {r0 : Int} (h : ref32_end a0 a1 = some r0) : Rets Tryd.prog 25 [vs a0, vi a1] w (fun v w' => v = vi r0 ∧ Ext w w') := by
 unfold ref32_end at h
 refine Rets.enter Tryd.func25 z z ?_
 refine (show WC _ _ _ _ [(0, vs a0), (1, vi a1)] _ from ?_)
 refine sq (rg (wY (ya z) z (nl (th (sq (WC.block ?_))))))
 obtain ⟨F, h, o⟩ := flow1 h
 obtain ⟨G, h⟩ := loop_some h
 refine WC.joinB 0 (σ := Unit) (fun x w' => F = .go () ∧ w = w') (fun x => []) ?_ ?_
 ·refine WC.loop (σ := Int) (fun x k w' => loopN k (ref32_end_lp1 a0) x = some F ∧ w = w') (fun x => [(0, vs a0), (1, vi x)]) a1 G (.cons z (.cons z .nil)) ⟨h, z⟩ ?_
  rintro p G _ ⟨h, rfl⟩
  obtain ⟨T, W, rfl, h, j⟩ := rnd1 h
  unfold ref32_end_lp1 at h
  try dsimp only at h
  refine (show WC _ _ _ _ [(0, vs a0), (1, vi p)] _ from ?_)
  refine sq (sq (rg (wY (ym z) z (wY (ym z) z (wY (Y.len_s ty9 z) z (wY (Y.lss_i z z) z (nl (th ?_))))))))
  rcases cnd h with ⟨l, h⟩ | ⟨l, h⟩
  ·refine WC.condT' z l (sk (th ?_))
   obtain ⟨U, h, q⟩ := flow1 h
   refine WC.join (σ := Int) (fun x w' => U = .go x ∧ w = w') (fun x => [(0, vs a0), (1, vi x)]) ?_ ?_
   ·refine WC.block (sq (sq (rg (wY (ym z) z (wY (ym z) z ?_)))))
    obtain ⟨X, H, h⟩ := bnd h
    refine wY (Y.index_s ty9 z z H) z (wY (Y.eql_b (b := 93) z z) z (nl (th ?_)))
    rcases cnd h with ⟨m, h⟩ | ⟨m, h⟩
    ·refine WC.condT' z m (sq (rg (wY (ym z) z (wY (ya z) z (nl (th (rt (At.thenR (At.inBlockR ?_)))))))))
     have h := outs1 h q
     refine At.joinR (At.loopR ?_)
     have h := outr1 h j o
     refine At.joinBR (At.inBlockR (At.thenR ?_))
     obtain rfl := some1 h
     have I : Stp [] (Lg.O0 (fun _ => False)) w (Lg.O0 (fun _ => False)) w := (sr_ _ _ _)
     exact At.res (.inl z) z (.tmp z .nil) ⟨z, (se_ I z z)⟩
    ·refine WC.condF' z m (sk (th (sq ?_)))
     obtain ⟨V, h, J⟩ := bnd h
     refine WC.join (σ := Int) (fun x w' => x = V ∧ w = w') (fun x => [(0, vs a0), (1, vi x)]) ?_ ?_
     ·refine sq (rg (wY (ym z) z (wY (ym z) z ?_)))
      obtain ⟨Z, K, h⟩ := bnd h
      refine wY (Y.index_s ty9 z z K) z (wY (Y.eql_b (b := 92) z z) z (nl (th ?_)))
      rcases cnd h with ⟨n, h⟩ | ⟨n, h⟩
      ·refine WC.condT' z n (rg (wY (ym z) z (wY (Y.add_i z z) z ?_)))
       obtain ⟨M, t, h⟩ := lt1 h
       refine WL.yE (ya z) (congrArg vi t.symm) z (nl ?_)
       exact At.join (σ := Int) M ⟨some1 h, z⟩ (.cons z (.cons z .nil))
      ·refine WC.condF' z n (sk ?_)
       exact At.join (σ := Int) p ⟨some1 h, z⟩ (.cons z (.cons z .nil))
     ·rintro P _ ⟨rfl, rfl⟩
      replace h := J
      try dsimp only at h
      refine (show At _ _ _ [(0, vs a0), (1, vi P)] _ from ?_)
      refine th (rg (wY (ym z) z (wY (Y.add_i z z) z ?_)))
      obtain ⟨Q, D, h⟩ := lt1 h
      refine WL.yE (ya z) (congrArg vi D.symm) z (nl (At.inBlock ?_))
      exact At.join (σ := Int) Q ⟨go2 h, z⟩ (.cons z (.cons z .nil))
   ·rintro r _ ⟨rfl, rfl⟩
    replace h := flowK_go q
    try dsimp only at h
    refine (show At _ _ _ [(0, vs a0), (1, vi r)] _ from ?_)
    exact At.round r T (Nat.lt_succ_self _) ⟨next1 h j, z⟩ (.cons z (.cons z .nil))
  ·refine WC.condF' z l (WC.exit (At.thenX (At.loopX ?_)))
   exact At.hitB (σ := Unit) () ⟨brk1 h j, z⟩ .nil
 ·rintro _ _ ⟨rfl, rfl⟩
  replace h := flowK_go o
  refine (show At _ _ _ [] _ from ?_)
  refine At.inBlockHit (th (sq (rg (wY (ya z) z (nl (th (rt ?_)))))))
  obtain rfl := some1 h
  have S : Stp [] (Lg.O0 (fun _ => False)) w (Lg.O0 (fun _ => False)) w := (sr_ _ _ _)
  exact At.res (.inl z) z (.tmp z .nil) ⟨z, (se_ S z z)⟩
theorem c_ref32_thing {a0 : List UInt8} {a1 : Int} {w : World} {r0 : ref32_Thing} (h : ref32_thing a0 a1 = some r0) : Rets Tryd.prog 26 [vs a0, vi a1] w (fun v w' => v = ag [vb r0.C, vi r0.Next] ∧ Ext w w') := by
 unfold ref32_thing at h
 refine Rets.enter Tryd.func26 z z ?_
 refine (show WC _ _ _ _ [(0, vs a0), (1, vi a1)] _ from ?_)
 refine sq (rg (WL.alloc (O := (Lg.O0 (fun _ => False))) 11 [vb 0, vi 0] ty70 z z ?_))
 intro Q r P n o
 refine nl (th (sq (sq (rg (wY (ym z) z (wY (ym z) z ?_))))))
 obtain ⟨S, t, h⟩ := bnd h
 refine wY (Y.index_s ty9 z z t) z (wY (Y.eql_b (b := 92) z z) z (nl (th ?_)))
 rcases cnd h with ⟨m, h⟩ | ⟨m, h⟩
 ·refine WC.condT' z m (sq (rg (wY (ym z) z (wY (ym z) z (wY (Y.add_i z z) z ?_)))))
  obtain ⟨j, D, h⟩ := bnd h
  refine wY (Y.index_s ty9 z z D) z (wY (ym z) z (wY (Y.add_i z z) z (wY (yb (vals := [(0, vb j), (1, vi (w64 (a1 + 2)))]) (cells := [vb j, vi (w64 (a1 + 2))]) (fe_ z) (by kernel_rfl)) z (WL.store (v := ag [vb j, vi (w64 (a1 + 2))]) (cells' := [vb j, vi (w64 (a1 + 2))]) ty70 z z o z (le_ z) z z ?_))))
  intro F p G
  refine nl (th (rt (At.thenR ?_)))
  obtain rfl := some1 h
  have H : Stp [11] (Lg.O0 (fun _ => False)) w r F := (tr_ (su_ n z) (su_ p z))
  exact At.res (.inl z) z (.cell z (G.runAg 0 [vb j, vi (w64 (a1 + 2))] ty70 z z z) .nil) ⟨z, (se_ H z z)⟩
 ·refine WC.condF' z m (sk (th (sq (rg (wY (ym z) z (wY (ym z) z ?_))))))
  obtain ⟨l, I, h⟩ := bnd h
  refine wY (Y.index_s ty9 z z I) z (wY (ym z) z (wY (Y.add_i z z) z (wY (yb (vals := [(0, vb l), (1, vi (w64 (a1 + 1)))]) (cells := [vb l, vi (w64 (a1 + 1))]) (fe_ z) (by kernel_rfl)) z (WL.store (v := ag [vb l, vi (w64 (a1 + 1))]) (cells' := [vb l, vi (w64 (a1 + 1))]) ty70 z z o z (le_ z) z z ?_))))
  intro J q K
  refine nl (th (rt ?_))
  obtain rfl := some1 h
  have M : Stp [11] (Lg.O0 (fun _ => False)) w r J := (tr_ (su_ n z) (su_ q z))
  exact At.res (.inl z) z (.cell z (K.runAg 0 [vb l, vi (w64 (a1 + 1))] ty70 z z z) .nil) ⟨z, (se_ M z z)⟩
theorem c_ref32_set {A : Nat → Prop} {a0 : List UInt8} {a1 : Int} {w : World} {r0 : ref32_Got} (h : ref32_set a0 a1 = some r0) : Rets Tryd.prog 16 [vs a0, vi a1] w (fun v w' => ∃ (bq : Value), v = ag [bq, vi r0.At, vi r0.E] ∧ Ext w w' ∧ Sl rep_ref32_Piece w' (fun k => A k ∨ w.heap.size ≤ k) bq r0.L) := by
 unfold ref32_set at h
 refine Rets.enter Tryd.func16 z z ?_
 refine (show WC _ _ _ _ [(0, vs a0), (1, vi a1)] _ from ?_)
 refine sq (rg (WL.alloc (O := (Lg.O0 A)) 11 [sn, vi 0, vi 0] ty29 z z ?_))
 intro m fg br P af
 refine nl (th (sq (rg (wY (ym z) z (wY (Y.add_i z z) z ?_)))))
 obtain ⟨aW, ca, h⟩ := lt1 h
 refine WL.yE (ya z) (congrArg vi ca.symm) z (nl (th (sq (rg (wY (ym z) z (wY (ym z) z (wY (Y.len_s ty9 z) z (wY (Y.lss_i z z) z (wY (ym z) z ?_)))))))))
 obtain ⟨fh, h, d4⟩ := bnd h
 refine WL.cut 5 (σ := Bool) (fun x w' => x = fh ∧ br = w') (fun x => [(0, vs a0), (1, vi a1), (4, pt m 0), (5, vi aW), (24, vB x)]) ?_ ?_
 ·rcases cnd h with ⟨aX, h⟩ | ⟨aX, h⟩
  ·refine WL.ren 19 z (congrArg vB aX) (ug z z (wY (ym z) z (ug z z (wY (ym z) z (ug z z ?_)))))
   obtain ⟨fi, d5, h⟩ := bnd h
   refine wY (Y.index_s ty9 z z d5) z (ug z z (wY (Y.eql_b (b := 33) z z) z (wY (Y.pick (b := true) z z) z ?_)))
   exact nl (At.join (σ := Bool) (decide (fi = 33)) ⟨some1 h, z⟩ (.cons z (.cons z (.cons z (.cons z (.cons z .nil))))))
  ·refine WL.ren 19 z (congrArg vB aX) (WL.gS z z z z (WL.gS z z z z (WL.gS z z z z (WL.gS z z z z (wY (Y.pick (b := false) z z) z ?_)))))
   exact nl (At.join (σ := Bool) false ⟨some1 h, z⟩ (.cons z (.cons z (.cons z (.cons z (.cons z .nil))))))
 ·rintro o _ ⟨rfl, rfl⟩
  replace h := d4
  try dsimp only at h
  refine (show WL _ _ _ _ _ [(0, vs a0), (1, vi a1), (4, pt m 0), (5, vi aW), (24, vB o)] _ from ?_)
  refine wY (ya z) z (nl (th (sq ?_)))
  obtain ⟨fj, h, d6⟩ := bnd h
  refine WC.join (σ := Int) (fun x w' => x = fj ∧ br = w') (fun x => [(0, vs a0), (1, vi a1), (4, pt m 0), (5, vi x), (6, vB o)]) ?_ ?_
  ·refine sq (rg (wY (ym z) z (nl (th ?_))))
   rcases cnd h with ⟨aY, h⟩ | ⟨aY, h⟩
   ·refine WC.condT' z aY (rg (wY (ym z) z (wY (Y.add_i z z) z ?_)))
    obtain ⟨d7, cb, h⟩ := lt1 h
    refine WL.yE (ya z) (congrArg vi cb.symm) z (nl ?_)
    exact At.join (σ := Int) d7 ⟨some1 h, z⟩ (.cons z (.cons z (.cons z (.cons z (.cons z .nil)))))
   ·refine WC.condF' z aY (sk ?_)
    exact At.join (σ := Int) aW ⟨some1 h, z⟩ (.cons z (.cons z (.cons z (.cons z (.cons z .nil)))))
  ·rintro aZ _ ⟨rfl, rfl⟩
   replace h := d6
   try dsimp only at h
   refine (show At _ _ _ [(0, vs a0), (1, vi a1), (4, pt m 0), (5, vi aZ), (6, vB o)] _ from ?_)
   refine th (sq (rg (wY (ym z) z (wY (ym z) z ?_))))
   obtain ⟨l, d8, h⟩ := bnd h
   refine WL.call (vals := [vs a0, vi aZ]) kok25 z z (c_ref32_end d8) ?_
   rintro f3 f4 ⟨rfl, d9⟩
   obtain ⟨bs, fk, fl, r⟩ := adoptE fg (fun k => 1) d9
   refine wY (ya z) z (nl (th (sq (sq (rg (wY (ym z) z (wY (Y.lss_i z z) z (nl (th ?_)))))))))
   rcases cnd h with ⟨a2, h⟩ | ⟨a2, h⟩
   ·refine WC.condT' z a2 (sq (rg (wY (ym z) z (wY (yb (vals := [(1, vi a1), (2, vi 2)]) (cells := [sn, vi a1, vi 2]) (fe_ z) (by kernel_rfl)) z ?_))))
    have ea := af.st r z
    refine WL.store (v := ag [sn, vi a1, vi 2]) (cells' := [sn, vi a1, vi 2]) ty29 z z ea z (le_ z) z z ?_
    intro eb cc ec
    refine nl (th (rt (At.thenR ?_)))
    obtain rfl := some1 h
    have ed : Stp [11] (Lg.O0 A) w bs eb := (tr_ (su_ P z) (tr_ (su_ r z) (su_ cc z)))
    exact At.res (.inl z) z (.cell z (ec.runAg 0 [sn, vi a1, vi 2] ty29 z z z) .nil) ⟨sn, z, (se_ ed z z), (Or.inl ⟨z, z⟩)⟩
   ·refine WC.condF' z a2 (sk (th (sq (sq (rg (wY (ym z) z (wY (ym z) z (wY (Y.eql_i z z) z (nl ?_)))))))))
    refine th ?_
    rcases cnd h with ⟨a3, h⟩ | ⟨a3, h⟩
    ·refine WC.condT' z a3 (sq (rg (wY (ym z) z (wY (yb (vals := [(1, vi a1), (2, vi 3)]) (cells := [sn, vi a1, vi 3]) (fe_ z) (by kernel_rfl)) z ?_))))
     have ee := af.st r z
     refine WL.store (v := ag [sn, vi a1, vi 3]) (cells' := [sn, vi a1, vi 3]) ty29 z z ee z (le_ z) z z ?_
     intro ef cd eg
     refine nl (th (rt (At.thenR ?_)))
     obtain rfl := some1 h
     have eh : Stp [11] (Lg.O0 A) w bs ef := (tr_ (su_ P z) (tr_ (su_ r z) (su_ cd z)))
     exact At.res (.inl z) z (.cell z (eg.runAg 0 [sn, vi a1, vi 3] ty29 z z z) .nil) ⟨sn, z, (se_ eh z z), (Or.inl ⟨z, z⟩)⟩
    ·refine WC.condF' z a3 (sk (th (sq (rg ?_))))
     obtain ⟨d1, ei, h⟩ := bnd h
     refine WL.call (vals := [vB false]) kok18 z z (c_ref32_nothing ei) ?_
     rintro j ak ⟨_, rfl, ej, fm⟩
     obtain ⟨ba, fn, bt, M⟩ := adoptE bs (fun k => if ob j = some k then 12 else 1) ej
     have ek : OwnSl 12 Rep.B 4 ba ak j d1 := RowF.adopt 12 Flat.B fm bt (fun k hk => if_pos hk)
     refine wY (ya z) z (nl (th (sq ?_)))
     obtain ⟨fo, h, a4⟩ := flow1 h
     refine WC.join (σ := (List Bool × Own)) (fun x w' => fo = .go x.1 ∧ Stp [12, 13, 14, 1001, 1002, 1003, 1004, 1005, 1006] ba ak x.2 w' ∧ OwnSl 1008 Rep.B 4 x.2 w' j x.1) (fun x => [(4, pt m 0), (6, vB o), (7, vi l), (8, j)]) ?_ ?_
     ·refine WC.block ?_
      obtain ⟨d2, h, a5⟩ := flow1 h
      obtain ⟨d3, h⟩ := loop_some h
      refine WC.joinB 0 (σ := (List Bool × Own)) (fun x w' => d2 = .go x.1 ∧ Stp [12, 13, 14, 1001, 1002, 1003, 1004, 1005] ba ak x.2 w' ∧ OwnSl 1006 Rep.B 4 x.2 w' j x.1) (fun x => [(4, pt m 0), (6, vB o), (7, vi l), (8, j)]) ?_ ?_
      ·obtain ⟨fp, ce, em⟩ := OwnSl.rlb 1005 rfl ek
       refine WC.loop (σ := (Int × List Bool × Own)) (fun x k w' => loopN k (ref32_set_lp1 a0 l) (x.1, x.2.1) = some d2 ∧ Stp [12, 13, 14, 1001, 1002, 1003, 1004, 1005] ba ak x.2.2 w' ∧ OwnSl 1005 Rep.B 4 x.2.2 w' j x.2.1) (fun x => [(0, vs a0), (4, pt m 0), (5, vi x.1), (6, vB o), (7, vi l), (8, j)]) (aZ, d1, fp) d3 (.cons z (.cons z (.cons z (.cons z (.cons z (.cons z .nil)))))) ⟨h, (su_ ce z), em⟩ ?_
       rintro ⟨n, bu, bw⟩ d3 en ⟨h, G, W⟩
       obtain ⟨fq, gm, rfl, h, al⟩ := rnd1 h
       unfold ref32_set_lp1 at h
       try dsimp only at h G W
       refine (show WC _ _ _ _ [(0, vs a0), (4, pt m 0), (5, vi n), (6, vB o), (7, vi l), (8, j)] _ from ?_)
       refine sq (sq (rg (wY (ym z) z (wY (ym z) z (wY (Y.lss_i z z) z (nl (th ?_)))))))
       rcases cnd h with ⟨a6, h⟩ | ⟨a6, h⟩
       ·refine WC.condT' z a6 (sk (th ?_))
        obtain ⟨fs, h, a7⟩ := flow1 h
        refine WC.join (σ := (Int × List Bool × Own)) (fun x w' => fs = .go (x.1, x.2.1) ∧ Stp [13, 14, 1001, 1002, 1003, 1005] bw en x.2.2 w' ∧ OwnSl 1004 Rep.B 4 x.2.2 w' j x.2.1) (fun x => [(0, vs a0), (4, pt m 0), (5, vi x.1), (6, vB o), (7, vi l), (8, j)]) ?_ ?_
        ·refine WC.block (sq (sq (rg (wY (ym z) z (wY (ym z) z ?_)))))
         obtain ⟨f5, cf, h⟩ := bnd h
         refine wY (Y.index_s ty9 z z cf) z (wY (Y.eql_b (b := 45) z z) z (nl (th ?_)))
         rcases cnd h with ⟨am, h⟩ | ⟨am, h⟩
         ·refine WC.condT' z am (sq (sq (rg (wY (ym z) z (wY (Y.add_i z z) z (wY (ym z) z (wY (Y.neq_i z z) z (nl (th ?_)))))))))
          rcases cnd h with ⟨an, h⟩ | ⟨an, h⟩
          ·refine WC.condT' z an (sq (rg (wY (ym z) z (wY (yb (vals := [(1, vi n), (2, vi 3)]) (cells := [sn, vi n, vi 3]) (fe_ z) (by kernel_rfl)) z ?_))))
           have ci := ((af.st r z).st M z).st G z
           refine WL.store (v := ag [sn, vi n, vi 3]) (cells' := [sn, vi n, vi 3]) ty29 z z ci z (le_ z) z z ?_
           intro cj bx ck
           refine nl (th (rt (At.thenR (At.thenR (At.inBlockR ?_)))))
           have h := outs1 h a7
           refine At.joinR (At.loopR ?_)
           have h := outr1 h al a5
           refine At.joinBR (At.inBlockR ?_)
           have h := outs1 h a4
           refine At.joinR (At.thenR ?_)
           obtain rfl := some1 h
           have cl : Stp [11, 12, 13, 14, 1001, 1002, 1003, 1004, 1005] (Lg.O0 A) w bw cj := (tr_ (su_ P z) (tr_ (su_ r z) (tr_ (su_ M z) (tr_ (su_ G z) (su_ bx z)))))
           exact At.res (.inl z) z (.cell z (ck.runAg 0 [sn, vi n, vi 3] ty29 z z z) .nil) ⟨sn, z, (se_ cl z z), (Or.inl ⟨z, z⟩)⟩
          ·refine WC.condF' z an (sk (th (sq (rg (wY (ym z) z ?_)))))
           obtain ⟨eo, cm, h⟩ := bnd h
           obtain ⟨f6, ft, fA, ao, cn, co, ap, bz⟩ := OwnSl.at W cm
           obtain rfl := bz
           replace ap : CellsAt _ _ _ [vB eo] := ap
           have fu := CAt.own W ao ap
           refine wY (Y.indexAddr ty53 ty4 z ao z cn co) z ?_
           obtain ⟨cq, bA, h⟩ := bnd h
           refine WL.storeOwn (by decide) ty4 z z z W ao bA ?_
           intro fB bB cr
           refine nl (th (sq (rg (wY (ym z) z (wY (Y.add_i z z) z ?_)))))
           obtain ⟨cs, bC, h⟩ := lt1 h
           refine WL.yE (ya z) (congrArg vi bC.symm) z (nl (th (WC.exit (At.thenX (At.inBlockHit ?_)))))
           obtain ⟨ep, bD, ct⟩ := OwnSl.rlb 1004 rfl cr
           exact At.join (σ := (Int × List Bool × Own)) (cs, cq, ep) ⟨go2 h, (tr_ (su_ bB z) (su_ bD z)), ct⟩ (.cons z (.cons z (.cons z (.cons z (.cons z (.cons z .nil))))))
         ·refine WC.condF' z am (sk (th (sq (rg (wY (ym z) z (wY (ym z) z ?_))))))
          obtain ⟨p, cu, h⟩ := bnd h
          refine WL.call (vals := [vs a0, vi n]) kok26 z z (c_ref32_thing cu) ?_
          rintro fC fD ⟨rfl, cv⟩
          obtain ⟨er, fc, fd, Q⟩ := adoptE bw (fun k => 1) cv
          refine WL.alloc (O := er) 13 [vb 0, vi 0] ty70 z z ?_
          intro X es fF S cw
          refine WL.store (v := ag [vb p.C, vi p.Next]) (cells' := [vb p.C, vi p.Next]) ty70 z z cw z (le_ z) z z ?_
          intro fG T aq
          refine nl (th (sq (rg (wY (yL ty70 z z (aq.cells 0 [vb p.C, vi p.Next] z) z) z (WL.alloc (O := es) 14 [vb 0, vi 0] ty70 z z ?_)))))
          intro q a8 fH t cx
          refine WL.store (v := ag [vb p.C, vi p.Next]) (cells' := [vb p.C, vi p.Next]) ty70 z z cx z (le_ z) z z ?_
          intro ar D bb
          refine nl (th (sq ?_))
          obtain ⟨et, h, cy⟩ := bnd h
          refine WC.join (σ := (UInt8 × Int × Own)) (fun x w' => (x.1, x.2.1) = et ∧ Stp [14] a8 ar x.2.2 w' ∧ Blk 14 x.2.2 w' q 70 [vb x.1, vi x.2.1]) (fun x => [(0, vs a0), (4, pt m 0), (5, vi n), (6, vB o), (7, vi l), (8, j), (9, pt X 0), (10, pt q 0)]) ?_ ?_
          ·refine sq (rg (wY (yf fo70_1 z) z ?_))
           have ad := (aq.st t z).st D z
           refine wY (yl ty3 z z (ad.cell 1 _ z)) z (wY (Y.add_i z z) z (wY (ym z) z (wY (Y.lss_i z z) z (wY (ym z) z ?_))))
           obtain ⟨eu, h, cA⟩ := bnd h
           refine WL.cut 6 (σ := Bool) (fun x w' => x = eu ∧ ar = w') (fun x => [(0, vs a0), (4, pt m 0), (5, vi n), (6, vB o), (7, vi l), (8, j), (9, pt X 0), (10, pt q 0), (73, vB x)]) ?_ ?_
           ·rcases cnd h with ⟨au, h⟩ | ⟨au, h⟩
            ·refine WL.ren 67 z (congrArg vB au) (ug z z (wY (ym z) z (ug z z (wY (yf fo70_1 z) z (ug z z (wY (yl ty3 z z (ad.cell 1 _ z)) z (ug z z ?_)))))))
             obtain ⟨ew, cC, h⟩ := bnd h
             refine wY (Y.index_s ty9 z z cC) z (ug z z (wY (Y.eql_b (b := 45) z z) z (wY (Y.pick (b := true) z z) z ?_)))
             exact nl (At.join (σ := Bool) (decide (ew = 45)) ⟨some1 h, z⟩ (.cons z (.cons z (.cons z (.cons z (.cons z (.cons z (.cons z (.cons z (.cons z .nil))))))))))
            ·refine WL.ren 67 z (congrArg vB au) (WL.gS z z z z (WL.gS z z z z (WL.gS z z z z (WL.gS z z z z (WL.gS z z z z (wY (Y.pick (b := false) z z) z ?_))))))
             exact nl (At.join (σ := Bool) false ⟨some1 h, z⟩ (.cons z (.cons z (.cons z (.cons z (.cons z (.cons z (.cons z (.cons z (.cons z .nil))))))))))
           ·rintro ex _ ⟨rfl, rfl⟩
            replace h := cA
            try dsimp only at h
            refine (show WL _ _ _ _ _ [(0, vs a0), (4, pt m 0), (5, vi n), (6, vB o), (7, vi l), (8, j), (9, pt X 0), (10, pt q 0), (73, vB ex)] _ from ?_)
            refine wY (ym z) z ?_
            obtain ⟨ey, h, cD⟩ := bnd h
            refine WL.cut 7 (σ := Bool) (fun x w' => x = ey ∧ ar = w') (fun x => [(0, vs a0), (4, pt m 0), (5, vi n), (6, vB o), (7, vi l), (8, j), (9, pt X 0), (10, pt q 0), (81, vB x)]) ?_ ?_
            ·rcases cnd h with ⟨av, h⟩ | ⟨av, h⟩
             ·refine WL.ren 74 z (congrArg vB av) (ug z z (wY (ym z) z (ug z z (wY (yf fo70_1 z) z (ug z z (wY (yl ty3 z z (ad.cell 1 _ z)) z (ug z z (wY (Y.add_i z z) z (ug z z ?_)))))))))
              obtain ⟨ez, cE, h⟩ := bnd h
              refine wY (Y.index_s ty9 z z cE) z (ug z z (wY (Y.neq_b (b := 45) z z) z (wY (Y.pick (b := true) z z) z ?_)))
              exact nl (At.join (σ := Bool) (!decide (ez = 45)) ⟨some1 h, z⟩ (.cons z (.cons z (.cons z (.cons z (.cons z (.cons z (.cons z (.cons z (.cons z .nil))))))))))
             ·refine WL.ren 74 z (congrArg vB av) (WL.gS z z z z (WL.gS z z z z (WL.gS z z z z (WL.gS z z z z (WL.gS z z z z (WL.gS z z z z (wY (Y.pick (b := false) z z) z ?_)))))))
              exact nl (At.join (σ := Bool) false ⟨some1 h, z⟩ (.cons z (.cons z (.cons z (.cons z (.cons z (.cons z (.cons z (.cons z (.cons z .nil))))))))))
            ·rintro eA _ ⟨rfl, rfl⟩
             replace h := cD
             try dsimp only at h
             refine (show WL _ _ _ _ _ [(0, vs a0), (4, pt m 0), (5, vi n), (6, vB o), (7, vi l), (8, j), (9, pt X 0), (10, pt q 0), (81, vB eA)] _ from ?_)
             refine nl (th ?_)
             rcases cnd h with ⟨ax, h⟩ | ⟨ax, h⟩
             ·refine WC.condT' z ax (rg (wY (ym z) z (wY (yf fo70_1 z) z (wY (yl ty3 z z (ad.cell 1 _ z)) z (wY (Y.add_i z z) z ?_)))))
              obtain ⟨Z, cF, h⟩ := bnd h
              refine WL.call (vals := [vs a0, vi (w64 (p.Next + 1))]) kok26 z z (c_ref32_thing cF) ?_
              rintro fI fJ ⟨rfl, cG⟩
              obtain ⟨eB, fe, ff, aN⟩ := adoptE a8 (fun k => 1) cG
              have cH := bb.st aN z
              refine WL.store (v := ag [vb Z.C, vi Z.Next]) (cells' := [vb Z.C, vi Z.Next]) ty70 z z cH z (le_ z) z z ?_
              intro fK bE cI
              refine nl ?_
              exact At.join (σ := (UInt8 × Int × Own)) (Z.C, Z.Next, eB) ⟨some1 h, (tr_ (su_ aN z) (su_ bE z)), cI⟩ (.cons z (.cons z (.cons z (.cons z (.cons z (.cons z (.cons z (.cons z .nil))))))))
             ·refine WC.condF' z ax (sk ?_)
              exact At.join (σ := (UInt8 × Int × Own)) (p.C, p.Next, a8) ⟨some1 h, (sr_ _ _ _), bb⟩ (.cons z (.cons z (.cons z (.cons z (.cons z (.cons z (.cons z (.cons z .nil))))))))
          ·rintro ⟨eC, eD, ay⟩ az ⟨rfl, F, ae⟩
           replace h := cy
           try dsimp only at h F ae
           refine (show At _ _ _ [(0, vs a0), (4, pt m 0), (5, vi n), (6, vB o), (7, vi l), (8, j), (9, pt X 0), (10, pt q 0)] _ from ?_)
           refine th (sq (sq (rg (wY (yf fo70_0 z) z (wY (yl ty5 z z (ae.cell 0 _ z)) z (wY (yf fo70_0 z) z ?_))))))
           have bc := ((aq.st t z).st D z).st F z
           refine wY (yl ty5 z z (bc.cell 0 _ z)) z (wY (Y.lss_b z z) z (nl (th ?_)))
           rcases cnd h with ⟨aA, h⟩ | ⟨aA, h⟩
           ·refine WC.condT' z aA (sq (rg (wY (ym z) z (wY (yb (vals := [(1, vi n), (2, vi 3)]) (cells := [sn, vi n, vi 3]) (fe_ z) (by kernel_rfl)) z ?_))))
            have cT := ((((((((af.st r z).st M z).st G z).st Q z).st S z).st T z).st t z).st D z).st F z
            refine WL.store (v := ag [sn, vi n, vi 3]) (cells' := [sn, vi n, vi 3]) ty29 z z cT z (le_ z) z z ?_
            intro cU bF cV
            refine nl (th (rt (At.thenR (At.inBlockR ?_))))
            have h := outs1 h a7
            refine At.joinR (At.loopR ?_)
            have h := outr1 h al a5
            refine At.joinBR (At.inBlockR ?_)
            have h := outs1 h a4
            refine At.joinR (At.thenR ?_)
            obtain rfl := some1 h
            have cW : Stp [11, 12, 13, 14, 1001, 1002, 1003, 1004, 1005] (Lg.O0 A) w ay cU := (tr_ (su_ P z) (tr_ (su_ r z) (tr_ (su_ M z) (tr_ (su_ G z) (tr_ (su_ Q z) (tr_ (su_ S z) (tr_ (su_ T z) (tr_ (su_ t z) (tr_ (su_ D z) (tr_ (su_ F z) (su_ bF z)))))))))))
            exact At.res (.inl z) z (.cell z (cV.runAg 0 [sn, vi n, vi 3] ty29 z z z) .nil) ⟨sn, z, (se_ cW z z), (Or.inl ⟨z, z⟩)⟩
           ·refine WC.condF' z aA (sk (th (sq (sq (rg (wY (yf fo70_0 z) z (wY (yl ty5 z z (bc.cell 0 _ z)) z (wY (Y.conv_bi ty5.u ty3.u z) z ?_))))))))
            obtain ⟨eE, cX, h⟩ := lt1 h
            refine WL.yE (ya z) (congrArg vi cX.symm) z (nl (th ?_))
            obtain ⟨eF, h, cY⟩ := bnd h
            refine WC.join (σ := (List Bool × Own)) (fun x w' => x.1 = eF ∧ Stp [1001, 1002, 1005] ay az x.2 w' ∧ OwnSl 1003 Rep.B 4 x.2 w' j x.1) (fun x => [(0, vs a0), (4, pt m 0), (6, vB o), (7, vi l), (8, j), (10, pt q 0)]) ?_ ?_
            ·refine WC.block ?_
             obtain ⟨bG, h, cZ⟩ := flow1 h
             obtain ⟨bH, h⟩ := loop_some h
             refine WC.joinB 2 (σ := (List Bool × Own)) (fun x w' => bG = .go x.1 ∧ Stp [1001, 1005] ay az x.2 w' ∧ OwnSl 1002 Rep.B 4 x.2 w' j x.1) (fun x => [(0, vs a0), (4, pt m 0), (6, vB o), (7, vi l), (8, j), (10, pt q 0)]) ?_ ?_
             ·have c5 := (((((W.st Q z z z).st S z z z).st T z z z).st t z z z).st D z z z).st F z z z
              obtain ⟨eG, bI, c6⟩ := OwnSl.rlb 1001 rfl c5
              refine WC.loop (σ := (List Bool × Int × Own)) (fun x k w' => loopN k (ref32_set_lp2 eC) (x.1, x.2.1) = some bG ∧ Stp [1001, 1005] ay az x.2.2 w' ∧ OwnSl 1001 Rep.B 4 x.2.2 w' j x.1) (fun x => [(0, vs a0), (4, pt m 0), (6, vB o), (7, vi l), (8, j), (10, pt q 0), (11, vi x.2.1)]) (bu, eE, eG) bH (.cons z (.cons z (.cons z (.cons z (.cons z (.cons z (.cons z .nil))))))) ⟨h, (su_ bI z), c6⟩ ?_
              rintro ⟨c7, eH, eI⟩ bH fL ⟨h, U, V⟩
              obtain ⟨eJ, f7, rfl, h, bd⟩ := rnd1 h
              unfold ref32_set_lp2 at h
              try dsimp only at h U V
              refine (show WC _ _ _ _ [(0, vs a0), (4, pt m 0), (6, vB o), (7, vi l), (8, j), (10, pt q 0), (11, vi eH)] _ from ?_)
              refine sq (sq (rg (wY (ym z) z (wY (yf fo70_0 z) z ?_))))
              have c8 := ae.st U z
              refine wY (yl ty5 z z (c8.cell 0 _ z)) z (wY (Y.conv_bi ty5.u ty3.u z) z (wY (Y.leq_i z z) z (nl (th ?_))))
              rcases cnd h with ⟨aC, h⟩ | ⟨aC, h⟩
              ·refine WC.condT' z aC (sk (th (sq (WC.block (rg (wY (ym z) z (wY (ym z) z ?_)))))))
               obtain ⟨eK, c9, h⟩ := bnd h
               obtain ⟨f8, fv, fN, aD, da, db, aE, bJ⟩ := OwnSl.at V c9
               obtain rfl := bJ
               replace aE : CellsAt _ _ _ [vB eK] := aE
               have fw := CAt.own V aD aE
               refine wY (Y.indexAddr ty53 ty4 z aD z da db) z ?_
               obtain ⟨dc, bK, h⟩ := bnd h
               refine WL.storeOwn (by decide) ty4 z z z V aD bK ?_
               intro fO bL dd
               refine nl (At.inBlock (th (rg (wY (ym z) z (wY (Y.add_i z z) z ?_)))))
               obtain ⟨eL, de, h⟩ := lt1 h
               refine WL.yE (ya z) (congrArg vi de.symm) z (nl ?_)
               exact At.round (dc, eL, eI) eJ (Nat.lt_succ_self _) ⟨next1 h bd, (tr_ (su_ U z) (su_ bL z)), dd⟩ (.cons z (.cons z (.cons z (.cons z (.cons z (.cons z (.cons z .nil)))))))
              ·refine WC.condF' z aC (WC.exit (At.thenX (At.loopX ?_)))
               obtain ⟨eM, bM, df⟩ := OwnSl.rlb 1002 rfl V
               exact At.hitB (σ := (List Bool × Own)) (c7, eM) ⟨brk1 h bd, (tr_ (su_ U z) (su_ bM z)), df⟩ (.cons z (.cons z (.cons z (.cons z (.cons z (.cons z .nil))))))
             ·rintro ⟨dg, f9⟩ fP ⟨rfl, aO, bf⟩
              replace h := flowK_go cZ
              try dsimp only at h aO bf
              refine (show At _ _ _ [(0, vs a0), (4, pt m 0), (6, vB o), (7, vi l), (8, j), (10, pt q 0)] _ from ?_)
              refine At.inBlockHit ?_
              obtain ⟨eN, bO, dh⟩ := OwnSl.rlb 1003 rfl bf
              exact At.join (σ := (List Bool × Own)) (dg, eN) ⟨some1 h, (tr_ (su_ aO z) (su_ bO z)), dh⟩ (.cons z (.cons z (.cons z (.cons z (.cons z (.cons z .nil))))))
            ·rintro ⟨di, ga⟩ fQ ⟨rfl, ah, bg⟩
             replace h := cY
             try dsimp only at h ah bg
             refine (show At _ _ _ [(0, vs a0), (4, pt m 0), (6, vB o), (7, vi l), (8, j), (10, pt q 0)] _ from ?_)
             refine th (rg (wY (yf fo70_1 z) z ?_))
             have dj := ae.st ah z
             refine wY (yl ty3 z z (dj.cell 1 _ z)) z (wY (ya z) z (nl (At.inBlock ?_)))
             obtain ⟨eO, bP, dk⟩ := OwnSl.rlb 1004 rfl bg
             exact At.join (σ := (Int × List Bool × Own)) (eD, di, eO) ⟨go2 h, (tr_ (su_ Q z) (tr_ (su_ S z) (tr_ (su_ T z) (tr_ (su_ t z) (tr_ (su_ D z) (tr_ (su_ F z) (tr_ (su_ ah z) (su_ bP z)))))))), dk⟩ (.cons z (.cons z (.cons z (.cons z (.cons z (.cons z .nil))))))
        ·rintro ⟨bQ, eP, gn⟩ gb ⟨rfl, bh, bR⟩
         replace h := flowK_go a7
         try dsimp only at h bh bR
         refine (show At _ _ _ [(0, vs a0), (4, pt m 0), (5, vi bQ), (6, vB o), (7, vi l), (8, j)] _ from ?_)
         obtain ⟨eQ, bS, dl⟩ := OwnSl.rlb 1005 rfl bR
         exact At.round (bQ, eP, eQ) fq (Nat.lt_succ_self _) ⟨next1 h al, (tr_ (su_ G z) (tr_ (su_ bh z) (su_ bS z))), dl⟩ (.cons z (.cons z (.cons z (.cons z (.cons z (.cons z .nil))))))
       ·refine WC.condF' z a6 (WC.exit (At.thenX (At.loopX ?_)))
        obtain ⟨eR, bT, dm⟩ := OwnSl.rlb 1006 rfl W
        exact At.hitB (σ := (List Bool × Own)) (bu, eR) ⟨brk1 h al, (tr_ (su_ G z) (su_ bT z)), dm⟩ (.cons z (.cons z (.cons z (.cons z .nil))))
      ·rintro ⟨eS, gp⟩ gc ⟨rfl, bi, bU⟩
       replace h := flowK_go a5
       try dsimp only at h bi bU
       refine (show At _ _ _ [(4, pt m 0), (6, vB o), (7, vi l), (8, j)] _ from ?_)
       refine At.inBlockHit ?_
       obtain ⟨eT, bW, dn⟩ := OwnSl.rlb 1008 rfl bU
       exact At.join (σ := (List Bool × Own)) (eS, eT) ⟨go2 h, (tr_ (su_ bi z) (su_ bW z)), dn⟩ (.cons z (.cons z (.cons z (.cons z .nil))))
     ·rintro ⟨bX, bj⟩ aF ⟨rfl, aG, a9⟩
      replace h := flowK_go a4
      try dsimp only at h aG a9
      refine (show At _ _ _ [(4, pt m 0), (6, vB o), (7, vi l), (8, j)] _ from ?_)
      refine th (sq ?_)
      obtain ⟨eU, h, dp⟩ := bnd h
      refine WC.join (σ := (List Bool × Own)) (fun x w' => x.1 = eU ∧ Stp [1008, 1011, 1012, 1013] bj aF x.2 w' ∧ OwnSl 1015 Rep.B 4 x.2 w' j x.1) (fun x => [(4, pt m 0), (7, vi l), (8, j)]) ?_ ?_
      ·refine sq (rg (wY (ym z) z (nl (th ?_))))
       rcases cnd h with ⟨aH, h⟩ | ⟨aH, h⟩
       ·refine WC.condT' z aH (sq (rg (wY (ya z) z (nl (th ?_)))))
        obtain ⟨eV, h, dr⟩ := bnd h
        refine WC.join (σ := (List Bool × Own)) (fun x w' => x.1 = eV ∧ Stp [1008, 1011, 1012] bj aF x.2 w' ∧ OwnSl 1013 Rep.B 4 x.2 w' j x.1) (fun x => [(4, pt m 0), (7, vi l), (8, j)]) ?_ ?_
        ·refine WC.block ?_
         obtain ⟨bY, h, ds⟩ := flow1 h
         obtain ⟨bZ, h⟩ := loop_some h
         refine WC.joinB 4 (σ := (List Bool × Own)) (fun x w' => bY = .go x.1 ∧ Stp [1008, 1011] bj aF x.2 w' ∧ OwnSl 1012 Rep.B 4 x.2 w' j x.1) (fun x => [(4, pt m 0), (7, vi l), (8, j)]) ?_ ?_
         ·obtain ⟨eW, b0, dt⟩ := OwnSl.rlb 1011 rfl a9
          refine WC.loop (σ := (List Bool × Int × Own)) (fun x k w' => loopN k (ref32_set_lp3) (x.1, x.2.1) = some bY ∧ Stp [1008, 1011] bj aF x.2.2 w' ∧ OwnSl 1011 Rep.B 4 x.2.2 w' j x.1) (fun x => [(4, pt m 0), (7, vi l), (8, j), (12, vi x.2.1)]) (bX, 0, eW) bZ (.cons z (.cons z (.cons z (.cons z .nil)))) ⟨h, (su_ b0 z), dt⟩ ?_
          rintro ⟨du, eX, eY⟩ bZ fR ⟨h, ai, H⟩
          obtain ⟨eZ, gd, rfl, h, bk⟩ := rnd1 h
          unfold ref32_set_lp3 at h
          try dsimp only at h ai H
          refine (show WC _ _ _ _ [(4, pt m 0), (7, vi l), (8, j), (12, vi eX)] _ from ?_)
          refine sq (sq (rg (wY (ym z) z (wY (Y.lss_i z z) z (nl (th ?_))))))
          rcases cnd h with ⟨aI, h⟩ | ⟨aI, h⟩
          ·refine WC.condT' z aI (sk (th (sq (WC.block (rg (wY (ym z) z (wY (ym z) z (wY (ym z) z (wY (ym z) z ?_)))))))))
           obtain ⟨e0, dw, h⟩ := bnd h
           obtain ⟨ge, fx, fT, bl, dx, dy, aJ, b1⟩ := OwnSl.at H dw
           obtain rfl := b1
           replace aJ : CellsAt _ _ _ [vB e0] := aJ
           have b2 := CAt.own H bl aJ
           refine wY (Y.indexAddr ty53 ty4 z bl z dx dy) z (wY (yl ty4 z z b2.at_) z (wY (Y.not z) z ?_))
           obtain ⟨e1, dz, h⟩ := bnd h
           obtain ⟨gf, fy, fU, aK, dA, dB, aL, b3⟩ := OwnSl.at H dz
           obtain rfl := b3
           replace aL : CellsAt _ _ _ [vB e1] := aL
           have fz := CAt.own H aK aL
           refine wY (Y.indexAddr ty53 ty4 z aK z dA dB) z ?_
           obtain ⟨gg, dC, h⟩ := lt1 h
           refine WL.ren 120 z (congrArg vB dC.symm) ?_
           obtain ⟨dD, b4, h⟩ := bnd h
           refine WL.storeOwn (by decide) ty4 z z z H aK b4 ?_
           intro fV b5 dE
           refine nl (At.inBlock (th (rg (wY (ym z) z (wY (Y.add_i z z) z ?_)))))
           obtain ⟨e2, dF, h⟩ := lt1 h
           refine WL.yE (ya z) (congrArg vi dF.symm) z (nl ?_)
           exact At.round (dD, e2, eY) eZ (Nat.lt_succ_self _) ⟨next1 h bk, (tr_ (su_ ai z) (su_ b5 z)), dE⟩ (.cons z (.cons z (.cons z (.cons z .nil))))
          ·refine WC.condF' z aI (WC.exit (At.thenX (At.loopX ?_)))
           obtain ⟨e5, b6, dG⟩ := OwnSl.rlb 1012 rfl H
           exact At.hitB (σ := (List Bool × Own)) (du, e5) ⟨brk1 h bk, (tr_ (su_ ai z) (su_ b6 z)), dG⟩ (.cons z (.cons z (.cons z .nil)))
         ·rintro ⟨dH, gh⟩ fY ⟨rfl, aP, bm⟩
          replace h := flowK_go ds
          try dsimp only at h aP bm
          refine (show At _ _ _ [(4, pt m 0), (7, vi l), (8, j)] _ from ?_)
          refine At.inBlockHit ?_
          obtain ⟨e6, b7, dI⟩ := OwnSl.rlb 1013 rfl bm
          exact At.join (σ := (List Bool × Own)) (dH, e6) ⟨some1 h, (tr_ (su_ aP z) (su_ b7 z)), dI⟩ (.cons z (.cons z (.cons z .nil)))
        ·rintro ⟨dJ, gi⟩ f0 ⟨rfl, aQ, bn⟩
         replace h := dr
         try dsimp only at h aQ bn
         refine (show At _ _ _ [(4, pt m 0), (7, vi l), (8, j)] _ from ?_)
         obtain ⟨e7, b8, dK⟩ := OwnSl.rlb 1015 rfl bn
         exact At.join (σ := (List Bool × Own)) (dJ, e7) ⟨some1 h, (tr_ (su_ aQ z) (su_ b8 z)), dK⟩ (.cons z (.cons z (.cons z .nil)))
       ·refine WC.condF' z aH (sk ?_)
        obtain ⟨e8, b9, dL⟩ := OwnSl.rlb 1015 rfl a9
        exact At.join (σ := (List Bool × Own)) (bX, e8) ⟨some1 h, (su_ b9 z), dL⟩ (.cons z (.cons z (.cons z .nil)))
      ·rintro ⟨dM, gj⟩ f1 ⟨rfl, aj, aM⟩
       replace h := dp
       try dsimp only at h aj aM
       refine (show At _ _ _ [(4, pt m 0), (7, vi l), (8, j)] _ from ?_)
       refine th (sq (rg (wY (ym z) z ?_)))
       have dN := h
       obtain ⟨I, J, K, rfl⟩ := aM.shape
       have h := dN
       refine wY (yb (vals := [(2, (vl I J K))]) (cells := [vB false, vB false, (vl I J K), vb 0]) (fe_ z) (by kernel_rfl)) z ?_
       obtain ⟨e9, aR, dO⟩ := OwnSl.giveF rfl Flat.B aM
       refine WL.buildSlice (O := e9) (R := rep_ref32_Piece) (vals := [(0, ag [vB false, vB false, (vl I J K), vb 0])]) 15 [vB false, vB false, (vl I J K), vb 0] (xs := [(ref32_Piece.mk false false dM 0)]) (by decide) ty27 ty55 (by decide) (by decide) (fe_ z) (by kernel_rfl) z ⟨[vB false, vB false, (vl I J K), vb 0], [], z, ⟨[vB false], [vB false, (vl I J K), vb 0], z, z, ⟨[vB false], [(vl I J K), vb 0], z, z, ⟨[(vl I J K)], [vb 0], z, ⟨_, z, (Sl.mono dO frs_imm)⟩, z⟩⟩⟩, z⟩ z ?_
       intro gk gl f2 aS bo
       refine wY (ym z) z (wY (Y.add_i z z) z ?_)
       have dP := h
       obtain ⟨aa, ab, ac, rfl⟩ := bo.shape
       have h := dP
       refine wY (yb (vals := [(0, (vl aa ab ac)), (1, vi (w64 (l + 1)))]) (cells := [(vl aa ab ac), vi (w64 (l + 1)), vi 0]) (fe_ z) (by kernel_rfl)) z ?_
       have dV := (((((af.st r z).st M z).st aG z).st aj z).st aR z).st aS z
       refine WL.store (v := ag [(vl aa ab ac), vi (w64 (l + 1)), vi 0]) (cells' := [(vl aa ab ac), vi (w64 (l + 1)), vi 0]) ty29 z z dV z (le_ z) z z ?_
       intro dW aT dX
       refine nl (th (rt ?_))
       obtain rfl := some1 h
       have dY := bo.st aT z z z
       obtain ⟨fa, aU, dZ⟩ := OwnSl.give rfl dY
       have bp : Stp [11, 12, 13, 14, 15, 1001, 1002, 1003, 1004, 1005, 1006, 1008, 1011, 1012, 1013, 1015] (Lg.O0 A) w fa dW := (tr_ (su_ P z) (tr_ (su_ r z) (tr_ (su_ M z) (tr_ (su_ aG z) (tr_ (su_ aj z) (tr_ (su_ aR z) (tr_ (su_ aS z) (tr_ (su_ aT z) (su_ aU z)))))))))
       have d0 := dX.st aU z
       exact At.res (.inl z) z (.cell z (d0.runAg 0 [(vl aa ab ac), vi (w64 (l + 1)), vi 0] ty29 z z z) .nil) ⟨(vl aa ab ac), z, (se_ bp z z), (Sl.outI dZ bp low0 O0_A)⟩
theorem c_ref32_plain {a0 : UInt8} {w : World} {r0 : ref32_Piece} (h : ref32_plain a0 = some r0) : Rets Tryd.prog 17 [vb a0] w (fun v w' => ∃ (D : Value), v = ag [vB r0.Many, vB r0.Plain, D, vb r0.C] ∧ Ext w w' ∧ RowF Rep.B 4 w w' D r0.In) := by
 unfold ref32_plain at h
 refine Rets.enter Tryd.func17 z z ?_
 refine (show WC _ _ _ _ [(0, vb a0)] _ from ?_)
 refine sq (rg (WL.alloc (O := (Lg.O0 (fun _ => False))) 11 [vB false, vB false, sn, vb 0] ty55 z z ?_))
 intro ar af an J Q
 refine nl (th (sq (rg ?_)))
 obtain ⟨ah, S, h⟩ := bnd h
 refine WL.call (vals := [vB false]) kok18 z z (c_ref32_nothing S) ?_
 rintro F T ⟨_, rfl, U, ai⟩
 obtain ⟨P, aj, G, q⟩ := adoptE af (fun k => if ob F = some k then 12 else 1) U
 have n : OwnSl 12 Rep.B 4 P T F ah := RowF.adopt 12 Flat.B ai G (fun k hk => if_pos hk)
 refine wY (ya z) z (nl (th (sq (rg (wY (ym z) z (wY (ym z) z (wY (Y.conv_bi ty5.u ty3.u z) z ?_)))))))
 obtain ⟨ak, V, h⟩ := bnd h
 obtain ⟨au, al, ao, o, W, X, p, K⟩ := OwnSl.at n V
 obtain rfl := K
 replace p : CellsAt _ _ _ [vB ak] := p
 have am := CAt.own n o p
 refine wY (Y.indexAddr ty53 ty4 z o z W X) z ?_
 obtain ⟨ap, M, h⟩ := bnd h
 refine WL.storeOwn (by decide) ty4 z z z n o M ?_
 intro aq r H
 refine nl (th (sq (rg (wY (ym z) z (wY (ym z) z ?_)))))
 have Z := h
 obtain ⟨j, l, m, rfl⟩ := H.shape
 have h := Z
 refine wY (yb (vals := [(1, vB true), (2, (vl j l m)), (3, vb a0)]) (cells := [vB false, vB true, (vl j l m), vb a0]) (fe_ z) (by kernel_rfl)) z ?_
 have ab := (Q.st q z).st r z
 refine WL.store (v := ag [vB false, vB true, (vl j l m), vb a0]) (cells' := [vB false, vB true, (vl j l m), vb a0]) ty55 z z ab z (le_ z) z z ?_
 intro ac t ad
 refine nl (th (rt ?_))
 obtain rfl := some1 h
 have I : Stp [11, 12] (Lg.O0 (fun _ => False)) w P ac := (tr_ (su_ J z) (tr_ (su_ q z) (tr_ (su_ r z) (su_ t z))))
 have ae := H.st t z z z
 exact At.res (.inl z) z (.cell z (ad.runAg 0 [vB false, vB true, (vl j l m), vb a0] ty55 z z z) .nil) ⟨(vl j l m), z, (se_ I z z), (OwnSl.outF ae I low0 z)⟩
theorem c_ref32_Compile {A : Nat → Prop} {a0 : List UInt8} {w : World} {r0 : ref32_Got} (h : ref32_Compile a0 = some r0) : Rets Tryd.prog 8 [vs a0] w (fun v w' => ∃ (a4 : Value), v = ag [a4, vi r0.At, vi r0.E] ∧ Ext w w' ∧ Sl rep_ref32_Piece w' (fun k => A k ∨ w.heap.size ≤ k) a4 r0.L) := by
 unfold ref32_Compile at h
 refine Rets.enter Tryd.func8 z z ?_
 refine (show WC _ _ _ _ [(0, vs a0)] _ from ?_)
 refine sq (rg (WL.alloc (O := (Lg.O0 A)) 11 [sn, vi 0, vi 0] ty29 z z ?_))
 intro Z aQ a5 aa ah
 refine nl (th (sq (sq (rg (wY (ym z) z (wY (Y.len_s ty9 z) z (wY (Y.gtr_i z z) z (nl (th ?_)))))))))
 rcases cnd h with ⟨aH, h⟩ | ⟨aH, h⟩
 ·refine WC.condT' z aH (sq (rg (wY (yb (vals := [(1, vi 64), (2, vi 4)]) (cells := [sn, vi 64, vi 4]) (fe_ z) (by kernel_rfl)) z (WL.store (v := ag [sn, vi 64, vi 4]) (cells' := [sn, vi 64, vi 4]) ty29 z z ah z (le_ z) z z ?_))))
  intro c0 bF c1
  refine nl (th (rt (At.thenR ?_)))
  obtain rfl := some1 h
  have c2 : Stp [11] (Lg.O0 A) w aQ c0 := (tr_ (su_ aa z) (su_ bF z))
  exact At.res (.inl z) z (.cell z (c1.runAg 0 [sn, vi 64, vi 4] ty29 z z z) .nil) ⟨sn, z, (se_ c2 z z), (Or.inl ⟨z, z⟩)⟩
 ·refine WC.condF' z aH (sk (th (sq (rg (wY (ya z) z (nl (th (sq (rg ?_)))))))))
  refine wY (ya z) z (nl (th (sq (WC.block ?_))))
  obtain ⟨cU, h, aI⟩ := flow1 h
  obtain ⟨cV, h⟩ := loop_some h
  refine WC.joinB 0 (σ := (List ref32_Piece × Own × Value)) (fun x w' => cU = .go x.1 ∧ Stp [12, 14, 15, 17, 19, 20, 22, 23, 25, 1001, 1002, 1003] aQ a5 x.2.1 w' ∧ OwnSl 1004 rep_ref32_Piece 55 x.2.1 w' x.2.2 x.1) (fun x => [(2, pt Z 0), (3, x.2.2)]) ?_ ?_
  ·refine WC.loop (σ := (List ref32_Piece × Int × Own × Value)) (fun x k w' => loopN k (ref32_Compile_lp1 a0) (x.1, x.2.1) = some cU ∧ Stp [12, 14, 15, 17, 19, 20, 22, 23, 25, 1001, 1002, 1003] aQ a5 x.2.2.1 w' ∧ OwnSl 1003 rep_ref32_Piece 55 x.2.2.1 w' x.2.2.2 x.1) (fun x => [(0, vs a0), (2, pt Z 0), (3, x.2.2.2), (4, vi x.2.1)]) ([], 0, aQ, sn) cV (.cons z (.cons z (.cons z (.cons z .nil)))) ⟨h, (sr_ _ _ _), (OwnSl.nil 1003 rep_ref32_Piece 55)⟩ ?_
   rintro ⟨dT, o, F, cW⟩ cV a6 ⟨h, p, G⟩
   obtain ⟨dU, eG, rfl, h, ai⟩ := rnd1 h
   unfold ref32_Compile_lp1 at h
   try dsimp only at h p G
   refine (show WC _ _ _ _ [(0, vs a0), (2, pt Z 0), (3, cW), (4, vi o)] _ from ?_)
   refine sq (sq (rg (wY (ym z) z (wY (ym z) z (wY (Y.len_s ty9 z) z (wY (Y.lss_i z z) z (nl (th ?_))))))))
   rcases cnd h with ⟨aJ, h⟩ | ⟨aJ, h⟩
   ·refine WC.condT' z aJ (sk (th ?_))
    obtain ⟨dV, h, aK⟩ := flow1 h
    refine WC.join (σ := (List ref32_Piece × Int × Own × Value)) (fun x w' => dV = .go (x.1, x.2.1) ∧ Stp [12, 14, 17, 19, 1001, 1003] F a6 x.2.2.1 w' ∧ OwnSl 1002 rep_ref32_Piece 55 x.2.2.1 w' x.2.2.2 x.1) (fun x => [(0, vs a0), (2, pt Z 0), (3, x.2.2.2), (4, vi x.2.1)]) ?_ ?_
    ·refine WC.block (sq (rg (wY (ym z) z (wY (ym z) z ?_))))
     obtain ⟨dW, c3, h⟩ := bnd h
     refine wY (Y.index_s ty9 z z c3) z (wY (ya z) z (nl (th (sq (sq (rg (wY (ym z) z (wY (Y.eql_b (b := 91) z z) z (nl ?_)))))))))
     refine th ?_
     rcases cnd h with ⟨aL, h⟩ | ⟨aL, h⟩
     ·refine WC.condT' z aL (sq (rg (wY (ym z) z (wY (ym z) z ?_))))
      obtain ⟨n, c4, h⟩ := bnd h
      refine WL.call (vals := [vs a0, vi o]) kok16 z z (c_ref32_set (A := imm F) c4) ?_
      rintro eh c5 ⟨dX, rfl, c6, dY⟩
      obtain ⟨cX, a7, a8, ab⟩ := adoptE F (fun k => 1) c6
      have c7 : Sl rep_ref32_Piece c5 (imm cX) dX n.L := Sl.adoptI (O := F) dY (fun _ hk => hk) (fun _ _ => Nat.le_refl _) a7 a8
      refine WL.alloc (O := cX) 12 [sn, vi 0, vi 0] ty29 z z ?_
      intro eH cY ei H c8
      have aM := c7.i H z z
      have c9 := h
      obtain ⟨ac, ad, ae, rfl⟩ := aM.shape
      have h := c9
      refine WL.store (v := ag [(vl ac ad ae), vi n.At, vi n.E]) (cells' := [(vl ac ad ae), vi n.At, vi n.E]) ty29 z z c8 z (le_ z) z z ?_
      intro ej D aj
      refine nl (th (sq (sq (rg (wY (yf fo29_2 z) z (wY (yl ty24 z z (aj.cell 2 _ z)) z (wY (Y.neq_i z z) z (nl (th ?_)))))))))
      rcases cnd h with ⟨aN, h⟩ | ⟨aN, h⟩
      ·refine WC.condT' z aN (sq (rg (wY (yL ty29 z z (aj.cells 0 [(vl ac ad ae), vi n.At, vi n.E] z) z) z ?_)))
       have dd := (((ah.st p z).st ab z).st H z).st D z
       refine WL.store (v := ag [(vl ac ad ae), vi n.At, vi n.E]) (cells' := [(vl ac ad ae), vi n.At, vi n.E]) ty29 z z dd z (le_ z) z z ?_
       intro de aR df
       refine nl (th (rt (At.thenR (At.thenR (At.inBlockR ?_)))))
       have h := outs1 h aK
       refine At.joinR (At.loopR ?_)
       have h := outr1 h ai aI
       refine At.joinBR (At.inBlockR (At.thenR ?_))
       obtain rfl := some1 h
       have a9 : Stp [11, 12, 14, 15, 17, 19, 20, 22, 23, 25, 1001, 1002, 1003] (Lg.O0 A) w cY de := (tr_ (su_ aa z) (tr_ (su_ p z) (tr_ (su_ ab z) (tr_ (su_ H z) (tr_ (su_ D z) (su_ aR z))))))
       have dh := (aM.i D z z).i aR z z
       exact At.res (.inl z) z (.cell z (df.runAg 0 [(vl ac ad ae), vi n.At, vi n.E] ty29 z z z) .nil) ⟨(vl ac ad ae), z, (se_ a9 z z), (Sl.outI dh a9 low0 O0_A)⟩
      ·refine WC.condF' z aN (sk (th (sq (rg (wY (ym z) z (wY (yf fo29_0 z) z (wY (yl ty27 z z (aj.cell 0 _ z)) z ?_)))))))
       obtain ⟨m, di, h⟩ := bnd h
       have dj := aM.i D z z
       obtain ⟨eI, dZ, d3, ek, dk, dl, dm, aO, bG, bH⟩ := Sl.at2 dj di
       obtain ⟨_, _, rfl, rfl, ⟨_, _, rfl, rfl, ⟨_, _, rfl, ⟨d0, rfl, ba⟩, rfl⟩⟩⟩ := bG
       replace aO : CellsAt _ _ _ [vB m.Many, vB m.Plain, d0, vb m.C] := aO
       have bb := CAt.imm aO bH
       refine wY (Y.indexAddr ty27 ty55 z dk z dl dm) z (wY (yL ty55 z z bb.at_ z) z ?_)
       have bI := h
       obtain ⟨I, J, K, rfl⟩ := ba.shape
       have h := bI
       refine WL.buildSlice (O := cY) (R := rep_ref32_Piece) (vals := [(0, ag [vB m.Many, vB m.Plain, (vl I J K), vb m.C])]) 13 [vB m.Many, vB m.Plain, (vl I J K), vb m.C] (xs := [m]) (by decide) ty27 ty55 (by decide) (by decide) (fe_ z) (by kernel_rfl) z ⟨[vB m.Many, vB m.Plain, (vl I J K), vb m.C], [], z, ⟨[vB m.Many], [vB m.Plain, (vl I J K), vb m.C], z, z, ⟨[vB m.Plain], [(vl I J K), vb m.C], z, z, ⟨[(vl I J K)], [vb m.C], z, ⟨_, z, ba⟩, z⟩⟩⟩, z⟩ z ?_
       intro em en d4 af bJ
       obtain ⟨bK, bc, h⟩ := bnd h
       have bP := (((G.st ab z z z).st H z z z).st D z z z).st af z z z
       refine WL.append (by decide) ty27 ty55 z (by decide) z z bP bJ.src bc z ?_
       intro dn eo d5 ap bQ
       refine wY (ya z) z (nl (th (sq (rg (wY (yf fo29_1 z) z ?_)))))
       have bS := (aj.st af z).st ap z
       refine wY (yl ty3 z z (bS.cell 1 _ z)) z (wY (ya z) z (nl (th (WC.exit (At.thenX (At.inBlockHit ?_))))))
       obtain ⟨dp, bd, bT⟩ := OwnSl.rlb 1002 rfl bQ
       exact At.join (σ := (List ref32_Piece × Int × Own × Value)) (bK, n.At, dp, dn) ⟨go2 h, (tr_ (su_ ab z) (tr_ (su_ H z) (tr_ (su_ D z) (tr_ (su_ af z) (tr_ (su_ ap z) (su_ bd z)))))), bT⟩ (.cons z (.cons z (.cons z (.cons z .nil))))
     ·refine WC.condF' z aL (sk (th (sq (sq (rg (wY (ym z) z (wY (Y.eql_b (b := 92) z z) z (nl (th ?_)))))))))
      rcases cnd h with ⟨ak, h⟩ | ⟨ak, h⟩
      ·refine WC.condT' z ak (sq (sq (rg (wY (ym z) z (wY (Y.add_i z z) z (wY (ym z) z (wY (Y.len_s ty9 z) z (wY (Y.eql_i z z) z (nl ?_)))))))))
       refine th ?_
       rcases cnd h with ⟨al, h⟩ | ⟨al, h⟩
       ·refine WC.condT' z al (sq (rg (wY (ym z) z (wY (yb (vals := [(1, vi o), (2, vi 2)]) (cells := [sn, vi o, vi 2]) (fe_ z) (by kernel_rfl)) z ?_))))
        have bU := ah.st p z
        refine WL.store (v := ag [sn, vi o, vi 2]) (cells' := [sn, vi o, vi 2]) ty29 z z bU z (le_ z) z z ?_
        intro bW bf bX
        refine nl (th (rt (At.thenR (At.thenR (At.inBlockR ?_)))))
        have h := outs1 h aK
        refine At.joinR (At.loopR ?_)
        have h := outr1 h ai aI
        refine At.joinBR (At.inBlockR (At.thenR ?_))
        obtain rfl := some1 h
        have bY : Stp [11, 12, 14, 15, 17, 19, 20, 22, 23, 25, 1001, 1002, 1003] (Lg.O0 A) w F bW := (tr_ (su_ aa z) (tr_ (su_ p z) (su_ bf z)))
        exact At.res (.inl z) z (.cell z (bX.runAg 0 [sn, vi o, vi 2] ty29 z z z) .nil) ⟨sn, z, (se_ bY z z), (Or.inl ⟨z, z⟩)⟩
       ·refine WC.condF' z al (sk (th (sq (rg (wY (ym z) z (wY (ym z) z (wY (ym z) z (wY (Y.add_i z z) z ?_))))))))
        obtain ⟨dr, bZ, h⟩ := bnd h
        refine wY (Y.index_s ty9 z z bZ) z ?_
        obtain ⟨j, b0, h⟩ := bnd h
        refine WL.call (vals := [vb dr]) kok17 z z (c_ref32_plain b0) ?_
        rintro d6 b1 ⟨bg, rfl, b2, ds⟩
        obtain ⟨dt, dQ, a1, aq⟩ := adoptE F (fun k => if ob bg = some k then 14 else 1) b2
        have aS : OwnSl 14 Rep.B 4 dt b1 bg j.In := RowF.adopt 14 Flat.B ds a1 (fun k hk => if_pos hk)
        have b3 := h
        obtain ⟨M, P, Q, rfl⟩ := aS.shape
        have h := b3
        obtain ⟨du, ar, b4⟩ := OwnSl.giveF rfl Flat.B aS
        refine WL.buildSlice (O := du) (R := rep_ref32_Piece) (vals := [(0, ag [vB j.Many, vB j.Plain, (vl M P Q), vb j.C])]) 15 [vB j.Many, vB j.Plain, (vl M P Q), vb j.C] (xs := [j]) (by decide) ty27 ty55 (by decide) (by decide) (fe_ z) (by kernel_rfl) z ⟨[vB j.Many, vB j.Plain, (vl M P Q), vb j.C], [], z, ⟨[vB j.Many], [vB j.Plain, (vl M P Q), vb j.C], z, z, ⟨[vB j.Plain], [(vl M P Q), vb j.C], z, z, ⟨[(vl M P Q)], [vb j.C], z, ⟨_, z, (Sl.mono b4 frs_imm)⟩, z⟩⟩⟩, z⟩ z ?_
        intro ep er d7 au b5
        obtain ⟨b6, bh, h⟩ := bnd h
        have b9 := ((G.st aq z z z).st ar z z z).st au z z z
        refine WL.append (by decide) ty27 ty55 z (by decide) z z b9 b5.src bh z ?_
        intro dw es d8 bi ca
        refine wY (ya z) z (nl (th (sq (rg (wY (ym z) z (wY (Y.add_i z z) z ?_))))))
        obtain ⟨cb, bj, h⟩ := lt1 h
        refine WL.yE (ya z) (congrArg vi bj.symm) z (nl (th (WC.exit (At.thenX (At.inBlockHit ?_)))))
        obtain ⟨dx, bk, cc⟩ := OwnSl.rlb 1002 rfl ca
        exact At.join (σ := (List ref32_Piece × Int × Own × Value)) (b6, cb, dx, dw) ⟨go2 h, (tr_ (su_ aq z) (tr_ (su_ ar z) (tr_ (su_ au z) (tr_ (su_ bi z) (su_ bk z))))), cc⟩ (.cons z (.cons z (.cons z (.cons z .nil))))
      ·refine WC.condF' z ak (sk (th (sq ?_)))
       obtain ⟨dy, h, cd⟩ := bnd h
       refine WC.join (σ := (List ref32_Piece × Own × Value)) (fun x w' => x.1 = dy ∧ Stp [17, 19, 1003] F a6 x.2.1 w' ∧ OwnSl 1001 rep_ref32_Piece 55 x.2.1 w' x.2.2 x.1) (fun x => [(0, vs a0), (2, pt Z 0), (3, x.2.2), (4, vi o)]) ?_ ?_
       ·refine sq (rg (wY (ym z) z (wY (Y.eql_b (b := 42) z z) z (nl (th ?_)))))
        rcases cnd h with ⟨am, h⟩ | ⟨am, h⟩
        ·refine WC.condT' z am (rg (wY (ym z) z (wY (yb (vals := [(0, vB true)]) (cells := [vB true, vB false, sn, vb 0]) (fe_ z) (by kernel_rfl)) z (WL.buildSlice (O := F) (R := rep_ref32_Piece) (vals := [(0, ag [vB true, vB false, sn, vb 0])]) 16 [vB true, vB false, sn, vb 0] (xs := [(ref32_Piece.mk true false [] 0)]) (by decide) ty27 ty55 (by decide) (by decide) (fe_ z) (by kernel_rfl) z ⟨[vB true, vB false, sn, vb 0], [], z, ⟨[vB true], [vB false, sn, vb 0], z, z, ⟨[vB false], [sn, vb 0], z, z, ⟨[sn], [vb 0], z, ⟨_, z, (Or.inl ⟨z, z⟩)⟩, z⟩⟩⟩, z⟩ z ?_))))
         intro et eu d9 av ce
         obtain ⟨cf, bl, h⟩ := bnd h
         have cg := G.st av z z z
         refine WL.append (by decide) ty27 ty55 z (by decide) z z cg ce.src bl z ?_
         intro dz ew ea bm ch
         refine wY (ya z) z (nl ?_)
         obtain ⟨dA, bn, ci⟩ := OwnSl.rlb 1001 rfl ch
         exact At.join (σ := (List ref32_Piece × Own × Value)) (cf, dA, dz) ⟨some1 h, (tr_ (su_ av z) (tr_ (su_ bm z) (su_ bn z))), ci⟩ (.cons z (.cons z (.cons z (.cons z .nil))))
        ·refine WC.condF' z am (sq (rg (wY (ym z) z (wY (Y.eql_b (b := 63) z z) z (nl (th ?_))))))
         rcases cnd h with ⟨an, h⟩ | ⟨an, h⟩
         ·refine WC.condT' z an (rg (wY (ym z) z ?_))
          obtain ⟨bo, cj, h⟩ := bnd h
          refine WL.call (vals := [vB true]) kok18 z z (c_ref32_nothing cj) ?_
          rintro aT ck ⟨_, rfl, cl, dB⟩
          obtain ⟨dC, dR, a2, ax⟩ := adoptE F (fun k => if ob aT = some k then 17 else 1) cl
          have aU : OwnSl 17 Rep.B 4 dC ck aT bo := RowF.adopt 17 Flat.B dB a2 (fun k hk => if_pos hk)
          have cm := h
          obtain ⟨q, r, t, rfl⟩ := aU.shape
          have h := cm
          refine wY (yb (vals := [(2, (vl q r t))]) (cells := [vB false, vB false, (vl q r t), vb 0]) (fe_ z) (by kernel_rfl)) z ?_
          obtain ⟨dD, ay, cn⟩ := OwnSl.giveF rfl Flat.B aU
          refine WL.buildSlice (O := dD) (R := rep_ref32_Piece) (vals := [(0, ag [vB false, vB false, (vl q r t), vb 0])]) 18 [vB false, vB false, (vl q r t), vb 0] (xs := [(ref32_Piece.mk false false bo 0)]) (by decide) ty27 ty55 (by decide) (by decide) (fe_ z) (by kernel_rfl) z ⟨[vB false, vB false, (vl q r t), vb 0], [], z, ⟨[vB false], [vB false, (vl q r t), vb 0], z, z, ⟨[vB false], [(vl q r t), vb 0], z, z, ⟨[(vl q r t)], [vb 0], z, ⟨_, z, (Sl.mono cn frs_imm)⟩, z⟩⟩⟩, z⟩ z ?_
          intro ex ey eb az co
          obtain ⟨cq, bp, h⟩ := bnd h
          have ct := ((G.st ax z z z).st ay z z z).st az z z z
          refine WL.append (by decide) ty27 ty55 z (by decide) z z ct co.src bp z ?_
          intro dE ez ec bq cu
          refine wY (ya z) z (nl ?_)
          obtain ⟨dF, br, cv⟩ := OwnSl.rlb 1001 rfl cu
          exact At.join (σ := (List ref32_Piece × Own × Value)) (cq, dF, dE) ⟨some1 h, (tr_ (su_ ax z) (tr_ (su_ ay z) (tr_ (su_ az z) (tr_ (su_ bq z) (su_ br z))))), cv⟩ (.cons z (.cons z (.cons z (.cons z .nil))))
         ·refine WC.condF' z an (rg (wY (ym z) z (wY (ym z) z ?_)))
          obtain ⟨l, cw, h⟩ := bnd h
          refine WL.call (vals := [vb dW]) kok17 z z (c_ref32_plain cw) ?_
          rintro ed cx ⟨bs, rfl, cy, dG⟩
          obtain ⟨dH, dS, a3, aA⟩ := adoptE F (fun k => if ob bs = some k then 19 else 1) cy
          have aW : OwnSl 19 Rep.B 4 dH cx bs l.In := RowF.adopt 19 Flat.B dG a3 (fun k hk => if_pos hk)
          have cz := h
          obtain ⟨S, T, U, rfl⟩ := aW.shape
          have h := cz
          obtain ⟨dI, aC, cA⟩ := OwnSl.giveF rfl Flat.B aW
          refine WL.buildSlice (O := dI) (R := rep_ref32_Piece) (vals := [(0, ag [vB l.Many, vB l.Plain, (vl S T U), vb l.C])]) 20 [vB l.Many, vB l.Plain, (vl S T U), vb l.C] (xs := [l]) (by decide) ty27 ty55 (by decide) (by decide) (fe_ z) (by kernel_rfl) z ⟨[vB l.Many, vB l.Plain, (vl S T U), vb l.C], [], z, ⟨[vB l.Many], [vB l.Plain, (vl S T U), vb l.C], z, z, ⟨[vB l.Plain], [(vl S T U), vb l.C], z, z, ⟨[(vl S T U)], [vb l.C], z, ⟨_, z, (Sl.mono cA frs_imm)⟩, z⟩⟩⟩, z⟩ z ?_
          intro eA eB ee aD cC
          obtain ⟨cD, bt, h⟩ := bnd h
          have cG := ((G.st aA z z z).st aC z z z).st aD z z z
          refine WL.append (by decide) ty27 ty55 z (by decide) z z cG cC.src bt z ?_
          intro dJ eC ef bu cH
          refine wY (ya z) z (nl ?_)
          obtain ⟨dK, bw, cI⟩ := OwnSl.rlb 1001 rfl cH
          exact At.join (σ := (List ref32_Piece × Own × Value)) (cD, dK, dJ) ⟨some1 h, (tr_ (su_ aA z) (tr_ (su_ aC z) (tr_ (su_ aD z) (tr_ (su_ bu z) (su_ bw z))))), cI⟩ (.cons z (.cons z (.cons z (.cons z .nil))))
       ·rintro ⟨dL, eD, bx⟩ eg ⟨rfl, aE, aX⟩
        replace h := cd
        try dsimp only at h aE aX
        refine (show At _ _ _ [(0, vs a0), (2, pt Z 0), (3, bx), (4, vi o)] _ from ?_)
        refine th (rg (wY (ym z) z (wY (Y.add_i z z) z ?_)))
        obtain ⟨cJ, bz, h⟩ := lt1 h
        refine WL.yE (ya z) (congrArg vi bz.symm) z (nl (At.inBlock ?_))
        obtain ⟨dM, bA, cK⟩ := OwnSl.rlb 1002 rfl aX
        exact At.join (σ := (List ref32_Piece × Int × Own × Value)) (dL, cJ, dM, bx) ⟨go2 h, (tr_ (su_ aE z) (su_ bA z)), cK⟩ (.cons z (.cons z (.cons z (.cons z .nil))))
    ·rintro ⟨d1, bB, eJ, cZ⟩ eE ⟨rfl, aY, bC⟩
     replace h := flowK_go aK
     try dsimp only at h aY bC
     refine (show At _ _ _ [(0, vs a0), (2, pt Z 0), (3, cZ), (4, vi bB)] _ from ?_)
     obtain ⟨dN, bD, cL⟩ := OwnSl.rlb 1003 rfl bC
     exact At.round (d1, bB, dN, cZ) dU (Nat.lt_succ_self _) ⟨next1 h ai, (tr_ (su_ p z) (tr_ (su_ aY z) (su_ bD z))), cL⟩ (.cons z (.cons z (.cons z (.cons z .nil))))
   ·refine WC.condF' z aJ (WC.exit (At.thenX (At.loopX ?_)))
    obtain ⟨dO, bE, cM⟩ := OwnSl.rlb 1004 rfl G
    exact At.hitB (σ := (List ref32_Piece × Own × Value)) (dT, dO, cW) ⟨brk1 h ai, (tr_ (su_ p z) (su_ bE z)), cM⟩ (.cons z (.cons z .nil))
  ·rintro ⟨eK, eL, d2⟩ eF ⟨rfl, ao, aP⟩
   replace h := flowK_go aI
   try dsimp only at h ao aP
   refine (show At _ _ _ [(2, pt Z 0), (3, d2)] _ from ?_)
   refine At.inBlockHit (th (sq (rg (wY (ym z) z ?_))))
   have cN := h
   obtain ⟨V, W, X, rfl⟩ := aP.shape
   have h := cN
   refine wY (yb (vals := [(0, (vl V W X))]) (cells := [(vl V W X), vi 0, vi 0]) (fe_ z) (by kernel_rfl)) z ?_
   have cO := ah.st ao z
   refine WL.store (v := ag [(vl V W X), vi 0, vi 0]) (cells' := [(vl V W X), vi 0, vi 0]) ty29 z z cO z (le_ z) z z ?_
   intro cP aF cQ
   refine nl (th (rt ?_))
   obtain rfl := some1 h
   have cR := aP.st aF z z z
   obtain ⟨dP, aG, cS⟩ := OwnSl.give rfl cR
   have aZ : Stp [11, 12, 14, 15, 17, 19, 20, 22, 23, 25, 1001, 1002, 1003, 1004] (Lg.O0 A) w dP cP := (tr_ (su_ aa z) (tr_ (su_ ao z) (tr_ (su_ aF z) (su_ aG z))))
   have cT := cQ.st aG z
   exact At.res (.inl z) z (.cell z (cT.runAg 0 [(vl V W X), vi 0, vi 0] ty29 z z z) .nil) ⟨(vl V W X), z, (se_ aZ z z), (Sl.outI cS aZ low0 O0_A)⟩
theorem c_glob_Glob_Plain {A : Nat → Prop} {v0_1 : Value} {a0 : glob_Glob} {b0 : Nat} {w : World} (hs0_1 : Sl rep_glob_piece w A v0_1 a0.pieces) (hb0 : w.heap[b0]? = some (.cells (List.toArray [vs a0.text, v0_1]) 42 (0, 0))) (hm0 : A b0) {r0 : List UInt8} {r1 : Bool} (h : glob_Glob_Plain a0 = some (r0, r1)) : Rets Tryd.prog 11 [pt b0 0] w (fun v w' => v = tp [vs r0, vB r1] ∧ Ext w w') := by
 unfold glob_Glob_Plain at h
 refine Rets.enter Tryd.func11 z z ?_
 have ba : Sl rep_glob_piece w (imm (Lg.O0 A)) v0_1 a0.pieces := (Sl.start hs0_1)
 have bb : Blk 0 (Lg.O0 A) w b0 42 [vs a0.text, v0_1] := ⟨(if_pos hm0), hb0⟩
 refine (show WC _ _ _ _ [(0, pt b0 0)] _ from ?_)
 refine sq (rg (wY (ya (v := vs []) z) z (wY (ya z) z (nl (th (sq (rg (WL.alloc (O := (Lg.O0 A)) 11 [Value.pointer none, sn] ty62 z z ?_))))))))
 intro l ao ap p bc
 refine nl (th (sq (sq (rg (wY (ym z) z (wY (yn z) z (wY (yf fo42_1 z) z ?_)))))))
 have bd := bb.st p z
 refine wY (yl ty40 z z (bd.cell 1 _ z)) z ?_
 have aq := ba.i p z z
 refine wY (Y.len ty40 z aq) z (wY (ym z) z (nl (th (WC.block ?_))))
 obtain ⟨a5, h, ar⟩ := flow1 h
 obtain ⟨a6, h⟩ := loop_some h
 refine WC.joinB 0 (σ := (Bool × List UInt8 × Own × Value)) (fun x w' => a5 = .go (x.1, x.2.1) ∧ Stp [11, 12, 14, 1001, 1002] ao ap x.2.2.1 w' ∧ OwnSl 1003 Rep.b 5 x.2.2.1 w' x.2.2.2 x.2.1 ∧ Blk 11 x.2.2.1 w' l 62 [mbp x.1 l 0, x.2.2.2]) (fun x => [(4, pt l 0)]) ?_ ?_
 ·refine WC.loop (σ := (Bool × List UInt8 × Int × Own × Value)) (fun x k w' => loopN k (glob_Glob_Plain_lp1 a0) (x.1, x.2.1, x.2.2.1) = some a5 ∧ Stp [11, 12, 14, 1001, 1002] ao ap x.2.2.2.1 w' ∧ OwnSl 1002 Rep.b 5 x.2.2.2.1 w' x.2.2.2.2 x.2.1 ∧ Blk 11 x.2.2.2.1 w' l 62 [mbp x.1 l 0, x.2.2.2.2]) (fun x => [(4, pt l 0), (10, v0_1), (11, vi (a0.pieces.length : Int)), (12, vi x.2.2.1)]) (false, [], 0, ao, sn) a6 (.cons z (.cons z (.cons z (.cons z .nil)))) ⟨h, (sr_ _ _ _), (OwnSl.nil 1002 Rep.b 5), bc⟩ ?_
  rintro ⟨G, bF, a7, bG, au⟩ a6 bZ ⟨h, m, T, U⟩
  obtain ⟨bH, cc, rfl, h, V⟩ := rnd1 h
  unfold glob_Glob_Plain_lp1 at h
  try dsimp only at h m T U
  refine (show WC _ _ _ _ [(4, pt l 0), (10, v0_1), (11, vi (a0.pieces.length : Int)), (12, vi a7)] _ from ?_)
  refine sq (rg (wY (Y.lss_i z z) z (nl (th (sq ?_)))))
  rcases cnd h with ⟨W, h⟩ | ⟨W, h⟩
  ·refine WC.condT' z W (sk (th (sq (WC.block (sq (rg ?_))))))
   obtain ⟨j, bf, h⟩ := bnd h
   have bg := aq.i m z z
   obtain ⟨cd, bP, bQ, b1, bh, bi, bj, X, aE, bk⟩ := Sl.at2 bg bf
   obtain ⟨_, _, rfl, rfl, ⟨_, _, rfl, ⟨_, _, rfl, rfl, ⟨_, _, rfl, rfl, ⟨_, _, rfl, rfl, rfl⟩⟩⟩, ⟨_, _, rfl, rfl, rfl⟩⟩⟩ := aE
   replace X : CellsAt _ _ _ [vi j.kind, vu j.set.a0, vu j.set.a1, vu j.set.a2, vu j.set.a3, vB j.plain, vb j.c] := X
   have aF := CAt.imm X bk
   refine wY (Y.indexAddr ty40 ty47 z bh z bi bj) z (wY (yL ty47 z z aF.at_ z) z (WL.alloc (O := bG) 12 [vi 0, vu 0, vu 0, vu 0, vu 0, vB false, vb 0] ty47 z z ?_))
   intro ce H b2 q bl
   refine WL.store (v := ag [vi j.kind, vu j.set.a0, vu j.set.a1, vu j.set.a2, vu j.set.a3, vB j.plain, vb j.c]) (cells' := [vi j.kind, vu j.set.a0, vu j.set.a1, vu j.set.a2, vu j.set.a3, vB j.plain, vb j.c]) ty47 z z bl z (le_ z) z z ?_
   intro Z r av
   refine nl (th (sq (sq (rg (wY (yf fo47_2 z) z (wY (yl ty4 z z (av.cell 5 _ z)) z (wY (Y.not z) z (nl (th ?_)))))))))
   rcases cnd h with ⟨aa, h⟩ | ⟨aa, h⟩
   ·refine WC.condT' z aa (sq (rg (wY (ya (v := vs []) z) z (wY (ya z) z (nl (th (rt (At.thenR (At.inBlockR ?_)))))))))
    refine At.thenR (At.loopR ?_)
    have h := outr1 h V ar
    refine At.joinBR (At.inBlockR (At.thenR ?_))
    obtain ⟨rfl, rfl⟩ := tup2 h
    have bm : Stp [11, 12, 14, 1001, 1002] (Lg.O0 A) w H Z := (tr_ (su_ p z) (tr_ (su_ m z) (tr_ (su_ q z) (su_ r z))))
    exact At.res (.inl z) z (.tmp z (.tmp z .nil)) ⟨z, (se_ bm z z)⟩
   ·refine WC.condF' z aa (sk (th (rg (wY (yf fo47_3 z) z (wY (yl ty5 z z (av.cell 6 _ z)) z ?_)))))
    obtain ⟨bI, h, bn⟩ := bnd h
    refine WL.callJ (vals := [pt l 0, vb j.c]) (σ := (Bool × List UInt8 × Own × Value)) (fun x w' => (x.1, x.2.1) = bI ∧ Stp [11, 1002] H Z x.2.2.1 w' ∧ OwnSl 1001 Rep.b 5 x.2.2.1 w' x.2.2.2 x.2.1 ∧ Blk 11 x.2.2.1 w' l 62 [mbp x.1 l 0, x.2.2.2]) (fun x => Value.nilIface) kok20 z z ?_ ?_
    ·refine Rets.enter Tryd.func20 z z ?_
     refine (show WC _ _ _ _ [(0, pt l 0), (1, vb j.c)] _ from ?_)
     refine sq (rg (wY (ya (v := Value.nilIface) z) z (nl (th (sq (rg (wY (ym z) z ?_)))))))
     obtain ⟨bJ, h, bo⟩ := bnd h
     refine WL.callJ (vals := [pt l 0]) (σ := (Bool × Own)) (fun x w' => x.1 = bJ ∧ Stp [11] H Z x.2 w' ∧ Blk 11 x.2 w' l 62 [mbp x.1 l 0, au]) (fun x => tp []) kok27 z z ?_ ?_
     ·refine Rets.enter Tryd.func27 z z ?_
      refine (show WC _ _ _ _ [(0, pt l 0)] _ from ?_)
      refine sq (rg (wY (ym z) z (wY (yn z) z (wY (yf fo62_0 z) z ?_))))
      have o := (U.st q z).st r z
      refine wY (yl ty59 z z (o.cell 0 _ z)) z (wY (Y.eql_mbp ty59.u z z) z (nl (th ?_)))
      rcases cnd h with ⟨ab, h⟩ | ⟨ab, h⟩
      ·refine WC.condT' z ab (rg (wY (ym z) z (wY (ym z) z (wY (Y.toUnsafe ty59.u ty79.u ty62 (by decide) o (le_ z) z) z (wY (Y.noesc xne_31 z) z (wY (Y.ofUnsafe ty79.u ty59.u ty62 o (by kernel_rfl) z) z (wY (yn z) z (wY (yf fo62_0 z) z (WL.store (v := pt l 0) (cells' := [pt l 0, au]) ty59 z z o z (le_ z) z z ?_)))))))))
       intro b3 aG bq
       refine nl ?_
       exact At.res (.inr z) z .nil ⟨(true, H), ⟨some1 h, (su_ aG z), bq⟩, z⟩
      ·refine WC.condF' z ab (sq (rg (wY (ym z) z (wY (yn z) z (wY (yf fo62_0 z) z (wY (yl ty59 z z (o.cell 0 _ z)) z (wY (ym z) z (wY (Y.neq_mbps ty59.u ty62 z z) z (nl ?_)))))))))
       refine th ?_
       rcases cnd h with ⟨ac, h⟩ | ⟨ac, h⟩
       ·refine WC.condT' z ac ?_
        cases h
       ·refine WC.condF' z ac (sk ?_)
        exact At.res (.inr z) z .nil ⟨(G, H), ⟨some1 h, (sr_ _ _ _), o⟩, z⟩
     ·rintro ⟨I, bK⟩ b4 ⟨rfl, D, ad⟩
      replace h := bo
      try dsimp only at h D ad
      refine (show WL _ _ _ _ _ ((6, tp []) :: _) _ from ?_)
      refine nl (th (sq (rg (wY (ym z) z (wY (ym z) z (wY (yn z) z (wY (yf fo62_1 z) z (wY (yl ty60 z z (ad.cell 1 _ z)) z (wY (ym z) z ?_)))))))))
      refine WL.buildSlice (O := bK) (R := Rep.b) (vals := [(0, vb j.c)]) 13 [vb j.c] (xs := [j.c]) (by decide) ty60 ty5 (by decide) (by decide) (fe_ z) (by kernel_rfl) z ⟨[vb j.c], [], z, z, z⟩ z ?_
      intro cf cg b5 F br
      obtain ⟨bs, aH, h⟩ := bnd h
      have aI := (((T.st q z z z).st r z z z).st D z z z).st F z z z
      refine WL.append (by decide) ty60 ty5 z (by decide) z z aI br.src aH z ?_
      intro b6 b7 bR J ak
      refine wY (yn z) z (wY (yf fo62_1 z) z ?_)
      have aJ := h
      obtain ⟨ae, af, ah, rfl⟩ := ak.shape
      have h := aJ
      have aL := (ad.st F z).st J z
      refine WL.store (v := (vl ae af ah)) (cells' := [mbp I l 0, (vl ae af ah)]) ty60 z z aL z (le_ z) z z ?_
      intro bS K aM
      refine nl (th (sq (rg (wY (ya (v := Value.nilIface) z) z (nl (th (rt ?_)))))))
      have aN := ak.st K z z z
      obtain ⟨bx, M, aO⟩ := OwnSl.rlb 1001 rfl aN
      have aP := aM.st M z
      exact At.res (.inl z) z (.tmp z .nil) ⟨(I, bs, bx, (vl ae af ah)), ⟨some1 h, (tr_ (su_ D z) (tr_ (su_ F z) (tr_ (su_ J z) (tr_ (su_ K z) (su_ M z))))), aO, aP⟩, z⟩
    ·rintro ⟨ax, bL, ch, bM⟩ b8 ⟨rfl, al, ay, az⟩
     replace h := bn
     try dsimp only at h al ay az
     refine (show WL _ _ _ _ _ ((21, Value.nilIface) :: _) _ from ?_)
     refine nl (At.inBlock (th (rg (wY (Y.add_i z z) z (wY (ym z) z (nl ?_))))))
     obtain ⟨bz, P, aQ⟩ := OwnSl.rlb 1002 rfl ay
     have aR := az.st P z
     exact At.round (ax, bL, w64 (a7 + 1), bz, bM) bH (Nat.lt_succ_self _) ⟨next1 h V, (tr_ (su_ m z) (tr_ (su_ q z) (tr_ (su_ r z) (tr_ (su_ al z) (su_ P z))))), aQ, aR⟩ (.cons z (.cons z (.cons z (.cons z .nil))))
  ·refine WC.condF' z W (WC.exit (At.thenX (At.loopX ?_)))
   obtain ⟨bA, Q, aS⟩ := OwnSl.rlb 1003 rfl T
   have aT := U.st Q z
   exact At.hitB (σ := (Bool × List UInt8 × Own × Value)) (G, bF, bA, au) ⟨brk1 h V, (tr_ (su_ m z) (su_ Q z)), aS, aT⟩ (.cons z .nil)
 ·rintro ⟨bO, a8, a9, ci⟩ bB ⟨rfl, am, ai, aj⟩
  replace h := flowK_go ar
  try dsimp only at h am ai aj
  refine (show At _ _ _ [(4, pt l 0)] _ from ?_)
  refine At.inBlockHit (th (sq (rg ?_)))
  obtain ⟨bC, h, aU⟩ := bnd h
  refine WL.callJ (vals := [pt l 0]) (σ := Own) (fun x w' => () = bC ∧ Stp [1003] a9 bB x w') (fun x => vs a8) kok21 z z ?_ ?_
  ·refine Rets.enter Tryd.func21 z z ?_
   refine (show WC _ _ _ _ [(0, pt l 0)] _ from ?_)
   refine sq (rg (wY (ya (v := vs []) z) z (nl (th (sq (WC.drawH [1003] [0, 1, 2, 3, 4, 5, 6, 7, 8, 9, 10, 11] a9 12 fmix z (by kernel_rfl) ?_))))))
   intro bT n
   refine WD.y 0 z (by kernel_rfl) (fun _ _ _ => ym z) z (WD.y 1 z (by kernel_rfl) (fun _ _ _ => yn z) z (WD.y 2 z (by kernel_rfl) (fun _ _ _ => yf fo62_1 z) z (WD.y 3 z (by kernel_rfl) (fun bU b9 aA => have aW := aj.st n z; have aX := aW.st aA z; yl ty60 z z (aX.cell 1 _ z)) z (WD.y 5 z (by kernel_rfl) (fun _ _ _ => ym z) z (WD.y 6 z (by kernel_rfl) (fun _ _ _ => yn z) z (WD.y 7 z (by kernel_rfl) (fun _ _ _ => yf fo62_1 z) z (WD.y 8 z (by kernel_rfl) (fun bW ca aC => have aY := aj.st n z; have aZ := aY.st aC z; yl ty60 z z (aZ.cell 1 _ z)) z (WD.y 9 z (by kernel_rfl) (fun _ _ _ => Y.lenF ty60 z ai.isl) z (WD.heavy 4 z (by kernel_rfl) ?_)))))))))
   have an := ai.st n z z z
   refine WL.sdata ty74.u z an z ?_
   intro cb bD bX t a1
   refine nl (At.dq (su_ t z) (WD.heavy 10 z (by kernel_rfl) ?_))
   have a2 := an.st t z z z
   refine WL.ustr ty74.u ty5 z z a2 a1 z ?_
   intro bY S
   refine nl (At.dq (su_ S z) (WD.y 11 z (by kernel_rfl) (fun _ _ _ => ya z) z (WD.done_ (by kernel_rfl) (th (rt ?_)))))
   exact At.res (.inl z) z (.tmp z .nil) ⟨bD, ⟨some1 h, (tr_ (su_ n z) (tr_ (su_ t z) (su_ S z)))⟩, z⟩
  ·rintro bE a3 ⟨rfl, aD⟩
   replace h := aU
   refine (show WL _ _ _ _ _ ((23, vs a8) :: _) _ from ?_)
   refine wY (ya z) z (wY (ya z) z (nl (th (rt ?_))))
   obtain ⟨rfl, rfl⟩ := tup2 h
   have a4 : Stp [11, 12, 14, 1001, 1002, 1003] (Lg.O0 A) w bE a3 := (tr_ (su_ p z) (tr_ (su_ am z) (su_ aD z)))
   exact At.res (.inl z) z (.tmp z (.tmp z .nil)) ⟨z, (se_ a4 z z)⟩
theorem c_ref32_Plain {A : Nat → Prop} {a0 : List ref32_Piece} {v0 : Value} {w : World} (hs0 : Sl rep_ref32_Piece w A v0 a0) {r0 : List UInt8} {r1 : Bool} (h : ref32_Plain a0 = some (r0, r1)) : Rets Tryd.prog 12 [v0] w (fun v w' => v = tp [vs r0, vB r1] ∧ Ext w w') := by
 unfold ref32_Plain at h
 refine Rets.enter Tryd.func12 z z ?_
 have T : Sl rep_ref32_Piece w (imm (Lg.O0 A)) v0 a0 := (Sl.start hs0)
 refine (show WC _ _ _ _ [(0, v0)] _ from ?_)
 refine sq (rg (wY (ya (v := vs []) z) z (wY (ya z) z (nl (th (sq (rg (wY (ya (v := vs []) z) z (nl ?_)))))))))
 refine th (sq (sq (rg (wY (ya z) z (nl (th (WC.block ?_)))))))
 obtain ⟨P, h, F⟩ := flow1 h
 obtain ⟨Q, h⟩ := loop_some h
 refine WC.joinB 0 (σ := (List UInt8 × Own)) (fun x w' => P = .go x.1 ∧ Stp [] (Lg.O0 A) w x.2 w') (fun x => [(4, vs x.1)]) ?_ ?_
 ·refine WC.loop (σ := (List UInt8 × Int × Own)) (fun x k w' => loopN k (ref32_Plain_lp1 a0) (x.1, x.2.1) = some P ∧ Stp [] (Lg.O0 A) w x.2.2 w') (fun x => [(0, v0), (4, vs x.1), (5, vi x.2.1)]) ([], 0, (Lg.O0 A)) Q (.cons z (.cons z (.cons z .nil))) ⟨h, (sr_ _ _ _)⟩ ?_
  rintro ⟨S, an, G⟩ Q U ⟨h, j⟩
  obtain ⟨ao, aJ, rfl, h, m⟩ := rnd1 h
  unfold ref32_Plain_lp1 at h
  try dsimp only at h j
  refine (show WC _ _ _ _ [(0, v0), (4, vs S), (5, vi an)] _ from ?_)
  refine sq (sq (rg (wY (ym z) z (wY (ym z) z ?_))))
  have n := T.i j z z
  refine wY (Y.len ty27 z n) z (wY (Y.lss_i z z) z (nl (th ?_)))
  rcases cnd h with ⟨o, h⟩ | ⟨o, h⟩
  ·refine WC.condT' z o (sk (th (sq (WC.block (sq (sq (rg (wY (ym z) z (wY (ym z) z ?_)))))))))
   obtain ⟨t, V, h⟩ := bnd h
   obtain ⟨aK, az, aA, aE, W, X, Z, p, H, aa⟩ := Sl.at2 n V
   obtain ⟨_, _, rfl, rfl, ⟨_, _, rfl, rfl, ⟨_, _, rfl, ⟨ap, rfl, aF⟩, rfl⟩⟩⟩ := H
   replace p : CellsAt _ _ _ [vB t.Many, vB t.Plain, ap, vb t.C] := p
   have I := CAt.imm p aa
   refine wY (Y.indexAddr ty27 ty55 z W z X Z) z (wY (yf fo55_1 z) z (wY (yl ty4 z z (I.at_.sub 1 [vB t.Plain] z)) z (wY (Y.not z) z (nl (th ?_)))))
   rcases cnd h with ⟨q, h⟩ | ⟨q, h⟩
   ·refine WC.condT' z q (sq (rg (wY (ya (v := vs []) z) z (wY (ya z) z (nl (th (rt (At.thenR (At.inBlockR ?_)))))))))
    refine At.thenR (At.loopR ?_)
    have h := outr1 h m F
    refine At.joinBR (At.inBlockR (At.thenR ?_))
    obtain ⟨rfl, rfl⟩ := tup2 h
    have ab : Stp [] (Lg.O0 A) w G U := (su_ j z)
    exact At.res (.inl z) z (.tmp z (.tmp z .nil)) ⟨z, (se_ ab z z)⟩
   ·refine WC.condF' z q (sk (th (rg (wY (ym z) z (wY (ym z) z (wY (ym z) z ?_))))))
    obtain ⟨l, ac, h⟩ := bnd h
    obtain ⟨aL, aC, aD, aG, ad, ae, af, r, J, ah⟩ := Sl.at2 n ac
    obtain ⟨_, _, rfl, rfl, ⟨_, _, rfl, rfl, ⟨_, _, rfl, ⟨aq, rfl, aH⟩, rfl⟩⟩⟩ := J
    replace r : CellsAt _ _ _ [vB l.Many, vB l.Plain, aq, vb l.C] := r
    have K := CAt.imm r ah
    refine wY (Y.indexAddr ty27 ty55 z ad z ae af) z (wY (yf fo55_3 z) z (wY (yl ty5 z z (K.at_.sub 3 [vb l.C] z)) z (WL.buildSlice (O := G) (R := Rep.b) (vals := [(0, vb l.C)]) 11 [vb l.C] (xs := [l.C]) (by decide) ty60 ty5 (by decide) (by decide) (fe_ z) (by kernel_rfl) z ⟨[vb l.C], [], z, z, z⟩ z ?_)))
    intro aM ar aI M ai
    refine wY (Y.b2s ty60 ty5 ty9 z ai.src.sl) z ?_
    obtain ⟨au, aj, h⟩ := bnd h
    refine wY (Y.add_s aj z z) z (wY (ya z) z (nl (At.inBlock (th (rg (wY (ym z) z (wY (Y.add_i z z) z ?_)))))))
    obtain ⟨av, ak, h⟩ := lt1 h
    refine WL.yE (ya z) (congrArg vi ak.symm) z (nl ?_)
    exact At.round (au, av, ar) ao (Nat.lt_succ_self _) ⟨next1 h m, (tr_ (su_ j z) (su_ M z))⟩ (.cons z (.cons z (.cons z .nil)))
  ·refine WC.condF' z o (WC.exit (At.thenX (At.loopX ?_)))
   exact At.hitB (σ := (List UInt8 × Own)) (S, G) ⟨brk1 h m, (su_ j z)⟩ (.cons z .nil)
 ·rintro ⟨ax, ay⟩ al ⟨rfl, D⟩
  replace h := flowK_go F
  try dsimp only at h D
  refine (show At _ _ _ [(4, vs ax)] _ from ?_)
  refine At.inBlockHit (th (sq (rg (wY (ym z) z (wY (ya z) z (wY (ya z) z (nl (th (rt ?_)))))))))
  obtain ⟨rfl, rfl⟩ := tup2 h
  have am : Stp [] (Lg.O0 A) w ay al := (su_ D z)
  exact At.res (.inl z) z (.tmp z (.tmp z .nil)) ⟨z, (se_ am z z)⟩
theorem c_glob_Glob_Text {A : Nat → Prop} {v0_1 : Value} {a0 : glob_Glob} {b0 : Nat} {w : World} (hs0_1 : Sl rep_glob_piece w A v0_1 a0.pieces) (hb0 : w.heap[b0]? = some (.cells (List.toArray [vs a0.text, v0_1]) 42 (0, 0))) (hm0 : A b0) {r0 : List UInt8} (h : glob_Glob_Text a0 = some r0) : Rets Tryd.prog 13 [pt b0 0] w (fun v w' => v = vs r0 ∧ Ext w w') := by
 unfold glob_Glob_Text at h
 refine Rets.enter Tryd.func13 z z ?_
 have m : Sl rep_glob_piece w (imm (Lg.O0 A)) v0_1 a0.pieces := (Sl.start hs0_1)
 have j : Blk 0 (Lg.O0 A) w b0 42 [vs a0.text, v0_1] := ⟨(if_pos hm0), hb0⟩
 refine (show WC _ _ _ _ [(0, pt b0 0)] _ from ?_)
 refine sq (rg (wY (ya (v := vs []) z) z (nl (th (sq (rg (wY (ym z) z (wY (yn z) z (wY (yf fo42_0 z) z ?_)))))))))
 refine wY (yl ty9 z z (j.cell 0 _ z)) z (wY (ya z) z (nl (th (rt ?_))))
 obtain rfl := some1 h
 have l : Stp [] (Lg.O0 A) w (Lg.O0 A) w := (sr_ _ _ _)
 exact At.res (.inl z) z (.tmp z .nil) ⟨z, (se_ l z z)⟩
end Go.Lg
