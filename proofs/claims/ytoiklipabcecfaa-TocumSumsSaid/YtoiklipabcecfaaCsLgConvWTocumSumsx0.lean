/- The walks of TocumSums and of what it calls, printed by gen.py. -/
import Derived.Test.YtoiklipabcecfaaCsLgPart0
import Derived.Test.YtoiklipabcecfaaCsLgPart2
import Derived.Test.YtoiklipabcecfaaProg
set_option linter.unusedVariables false
namespace Go.Lg
open Go Go.Proofs
set_option maxRecDepth 100000
set_option maxHeartbeats 4000000
theorem fmix : Try.prog.follows .mixedOrders = true := by kernel_rfl
theorem ty3 : TyOk Try.prog 3 (.int .i64) 1 8 (.int .i64 0) := tyOk Try.underlying3 (by kernel_rfl)
theorem ty4 : TyOk Try.prog 4 .bool 1 1 (.bool false) := tyOk Try.underlying4 (by kernel_rfl)
theorem ty5 : TyOk Try.prog 5 (.int .u8) 1 1 (.int .u8 0) := tyOk Try.underlying5 (by kernel_rfl)
theorem ty9 : TyOk Try.prog 9 .string 1 16 (.string ⟨#[]⟩) := tyOk Try.underlying9 (by kernel_rfl)
theorem ty22 : TyOk Try.prog 22 (.slice 37) 1 24 (.slice none 0 0) := tyOk Try.underlying22 (by kernel_rfl)
theorem ty25 : TyOk Try.prog 25 (.int .u64) 1 8 (.int .u64 0) := tyOk Try.underlying25 (by kernel_rfl)
theorem ty26 : TyOk Try.prog 26 (.slice 25) 1 24 (.slice none 0 0) := tyOk Try.underlying26 (by kernel_rfl)
theorem ty28 : TyOk Try.prog 28 (.struct #[(Field.mk "Offset" 3 0 false "" "" 0), (Field.mk "Counts" 26 1 false "" "" 8)]) 2 32 (.agg #[(.int .i64 0), (.slice none 0 0)]) := tyOk Try.underlying28 (by kernel_rfl)
theorem ty30 : TyOk Try.prog 30 (.struct #[(Field.mk "Scale" 3 0 false "" "" 0), (Field.mk "Zero" 25 1 false "" "" 8), (Field.mk "Pos" 28 2 false "" "" 16), (Field.mk "Neg" 28 4 false "" "" 48)]) 6 80 (.agg #[(.int .i64 0), (.int .u64 0), (.int .i64 0), (.slice none 0 0), (.int .i64 0), (.slice none 0 0)]) := tyOk Try.underlying30 (by kernel_rfl)
theorem ty32 : TyOk Try.prog 32 (.struct #[(Field.mk "Some" 4 0 false "" "" 0), (Field.mk "Start" 3 1 false "" "" 8), (Field.mk "Time" 3 2 false "" "" 16), (Field.mk "Int" 3 3 false "" "" 24), (Field.mk "Re" 25 4 false "" "" 32), (Field.mk "Im" 25 5 false "" "" 40), (Field.mk "Hist" 30 6 false "" "" 48)]) 12 128 (.agg #[(.bool false), (.int .i64 0), (.int .i64 0), (.int .i64 0), (.int .u64 0), (.int .u64 0), (.int .i64 0), (.int .u64 0), (.int .i64 0), (.slice none 0 0), (.int .i64 0), (.slice none 0 0)]) := tyOk Try.underlying32 (by kernel_rfl)
theorem ty35 : TyOk Try.prog 35 (.slice 107) 1 24 (.slice none 0 0) := tyOk Try.underlying35 (by kernel_rfl)
theorem ty37 : TyOk Try.prog 37 (.struct #[(Field.mk "Name" 9 0 false "" "" 0), (Field.mk "Attrs" 35 1 false "" "" 16), (Field.mk "Kind" 3 2 false "" "" 40), (Field.mk "Temp" 3 3 false "" "" 48), (Field.mk "Mono" 4 4 false "" "" 56), (Field.mk "Start" 3 5 false "" "" 64), (Field.mk "Time" 3 6 false "" "" 72), (Field.mk "Int" 3 7 false "" "" 80), (Field.mk "Re" 25 8 false "" "" 88), (Field.mk "Im" 25 9 false "" "" 96), (Field.mk "Hist" 30 10 false "" "" 104), (Field.mk "Flags" 3 16 false "" "" 184)]) 17 192 (.agg #[(.string ⟨#[]⟩), (.slice none 0 0), (.int .i64 0), (.int .i64 0), (.bool false), (.int .i64 0), (.int .i64 0), (.int .i64 0), (.int .u64 0), (.int .u64 0), (.int .i64 0), (.int .u64 0), (.int .i64 0), (.slice none 0 0), (.int .i64 0), (.slice none 0 0), (.int .i64 0)]) := tyOk Try.underlying37 (by kernel_rfl)
theorem ty86 : TyOk Try.prog 86 (.array 2 28) 4 64 (.agg #[(.int .i64 0), (.slice none 0 0), (.int .i64 0), (.slice none 0 0)]) := tyOk Try.underlying86 (by kernel_rfl)
theorem ty92 : TyOk Try.prog 92 (.int .u64) 1 8 (.int .u64 0) := tyOk Try.underlying92 (by kernel_rfl)
theorem ty93 : TyOk Try.prog 93 (.pointer 28) 1 8 (.pointer none) := tyOk Try.underlying93 (by kernel_rfl)
theorem ty94 : TyOk Try.prog 94 (.struct #[(Field.mk "to" 93 0 false "" "limnograph/fold" 0), (Field.mk "a" 28 1 false "" "limnograph/fold" 8), (Field.mk "b" 28 3 false "" "limnograph/fold" 40)]) 5 72 (.agg #[(.pointer none), (.int .i64 0), (.slice none 0 0), (.int .i64 0), (.slice none 0 0)]) := tyOk Try.underlying94 (by kernel_rfl)
theorem ty95 : TyOk Try.prog 95 (.slice 94) 1 24 (.slice none 0 0) := tyOk Try.underlying95 (by kernel_rfl)
theorem ty107 : TyOk Try.prog 107 (.struct #[(Field.mk "Key" 9 0 false "" "" 0), (Field.mk "Val" 9 1 false "" "" 16)]) 2 32 (.agg #[(.string ⟨#[]⟩), (.string ⟨#[]⟩)]) := tyOk Try.underlying107 (by kernel_rfl)
theorem ty118 : TyOk Try.prog 118 (.array 2 30) 12 160 (.agg #[(.int .i64 0), (.int .u64 0), (.int .i64 0), (.slice none 0 0), (.int .i64 0), (.slice none 0 0), (.int .i64 0), (.int .u64 0), (.int .i64 0), (.slice none 0 0), (.int .i64 0), (.slice none 0 0)]) := tyOk Try.underlying118 (by kernel_rfl)
theorem ty124 : TyOk Try.prog 124 (.slice 5) 1 24 (.slice none 0 0) := tyOk Try.underlying124 (by kernel_rfl)
theorem fo28_0 : FieldOk Try.prog 28 0 0 := fieldOk Try.underlying28 rfl rfl (by kernel_rfl)
theorem fo28_1 : FieldOk Try.prog 28 1 1 := fieldOk Try.underlying28 rfl rfl (by kernel_rfl)
theorem fo30_0 : FieldOk Try.prog 30 0 0 := fieldOk Try.underlying30 rfl rfl (by kernel_rfl)
theorem fo30_1 : FieldOk Try.prog 30 1 1 := fieldOk Try.underlying30 rfl rfl (by kernel_rfl)
theorem fo30_2 : FieldOk Try.prog 30 2 2 := fieldOk Try.underlying30 rfl rfl (by kernel_rfl)
theorem fo30_3 : FieldOk Try.prog 30 3 4 := fieldOk Try.underlying30 rfl rfl (by kernel_rfl)
theorem fo32_0 : FieldOk Try.prog 32 0 0 := fieldOk Try.underlying32 rfl rfl (by kernel_rfl)
theorem fo32_1 : FieldOk Try.prog 32 1 1 := fieldOk Try.underlying32 rfl rfl (by kernel_rfl)
theorem fo32_2 : FieldOk Try.prog 32 2 2 := fieldOk Try.underlying32 rfl rfl (by kernel_rfl)
theorem fo32_3 : FieldOk Try.prog 32 3 3 := fieldOk Try.underlying32 rfl rfl (by kernel_rfl)
theorem fo32_4 : FieldOk Try.prog 32 4 4 := fieldOk Try.underlying32 rfl rfl (by kernel_rfl)
theorem fo32_5 : FieldOk Try.prog 32 5 5 := fieldOk Try.underlying32 rfl rfl (by kernel_rfl)
theorem fo32_6 : FieldOk Try.prog 32 6 6 := fieldOk Try.underlying32 rfl rfl (by kernel_rfl)
theorem fo37_0 : FieldOk Try.prog 37 0 0 := fieldOk Try.underlying37 rfl rfl (by kernel_rfl)
theorem fo37_1 : FieldOk Try.prog 37 1 1 := fieldOk Try.underlying37 rfl rfl (by kernel_rfl)
theorem fo37_2 : FieldOk Try.prog 37 2 2 := fieldOk Try.underlying37 rfl rfl (by kernel_rfl)
theorem fo37_3 : FieldOk Try.prog 37 3 3 := fieldOk Try.underlying37 rfl rfl (by kernel_rfl)
theorem fo37_4 : FieldOk Try.prog 37 4 4 := fieldOk Try.underlying37 rfl rfl (by kernel_rfl)
theorem fo37_5 : FieldOk Try.prog 37 5 5 := fieldOk Try.underlying37 rfl rfl (by kernel_rfl)
theorem fo37_6 : FieldOk Try.prog 37 6 6 := fieldOk Try.underlying37 rfl rfl (by kernel_rfl)
theorem fo37_7 : FieldOk Try.prog 37 7 7 := fieldOk Try.underlying37 rfl rfl (by kernel_rfl)
theorem fo37_8 : FieldOk Try.prog 37 8 8 := fieldOk Try.underlying37 rfl rfl (by kernel_rfl)
theorem fo37_9 : FieldOk Try.prog 37 9 9 := fieldOk Try.underlying37 rfl rfl (by kernel_rfl)
theorem fo37_10 : FieldOk Try.prog 37 10 10 := fieldOk Try.underlying37 rfl rfl (by kernel_rfl)
theorem fo37_11 : FieldOk Try.prog 37 11 16 := fieldOk Try.underlying37 rfl rfl (by kernel_rfl)
theorem fo94_0 : FieldOk Try.prog 94 0 0 := fieldOk Try.underlying94 rfl rfl (by kernel_rfl)
theorem fo94_1 : FieldOk Try.prog 94 1 1 := fieldOk Try.underlying94 rfl rfl (by kernel_rfl)
theorem fo94_2 : FieldOk Try.prog 94 2 3 := fieldOk Try.underlying94 rfl rfl (by kernel_rfl)
theorem fo107_0 : FieldOk Try.prog 107 0 0 := fieldOk Try.underlying107 rfl rfl (by kernel_rfl)
theorem fo107_1 : FieldOk Try.prog 107 1 1 := fieldOk Try.underlying107 rfl rfl (by kernel_rfl)
theorem x64_58 : X64 Try.prog 58 := x64 Try.func58 (by kernel_rfl) rfl (by kernel_rfl) (by kernel_rfl)
theorem xfrom_95 : XFrom Try.prog 95 := xfrom Try.func95 (by kernel_rfl) rfl (by kernel_rfl) (by kernel_rfl)
theorem xbits_115 : XBits Try.prog 115 := xbits Try.func115 (by kernel_rfl) rfl (by kernel_rfl) (by kernel_rfl)
theorem kok14 : CallOk Try.prog 14 := callOk Try.func14 (by kernel_rfl) rfl
theorem kok15 : CallOk Try.prog 15 := callOk Try.func15 (by kernel_rfl) rfl
theorem kok16 : CallOk Try.prog 16 := callOk Try.func16 (by kernel_rfl) rfl
theorem kok17 : CallOk Try.prog 17 := callOk Try.func17 (by kernel_rfl) rfl
theorem kok18 : CallOk Try.prog 18 := callOk Try.func18 (by kernel_rfl) rfl
theorem kok20 : CallOk Try.prog 20 := callOk Try.func20 (by kernel_rfl) rfl
theorem kok24 : CallOk Try.prog 24 := callOk Try.func24 (by kernel_rfl) rfl
theorem kok26 : CallOk Try.prog 26 := callOk Try.func26 (by kernel_rfl) rfl
theorem kok27 : CallOk Try.prog 27 := callOk Try.func27 (by kernel_rfl) rfl
theorem kok28 : CallOk Try.prog 28 := callOk Try.func28 (by kernel_rfl) rfl
theorem kok29 : CallOk Try.prog 29 := callOk Try.func29 (by kernel_rfl) rfl
theorem kok30 : CallOk Try.prog 30 := callOk Try.func30 (by kernel_rfl) rfl
theorem kok31 : CallOk Try.prog 31 := callOk Try.func31 (by kernel_rfl) rfl
theorem kok32 : CallOk Try.prog 32 := callOk Try.func32 (by kernel_rfl) rfl
theorem kok34 : CallOk Try.prog 34 := callOk Try.func34 (by kernel_rfl) rfl
theorem kok35 : CallOk Try.prog 35 := callOk Try.func35 (by kernel_rfl) rfl
theorem kok36 : CallOk Try.prog 36 := callOk Try.func36 (by kernel_rfl) rfl
theorem kok37 : CallOk Try.prog 37 := callOk Try.func37 (by kernel_rfl) rfl
theorem kok38 : CallOk Try.prog 38 := callOk Try.func38 (by kernel_rfl) rfl
theorem kok39 : CallOk Try.prog 39 := callOk Try.func39 (by kernel_rfl) rfl
theorem kok40 : CallOk Try.prog 40 := callOk Try.func40 (by kernel_rfl) rfl
theorem kok41 : CallOk Try.prog 41 := callOk Try.func41 (by kernel_rfl) rfl
theorem kok42 : CallOk Try.prog 42 := callOk Try.func42 (by kernel_rfl) rfl
theorem kok43 : CallOk Try.prog 43 := callOk Try.func43 (by kernel_rfl) rfl
theorem kok44 : CallOk Try.prog 44 := callOk Try.func44 (by kernel_rfl) rfl
theorem kok45 : CallOk Try.prog 45 := callOk Try.func45 (by kernel_rfl) rfl
theorem kok46 : CallOk Try.prog 46 := callOk Try.func46 (by kernel_rfl) rfl
theorem kok47 : CallOk Try.prog 47 := callOk Try.func47 (by kernel_rfl) rfl
theorem kok52 : CallOk Try.prog 52 := callOk Try.func52 (by kernel_rfl) rfl
theorem kok56 : CallOk Try.prog 56 := callOk Try.func56 (by kernel_rfl) rfl
theorem kok57 : CallOk Try.prog 57 := callOk Try.func57 (by kernel_rfl) rfl
theorem kok59 : CallOk Try.prog 59 := callOk Try.func59 (by kernel_rfl) rfl
theorem kok60 : CallOk Try.prog 60 := callOk Try.func60 (by kernel_rfl) rfl
theorem kok61 : CallOk Try.prog 61 := callOk Try.func61 (by kernel_rfl) rfl
theorem kok62 : CallOk Try.prog 62 := callOk Try.func62 (by kernel_rfl) rfl
theorem kok64 : CallOk Try.prog 64 := callOk Try.func64 (by kernel_rfl) rfl
theorem kok67 : CallOk Try.prog 67 := callOk Try.func67 (by kernel_rfl) rfl
theorem kok68 : CallOk Try.prog 68 := callOk Try.func68 (by kernel_rfl) rfl
theorem kok69 : CallOk Try.prog 69 := callOk Try.func69 (by kernel_rfl) rfl
theorem kok70 : CallOk Try.prog 70 := callOk Try.func70 (by kernel_rfl) rfl
theorem kok71 : CallOk Try.prog 71 := callOk Try.func71 (by kernel_rfl) rfl
theorem kok72 : CallOk Try.prog 72 := callOk Try.func72 (by kernel_rfl) rfl
theorem kok73 : CallOk Try.prog 73 := callOk Try.func73 (by kernel_rfl) rfl
theorem kok74 : CallOk Try.prog 74 := callOk Try.func74 (by kernel_rfl) rfl
theorem kok75 : CallOk Try.prog 75 := callOk Try.func75 (by kernel_rfl) rfl
theorem kok76 : CallOk Try.prog 76 := callOk Try.func76 (by kernel_rfl) rfl
theorem kok87 : CallOk Try.prog 87 := callOk Try.func87 (by kernel_rfl) rfl
theorem kok88 : CallOk Try.prog 88 := callOk Try.func88 (by kernel_rfl) rfl
theorem kok93 : CallOk Try.prog 93 := callOk Try.func93 (by kernel_rfl) rfl
theorem kok94 : CallOk Try.prog 94 := callOk Try.func94 (by kernel_rfl) rfl
theorem kok96 : CallOk Try.prog 96 := callOk Try.func96 (by kernel_rfl) rfl
theorem kok97 : CallOk Try.prog 97 := callOk Try.func97 (by kernel_rfl) rfl
theorem kok110 : CallOk Try.prog 110 := callOk Try.func110 (by kernel_rfl) rfl
theorem kok114 : CallOk Try.prog 114 := callOk Try.func114 (by kernel_rfl) rfl
theorem kok117 : CallOk Try.prog 117 := callOk Try.func117 (by kernel_rfl) rfl
theorem c_ref15_Wide {a0 : Int} {a1 : Int} {a2 : Bool} {w : World} {r0 : Bool} (h : ref15_Wide a0 a1 a2 = some r0) : Rets Try.prog 15 [vi a0, vi a1, vB a2] w (fun v w' => v = vB r0 ∧ Ext w w') := by
 unfold ref15_Wide at h
 refine Rets.enter Try.func15 z z ?_
 refine (show WC _ _ _ _ [(0, vi a0), (1, vi a1), (2, vB a2)] _ from ?_)
 refine sq (rg (wY (ya z) z (nl (th (sq (rg (wY (ym z) z (wY (Y.quo_i (by decide) z z) z (wY (ym z) z ?_)))))))))
 refine wY (Y.rem_i (by decide) z z) z ?_
 obtain ⟨I, S, h⟩ := lt1 h
 refine WL.yE (ya z) (congrArg vi S.symm) z ?_
 obtain ⟨T, U, h⟩ := lt1 h
 refine WL.yE (ya z) (congrArg vi U.symm) z (nl (th (sq (rg (wY (ym z) z (wY (Y.quo_i (by decide) z z) z (wY (ym z) z (wY (Y.rem_i (by decide) z z) z ?_))))))))
 obtain ⟨aj, V, h⟩ := lt1 h
 refine WL.yE (ya z) (congrArg vi V.symm) z ?_
 obtain ⟨ak, W, h⟩ := lt1 h
 refine WL.yE (ya z) (congrArg vi W.symm) z (nl (th (sq ?_)))
 obtain ⟨al, h, X⟩ := bnd h
 refine WC.join (σ := (Int × Int)) (fun x w' => (x.1, x.2) = al ∧ w = w') (fun x => [(7, vi I), (8, vi T), (9, vi x.1), (10, vi x.2)]) ?_ ?_
 ·refine sq (rg (wY (ym z) z (nl (th ?_))))
  rcases cnd h with ⟨m, h⟩ | ⟨m, h⟩
  ·refine WC.condT' z m (sq (rg (wY (ym z) z (wY (Y.sub_i z z) z ?_))))
   obtain ⟨am, Z, h⟩ := lt1 h
   refine WL.yE (ya z) (congrArg vi Z.symm) z (nl (th (rg (wY (ym z) z (wY (Y.sub_i z z) z ?_)))))
   obtain ⟨an, aa, h⟩ := lt1 h
   refine WL.yE (ya z) (congrArg vi aa.symm) z (nl ?_)
   exact At.join (σ := (Int × Int)) (am, an) ⟨some1 h, z⟩ (.cons z (.cons z (.cons z (.cons z .nil))))
  ·refine WC.condF' z m (sk ?_)
   exact At.join (σ := (Int × Int)) (aj, ak) ⟨some1 h, z⟩ (.cons z (.cons z (.cons z (.cons z .nil))))
 ·rintro ⟨ao, ap⟩ _ ⟨rfl, rfl⟩
  replace h := X
  try dsimp only at h
  refine (show At _ _ _ [(7, vi I), (8, vi T), (9, vi ao), (10, vi ap)] _ from ?_)
  refine th (sq (rg (wY (ym z) z (wY (ym z) z (wY (Y.add_i z z) z ?_)))))
  obtain ⟨J, C, h⟩ := lt1 h
  refine WL.yE (ya z) (congrArg vi C.symm) z (nl (th (sq (rg (wY (ym z) z (wY (ym z) z (wY (Y.add_i z z) z ?_)))))))
  obtain ⟨K, D, h⟩ := lt1 h
  refine WL.yE (ya z) (congrArg vi D.symm) z (nl (th (sq ?_)))
  obtain ⟨aq, h, ab⟩ := bnd h
  refine WC.join (σ := (Int × Int)) (fun x w' => (x.1, x.2) = aq ∧ w = w') (fun x => [(11, vi x.1), (12, vi x.2)]) ?_ ?_
  ·refine sq (rg (wY (ym z) z (wY (Y.gtr_i z z) z (nl (th ?_)))))
   rcases cnd h with ⟨n, h⟩ | ⟨n, h⟩
   ·refine WC.condT' z n (sq (rg (wY (ym z) z (wY (Y.add_i z z) z ?_))))
    obtain ⟨L, E, h⟩ := lt1 h
    refine WL.yE (ya z) (congrArg vi E.symm) z (nl (th (rg (wY (ym z) z (wY (Y.sub_i z z) z ?_)))))
    obtain ⟨M, F, h⟩ := lt1 h
    refine WL.yE (ya z) (congrArg vi F.symm) z (nl ?_)
    exact At.join (σ := (Int × Int)) (L, M) ⟨some1 h, z⟩ (.cons z (.cons z .nil))
   ·refine WC.condF' z n (sk ?_)
    exact At.join (σ := (Int × Int)) (J, K) ⟨some1 h, z⟩ (.cons z (.cons z .nil))
  ·rintro ⟨j, l⟩ _ ⟨rfl, rfl⟩
   replace h := ab
   try dsimp only at h
   refine (show At _ _ _ [(11, vi j), (12, vi l)] _ from ?_)
   refine th (sq ?_)
   obtain ⟨ar, h, ac⟩ := bnd h
   refine WC.join (σ := (Int × Int)) (fun x w' => (x.1, x.2) = ar ∧ w = w') (fun x => [(11, vi x.1), (12, vi x.2)]) ?_ ?_
   ·refine sq (rg (wY (ym z) z (wY (Y.lss_i z z) z (nl (th ?_)))))
    rcases cnd h with ⟨o, h⟩ | ⟨o, h⟩
    ·refine WC.condT' z o (sq (rg (wY (ym z) z (wY (Y.sub_i z z) z ?_))))
     obtain ⟨P, G, h⟩ := lt1 h
     refine WL.yE (ya z) (congrArg vi G.symm) z (nl (th (rg (wY (ym z) z (wY (Y.add_i z z) z ?_)))))
     obtain ⟨Q, H, h⟩ := lt1 h
     refine WL.yE (ya z) (congrArg vi H.symm) z (nl ?_)
     exact At.join (σ := (Int × Int)) (P, Q) ⟨some1 h, z⟩ (.cons z (.cons z .nil))
    ·refine WC.condF' z o (sk ?_)
     exact At.join (σ := (Int × Int)) (j, l) ⟨some1 h, z⟩ (.cons z (.cons z .nil))
   ·rintro ⟨d, e⟩ _ ⟨rfl, rfl⟩
    replace h := ac
    try dsimp only at h
    refine (show At _ _ _ [(11, vi d), (12, vi e)] _ from ?_)
    refine th (sq (sq (rg (wY (ym z) z (wY (Y.gtr_i z z) z (wY (ym z) z ?_))))))
    refine WL.cut 3 (σ := Unit) (fun _ w' => w = w') (fun _ => [(11, vi d), (12, vi e), (49, vB ((decide (4611686018427387904 < d)) || (decide (d < (-4611686018427387904)))))]) ?_ ?_
    ·refine WL.part 46 z (fun p => ?_) (fun p => ?_)
     ·refine WL.gS z z z z (WL.gS z z z z (wY (Y.pick (b := true) z z) z (WL.ren (v' := vB ((decide (4611686018427387904 < d)) || (decide (d < (-4611686018427387904))))) 49 z (congrArg vB (orT p)) ?_)))
      exact nl (At.join () z (.cons z (.cons z (.cons z .nil))))
     ·refine ug z z (wY (ym z) z (ug z z (wY (Y.lss_i z z) z (wY (Y.pick (b := false) z z) z (WL.ren (v' := vB ((decide (4611686018427387904 < d)) || (decide (d < (-4611686018427387904))))) 49 z (congrArg vB (orF p)) ?_)))))
      exact nl (At.join () z (.cons z (.cons z (.cons z .nil))))
    ·rintro _ _ rfl
     refine (show WL _ _ _ _ _ [(11, vi d), (12, vi e), (49, vB ((decide (4611686018427387904 < d)) || (decide (d < (-4611686018427387904)))))] _ from ?_)
     refine nl (th ?_)
     rcases cnd h with ⟨q, h⟩ | ⟨q, h⟩
     ·refine WC.condT' z q (sq (rg (wY (ya z) z (nl (th (rt (At.thenR ?_)))))))
      obtain rfl := some1 h
      have ad : Stp [] (Lg.O0 (fun _ => False)) w (Lg.O0 (fun _ => False)) w := (sr_ _ _ _)
      exact At.res (.inl z) z (.tmp z .nil) ⟨z, (se_ ad z z)⟩
     ·refine WC.condF' z q (sk (th (sq (sq (rg (wY (ym z) z (wY (Y.eql_i z z) z (nl (th ?_)))))))))
      rcases cnd h with ⟨r, h⟩ | ⟨r, h⟩
      ·refine WC.condT' z r (sq (rg (wY (ym z) z (wY (Y.geq_i z z) z ?_))))
       obtain ⟨au, ae, h⟩ := lt1 h
       refine WL.yE (ya z) (congrArg vB ae.symm) z (nl (th (rt (At.thenR ?_))))
       obtain rfl := some1 h
       have af : Stp [] (Lg.O0 (fun _ => False)) w (Lg.O0 (fun _ => False)) w := (sr_ _ _ _)
       exact At.res (.inl z) z (.tmp z .nil) ⟨z, (se_ af z z)⟩
      ·refine WC.condF' z r (sk (th (sq (rg (wY (ym z) z (wY (Y.eql_i z z) z (wY (ym z) z ?_)))))))
       refine WL.cut 3 (σ := Unit) (fun _ w' => w = w') (fun _ => [(59, vB ((decide (d = (-4611686018427387904))) && (decide (e < 0))))]) ?_ ?_
       ·refine WL.part 56 z (fun t => ?_) (fun t => ?_)
        ·refine ug z z (wY (ym z) z (ug z z (wY (Y.lss_i z z) z (wY (Y.pick (b := true) z z) z (WL.ren (v' := vB ((decide (d = (-4611686018427387904))) && (decide (e < 0)))) 59 z (congrArg vB (andT t)) ?_)))))
         exact nl (At.join () z (.cons z .nil))
        ·refine WL.gS z z z z (WL.gS z z z z (wY (Y.pick (b := false) z z) z (WL.ren (v' := vB ((decide (d = (-4611686018427387904))) && (decide (e < 0)))) 59 z (congrArg vB (andF t)) ?_)))
         exact nl (At.join () z (.cons z .nil))
       ·rintro _ _ rfl
        refine (show WL _ _ _ _ _ [(59, vB ((decide (d = (-4611686018427387904))) && (decide (e < 0))))] _ from ?_)
        obtain ⟨av, ah, h⟩ := lt1 h
        refine WL.yE (ya z) (congrArg vB ah.symm) z (nl (th (rt ?_)))
        obtain rfl := some1 h
        have ai : Stp [] (Lg.O0 (fun _ => False)) w (Lg.O0 (fun _ => False)) w := (sr_ _ _ _)
        exact At.res (.inl z) z (.tmp z .nil) ⟨z, (se_ ai z z)⟩
theorem c_hist_sides {A : Nat → Prop} {v0_3 : Value} {v0_5 : Value} {a0 : api_Hist} {w : World} (hs0_3 : Sl Rep.u w A v0_3 a0.Pos.Counts) (hs0_5 : Sl Rep.u w A v0_5 a0.Neg.Counts) {r0 : List api_Side} (h : hist_sides a0 = some r0) : Rets Try.prog 57 [ag [vi a0.Scale, vu a0.Zero, vi a0.Pos.Offset, v0_3, vi a0.Neg.Offset, v0_5]] w (fun v w' => ∃ (E : List Value), v = Value.agg (List.toArray E) ∧ Ext w w' ∧ Rows' rep_api_Side w' (fun k => A k ∨ w.heap.size ≤ k) E r0 ∧ r0.length = 2) := by
 unfold hist_sides at h
 refine Rets.enter Try.func57 z z ?_
 have r : Sl Rep.u w (imm (Lg.O0 A)) v0_3 a0.Pos.Counts := (Sl.start hs0_3)
 have t : Sl Rep.u w (imm (Lg.O0 A)) v0_5 a0.Neg.Counts := (Sl.start hs0_5)
 refine (show WC _ _ _ _ [(0, ag [vi a0.Scale, vu a0.Zero, vi a0.Pos.Offset, v0_3, vi a0.Neg.Offset, v0_5])] _ from ?_)
 refine sq (rg ?_)
 have G := h
 obtain ⟨l, m, n, rfl⟩ := r.shape
 have h := G
 have H := h
 obtain ⟨d, e, j, rfl⟩ := t.shape
 have h := H
 refine WL.box (O := (Lg.O0 A)) 11 [vi a0.Scale, vu a0.Zero, vi a0.Pos.Offset, (Value.slice l m n), vi a0.Neg.Offset, (Value.slice d e j)] z z z ?_
 intro Z V W p I
 refine WL.alloc (O := V) 12 [vi 0, Value.slice none 0 0, vi 0, Value.slice none 0 0] ty86 z z ?_
 intro aa F X o J
 refine nl (th (sq (rg (wY (yf fo30_2 z) z ?_))))
 have C := I.st o z
 refine wY (yL ty28 z z (C.cells 2 [vi a0.Pos.Offset, (Value.slice l m n)] z) z) z (wY (yf fo30_3 z) z (wY (yL ty28 z z (C.cells 4 [vi a0.Neg.Offset, (Value.slice d e j)] z) z) z (wY (yb (vals := [(0, ag [vi a0.Pos.Offset, (Value.slice l m n)]), (1, ag [vi a0.Neg.Offset, (Value.slice d e j)])]) (cells := [vi a0.Pos.Offset, (Value.slice l m n), vi a0.Neg.Offset, (Value.slice d e j)]) (fe_ z) (by kernel_rfl)) z (WL.store (v := ag [vi a0.Pos.Offset, (Value.slice l m n), vi a0.Neg.Offset, (Value.slice d e j)]) (cells' := [vi a0.Pos.Offset, (Value.slice l m n), vi a0.Neg.Offset, (Value.slice d e j)]) ty86 z z J z (le_ z) z z ?_))))
 intro K q L
 refine nl (th (rt ?_))
 obtain rfl := some1 h
 have D : Stp [12] (Lg.O0 A) w F K := (tr_ (su_ p z) (tr_ (su_ o z) (su_ q z)))
 have M := r.i p z z
 have P := M.i o z z
 have Q := P.i q z z
 have S := t.i p z z
 have T := S.i o z z
 have U := T.i q z z
 exact At.res (.inl z) z (.cell z (L.runAg 0 [vi a0.Pos.Offset, (Value.slice l m n), vi a0.Neg.Offset, (Value.slice d e j)] ty86 z z z) .nil) ⟨[vi a0.Pos.Offset, (Value.slice l m n), vi a0.Neg.Offset, (Value.slice d e j)], z, (se_ D z z), (Rows'.outI (O' := F) (R := rep_api_Side) ⟨[vi a0.Pos.Offset, (Value.slice l m n)], [vi a0.Neg.Offset, (Value.slice d e j)], z, ⟨[vi a0.Pos.Offset], [(Value.slice l m n)], z, z, ⟨_, z, Q⟩⟩, ⟨[vi a0.Neg.Offset, (Value.slice d e j)], [], z, ⟨[vi a0.Neg.Offset], [(Value.slice d e j)], z, z, ⟨_, z, U⟩⟩, z⟩⟩ D low0 O0_A), z⟩
theorem c_hist_Total {A : Nat → Prop} {v0_3 : Value} {v0_5 : Value} {a0 : api_Hist} {w : World} (hs0_3 : Sl Rep.u w A v0_3 a0.Pos.Counts) (hs0_5 : Sl Rep.u w A v0_5 a0.Neg.Counts) {r0 : UInt64} {r1 : Bool} (h : hist_Total a0 = some (r0, r1)) : Rets Try.prog 27 [ag [vi a0.Scale, vu a0.Zero, vi a0.Pos.Offset, v0_3, vi a0.Neg.Offset, v0_5]] w (fun v w' => v = tp [vu r0, vB r1] ∧ Ext w w') := by
 unfold hist_Total at h
 refine Rets.enter Try.func27 z z ?_
 have af : Sl Rep.u w (imm (Lg.O0 A)) v0_3 a0.Pos.Counts := (Sl.start hs0_3)
 have ah : Sl Rep.u w (imm (Lg.O0 A)) v0_5 a0.Neg.Counts := (Sl.start hs0_5)
 refine (show WC _ _ _ _ [(0, ag [vi a0.Scale, vu a0.Zero, vi a0.Pos.Offset, v0_3, vi a0.Neg.Offset, v0_5])] _ from ?_)
 refine sq (rg ?_)
 have aU := h
 obtain ⟨ai, aj, ak, rfl⟩ := af.shape
 have h := aU
 have aW := h
 obtain ⟨al, am, an, rfl⟩ := ah.shape
 have h := aW
 refine WL.box (O := (Lg.O0 A)) 11 [vi a0.Scale, vu a0.Zero, vi a0.Pos.Offset, (Value.slice ai aj ak), vi a0.Neg.Offset, (Value.slice al am an)] z z z ?_
 intro bC ao bt j ap
 refine wY (ya (v := vu 0) z) z (wY (ya z) z (nl (th (sq (rg (wY (yf fo30_1 z) z (wY (yl ty25 z z (ap.cell 1 _ z)) z (wY (ya z) z (wY (ya (v := vu 0) z) z ?_)))))))))
 refine nl (th (sq (sq (rg (wY (yL ty30 z z (ap.cells 0 [vi a0.Scale, vu a0.Zero, vi a0.Pos.Offset, (Value.slice ai aj ak), vi a0.Neg.Offset, (Value.slice al am an)] z) z) z ?_)))))
 have aX := af.i j z z
 have aY := ah.i j z z
 obtain ⟨bg, aZ, h⟩ := bnd h
 refine WL.call (vals := [ag [vi a0.Scale, vu a0.Zero, vi a0.Pos.Offset, (Value.slice ai aj ak), vi a0.Neg.Offset, (Value.slice al am an)]]) kok57 z z (c_hist_sides (A := imm ao) (a0 := a0) aX aY aZ) ?_
 rintro bu I ⟨d, rfl, a1, bh, bi⟩
 obtain ⟨M, aq, ar, P⟩ := adoptE ao (fun k => 1) a1
 have a2 := Rows'.adoptI (O := ao) bh (fun _ hk => hk) (fun _ _ => Nat.le_refl _) aq ar
 refine wY (ym z) z (nl (th ?_))
 obtain ⟨bj, h, a3⟩ := bnd h
 refine WC.join (σ := (UInt64 × UInt64 × Own)) (fun x w' => (x.1, x.2.1) = bj ∧ Stp [12] M I x.2.2 w') (fun x => [(4, vu x.1), (5, vu x.2.1)]) ?_ ?_
 ·refine WC.block ?_
  obtain ⟨aO, h, a4⟩ := flow1 h
  obtain ⟨aP, h⟩ := loop_some h
  refine WC.joinB 0 (σ := (UInt64 × UInt64 × Own)) (fun x w' => aO = .go (x.1, x.2.1) ∧ Stp [12] M I x.2.2 w') (fun x => [(4, vu x.1), (5, vu x.2.1)]) ?_ ?_
  ·refine WC.loop (σ := (UInt64 × UInt64 × Int × Own)) (fun x k w' => loopN k (hist_Total_lp1 bg) (x.1, x.2.1, x.2.2.1) = some aO ∧ Stp [12] M I x.2.2.2 w') (fun x => [(4, vu x.1), (5, vu x.2.1), (14, Value.agg (List.toArray d)), (15, vi x.2.2.1)]) (a0.Zero, 0, 0, M) aP (.cons z (.cons z (.cons z (.cons z .nil)))) ⟨h, (sr_ _ _ _)⟩ ?_
   rintro ⟨o, m, e, au⟩ aP a5 ⟨h, l⟩
   obtain ⟨bk, bD, rfl, h, av⟩ := rnd1 h
   unfold hist_Total_lp1 at h
   try dsimp only at h l
   refine (show WC _ _ _ _ [(4, vu o), (5, vu m), (14, Value.agg (List.toArray d)), (15, vi e)] _ from ?_)
   refine sq (rg (wY (Y.lss_i z z) z (nl (th (sq ?_)))))
   rcases cnd h with ⟨J, h⟩ | ⟨J, h⟩
   ·refine WC.condT' z J (sk (th (sq (WC.block (sq (rg ?_))))))
    have a6 := Rows'.i a2 l z z
    obtain ⟨n, aw, h⟩ := bnd h
    obtain ⟨bw, p, aF⟩ := arrAt (R := rep_api_Side) (w := a5) (A := imm au) (cells := d) a6 aw
    obtain ⟨_, _, rfl, rfl, ⟨bl, rfl, a7⟩⟩ := aF
    replace p : _ = [vi n.Offset, bl] := p
    refine wY (Y.indexArrAg ty86 ty28 z z p aw bi) z (WL.alloc (O := au) 12 [vi 0, Value.slice none 0 0] ty28 z z ?_)
    intro bE bm bx Q a8
    have ax := a7.i Q z z
    have a9 := h
    obtain ⟨S, T, U, rfl⟩ := ax.shape
    have h := a9
    refine WL.store (v := ag [vi n.Offset, (Value.slice S T U)]) (cells' := [vi n.Offset, (Value.slice S T U)]) ty28 z z a8 z (le_ z) z z ?_
    intro K V ba
    refine nl (th (sq (rg (wY (yf fo28_1 z) z (wY (yl ty26 z z (ba.cell 1 _ z)) z ?_)))))
    have ay := ax.i V z z
    refine wY (Y.len ty26 z ay) z (wY (ym z) z (nl (th ?_)))
    obtain ⟨bn, h, bb⟩ := bnd h
    refine WC.join (σ := (UInt64 × UInt64)) (fun x w' => (x.1, x.2) = bn ∧ K = w') (fun x => [(4, vu x.1), (5, vu x.2), (14, Value.agg (List.toArray d)), (15, vi e)]) ?_ ?_
    ·refine WC.block ?_
     obtain ⟨aQ, h, bc⟩ := flow1 h
     obtain ⟨aR, h⟩ := loop_some h
     refine WC.joinB 2 (σ := (UInt64 × UInt64)) (fun x w' => aQ = .go (x.1, x.2) ∧ K = w') (fun x => [(4, vu x.1), (5, vu x.2), (14, Value.agg (List.toArray d)), (15, vi e)]) ?_ ?_
     ·refine WC.loop (σ := (UInt64 × UInt64 × Int)) (fun x k w' => loopN k (hist_Total_lp2 n) (x.1, x.2.1, x.2.2) = some aQ ∧ K = w') (fun x => [(4, vu x.1), (5, vu x.2.1), (14, Value.agg (List.toArray d)), (15, vi e), (19, (Value.slice S T U)), (20, vi (n.Counts.length : Int)), (21, vi x.2.2)]) (o, m, 0) aR (.cons z (.cons z (.cons z (.cons z (.cons z (.cons z (.cons z .nil))))))) ⟨h, z⟩ ?_
      rintro ⟨W, D, aS⟩ aR _ ⟨h, rfl⟩
      obtain ⟨bo, bz, rfl, h, X⟩ := rnd1 h
      unfold hist_Total_lp2 at h
      try dsimp only at h
      refine (show WC _ _ _ _ [(4, vu W), (5, vu D), (14, Value.agg (List.toArray d)), (15, vi e), (19, (Value.slice S T U)), (20, vi (n.Counts.length : Int)), (21, vi aS)] _ from ?_)
      refine sq (rg (wY (Y.lss_i z z) z (nl (th (sq ?_)))))
      rcases cnd h with ⟨q, h⟩ | ⟨q, h⟩
      ·refine WC.condT' z q (sk (th (sq (WC.block (sq (rg ?_))))))
       obtain ⟨bd, aG, h⟩ := bnd h
       obtain ⟨bA, bp, bq, bs, aH, aI, aJ, r, az, aK⟩ := Sl.at2 ay aG
       obtain rfl := az
       replace r : CellsAt _ _ _ [vu bd] := r
       have aA := CAt.imm r aK
       refine wY (Y.indexAddr ty26 ty25 z aH z aI aJ) z (wY (yl ty25 z z aA.at_) z (wY (ya z) z (nl (th (sq (rg (wY (ya (v := vu 0) z) z (nl (th ?_)))))))))
       refine sq (rg (wY (ym z) z (wY (ym z) z (wY (Y.add64 (c := 0) x64_58 (by decide) z z z) z (wY (ym z) z (wY (yx z z) z (wY (yx z z) z ?_)))))))
       obtain ⟨aC, ad, h⟩ := lt1 h
       refine WL.yE (ya z) (congrArg vu ad.symm) z ?_
       obtain ⟨bf, E, h⟩ := lt1 h
       refine WL.yE (ya z) (congrArg vu E.symm) z (nl (th (rg (wY (ym z) z (wY (ym z) z (wY (Y.or_u z z) z ?_))))))
       obtain ⟨ae, L, h⟩ := lt1 h
       refine WL.yE (ya z) (congrArg vu L.symm) z (nl (At.inBlock (th (rg (wY (Y.add_i z z) z (wY (ym z) z (nl ?_)))))))
       exact At.round (aC, ae, w64 (aS + 1)) bo (Nat.lt_succ_self _) ⟨next1 h X, z⟩ (.cons z (.cons z (.cons z (.cons z (.cons z (.cons z (.cons z .nil)))))))
      ·refine WC.condF' z q (WC.exit (At.thenX (At.loopX ?_)))
       exact At.hitB (σ := (UInt64 × UInt64)) (W, D) ⟨brk1 h X, z⟩ (.cons z (.cons z (.cons z (.cons z .nil))))
     ·rintro ⟨Z, F⟩ _ ⟨rfl, rfl⟩
      replace h := flowK_go bc
      try dsimp only at h
      refine (show At _ _ _ [(4, vu Z), (5, vu F), (14, Value.agg (List.toArray d)), (15, vi e)] _ from ?_)
      refine At.inBlockHit ?_
      exact At.join (σ := (UInt64 × UInt64)) (Z, F) ⟨some1 h, z⟩ (.cons z (.cons z (.cons z (.cons z .nil))))
    ·rintro ⟨aa, G⟩ _ ⟨rfl, rfl⟩
     replace h := bb
     try dsimp only at h
     refine (show At _ _ _ [(4, vu aa), (5, vu G), (14, Value.agg (List.toArray d)), (15, vi e)] _ from ?_)
     refine At.inBlock (th (rg (wY (Y.add_i z z) z (wY (ym z) z (nl ?_)))))
     exact At.round (aa, G, w64 (e + 1), bm) bk (Nat.lt_succ_self _) ⟨next1 h av, (tr_ (su_ l z) (tr_ (su_ Q z) (su_ V z)))⟩ (.cons z (.cons z (.cons z (.cons z .nil))))
   ·refine WC.condF' z J (WC.exit (At.thenX (At.loopX ?_)))
    exact At.hitB (σ := (UInt64 × UInt64 × Own)) (o, m, au) ⟨brk1 h av, (su_ l z)⟩ (.cons z (.cons z .nil))
  ·rintro ⟨ab, H, br⟩ bB ⟨rfl, ac⟩
   replace h := flowK_go a4
   try dsimp only at h ac
   refine (show At _ _ _ [(4, vu ab), (5, vu H)] _ from ?_)
   refine At.inBlockHit ?_
   exact At.join (σ := (UInt64 × UInt64 × Own)) (ab, H, br) ⟨some1 h, (su_ ac z)⟩ (.cons z (.cons z .nil))
 ·rintro ⟨aL, aD, aT⟩ aE ⟨rfl, t⟩
  replace h := a3
  try dsimp only at h t
  refine (show At _ _ _ [(4, vu aL), (5, vu aD)] _ from ?_)
  refine th (sq (sq (rg (wY (ym z) z (wY (Y.neq_u (b := 0) z z) z (nl (th ?_)))))))
  rcases cnd h with ⟨C, h⟩ | ⟨C, h⟩
  ·refine WC.condT' z C (sq (rg (wY (ya (v := vu 0) z) z (wY (ya z) z (nl (th (rt (At.thenR ?_))))))))
   obtain ⟨rfl, rfl⟩ := tup2 h
   have aM : Stp [12] (Lg.O0 A) w aT aE := (tr_ (su_ j z) (tr_ (su_ P z) (su_ t z)))
   exact At.res (.inl z) z (.tmp z (.tmp z .nil)) ⟨z, (se_ aM z z)⟩
  ·refine WC.condF' z C (sk (th (sq (rg (wY (ym z) z (wY (ya z) z (wY (ya z) z (nl (th ?_)))))))))
   refine rt ?_
   obtain ⟨rfl, rfl⟩ := tup2 h
   have aN : Stp [12] (Lg.O0 A) w aT aE := (tr_ (su_ j z) (tr_ (su_ P z) (su_ t z)))
   exact At.res (.inl z) z (.tmp z (.tmp z .nil)) ⟨z, (se_ aN z z)⟩
theorem c_hist_check {A : Nat → Prop} {v0_1 : Value} {a0 : api_Side} {w : World} (hs0_1 : Sl Rep.u w A v0_1 a0.Counts) {r0 : Int} (h : hist_check a0 = some r0) : Rets Try.prog 59 [ag [vi a0.Offset, v0_1]] w (fun v w' => v = vi r0 ∧ Ext w w') := by
 unfold hist_check at h
 refine Rets.enter Try.func59 z z ?_
 have I : Sl Rep.u w (imm (Lg.O0 A)) v0_1 a0.Counts := (Sl.start hs0_1)
 refine (show WC _ _ _ _ [(0, ag [vi a0.Offset, v0_1])] _ from ?_)
 refine sq (rg ?_)
 have S := h
 obtain ⟨aq, ar, au, rfl⟩ := I.shape
 have h := S
 refine WL.box (O := (Lg.O0 A)) 11 [vi a0.Offset, (Value.slice aq ar au)] z z z ?_
 intro H m e j l
 refine wY (ya z) z (nl (th (sq (rg (wY (yf fo28_1 z) z (wY (yl ty26 z z (l.cell 1 _ z)) z ?_))))))
 have n := I.i j z z
 refine wY (Y.len ty26 z n) z ?_
 obtain ⟨d, J, h⟩ := lt1 h
 refine WL.yE (ya z) (congrArg vi J.symm) z (nl (th (sq (WC.block (sq (rg (wY (ym z) z (wY (Y.gtr_i z z) z ?_))))))))
 obtain ⟨aF, T, h⟩ := lt1 h
 refine WL.yE (ya z) (congrArg vB T.symm) z (nl (th ?_))
 rcases cnd h with ⟨o, h⟩ | ⟨o, h⟩
 ·refine WC.condT' z o (sq (rg (wY (ya z) z (nl (th (rt (At.inBlockR (At.thenR ?_))))))))
  obtain rfl := some1 h
  have U : Stp [] (Lg.O0 A) w m e := (su_ j z)
  exact At.res (.inl z) z (.tmp z .nil) ⟨z, (se_ U z z)⟩
 ·refine WC.condF' z o (sq (rg (wY (ym z) z (wY (Y.eql_i z z) z (wY (ym z) z ?_)))))
  refine WL.cut 4 (σ := Unit) (fun _ w' => e = w') (fun _ => [(1, pt H 0), (3, vi d), (17, vB ((decide (d = 0)) && (!decide (a0.Offset = 0))))]) ?_ ?_
  ·refine WL.part 13 z (fun p => ?_) (fun p => ?_)
   ·refine ug z z (wY (yf fo28_0 z) z (ug z z (wY (yl ty3 z z (l.cell 0 _ z)) z (ug z z (wY (Y.neq_i z z) z (wY (Y.pick (b := true) z z) z (WL.ren (v' := vB ((decide (d = 0)) && (!decide (a0.Offset = 0)))) 17 z (congrArg vB (andT p)) ?_)))))))
    exact nl (At.join () z (.cons z (.cons z (.cons z .nil))))
   ·refine WL.gS z z z z (WL.gS z z z z (WL.gS z z z z (wY (Y.pick (b := false) z z) z (WL.ren (v' := vB ((decide (d = 0)) && (!decide (a0.Offset = 0)))) 17 z (congrArg vB (andF p)) ?_))))
    exact nl (At.join () z (.cons z (.cons z (.cons z .nil))))
  ·rintro _ _ rfl
   refine (show WL _ _ _ _ _ [(1, pt H 0), (3, vi d), (17, vB ((decide (d = 0)) && (!decide (a0.Offset = 0))))] _ from ?_)
   obtain ⟨aG, V, h⟩ := lt1 h
   refine WL.yE (ya z) (congrArg vB V.symm) z (nl (th ?_))
   rcases cnd h with ⟨q, h⟩ | ⟨q, h⟩
   ·refine WC.condT' z q (sq (rg (wY (ya z) z (nl (th (rt (At.inBlockR (At.thenR ?_))))))))
    obtain rfl := some1 h
    have W : Stp [] (Lg.O0 A) w m e := (su_ j z)
    exact At.res (.inl z) z (.tmp z .nil) ⟨z, (se_ W z z)⟩
   ·refine WC.condF' z q (sq (rg (wY (ym z) z (wY (Y.eql_i z z) z ?_))))
    obtain ⟨aH, X, h⟩ := lt1 h
    refine WL.yE (ya z) (congrArg vB X.symm) z (nl (th ?_))
    rcases cnd h with ⟨r, h⟩ | ⟨r, h⟩
    ·refine WC.condT' z r (sq (rg (wY (ya z) z (nl (th (rt (At.inBlockR (At.thenR ?_))))))))
     obtain rfl := some1 h
     have Z : Stp [] (Lg.O0 A) w m e := (su_ j z)
     exact At.res (.inl z) z (.tmp z .nil) ⟨z, (se_ Z z z)⟩
    ·refine WC.condF' z r (sq (rg (wY (yf fo28_1 z) z (wY (yl ty26 z z (l.cell 1 _ z)) z ?_))))
     obtain ⟨av, aa, h⟩ := bnd h
     obtain ⟨aI, ay, az, aD, ab, ac, ad, t, K, ae⟩ := Sl.at2 n aa
     obtain rfl := K
     replace t : CellsAt _ _ _ [vu av] := t
     have L := CAt.imm t ae
     refine wY (Y.indexAddr ty26 ty25 z ab z ac ad) z (wY (yl ty25 z z L.at_) z (wY (Y.eql_u (b := 0) z z) z (wY (ym z) z ?_)))
     obtain ⟨aw, h, af⟩ := bnd h
     refine WL.cut 8 (σ := Bool) (fun x w' => x = aw ∧ e = w') (fun x => [(1, pt H 0), (3, vi d), (35, vB x)]) ?_ ?_
     ·rcases cnd h with ⟨C, h⟩ | ⟨C, h⟩
      ·refine WL.ren 27 z (congrArg vB C) (WL.gS z z z z (WL.gS z z z z (WL.gS z z z z (WL.gS z z z z (WL.gS z z z z (WL.gS z z z z (WL.gS z z z z (wY (Y.pick (b := true) z z) z ?_))))))))
       exact nl (At.join (σ := Bool) true ⟨some1 h, z⟩ (.cons z (.cons z (.cons z .nil))))
      ·refine WL.ren 27 z (congrArg vB C) (ug z z (wY (yf fo28_1 z) z (ug z z (wY (yl ty26 z z (l.cell 1 _ z)) z (ug z z (wY (ym z) z (ug z z (wY (Y.sub_i z z) z (ug z z ?_)))))))))
       obtain ⟨Q, ah, h⟩ := bnd h
       obtain ⟨aJ, aA, aC, aE, ai, aj, ak, D, M, al⟩ := Sl.at2 n ah
       obtain rfl := M
       replace D : CellsAt _ _ _ [vu Q] := D
       have P := CAt.imm D al
       refine wY (Y.indexAddr ty26 ty25 z ai z aj ak) z (ug z z (wY (yl ty25 z z P.at_) z (ug z z (wY (Y.eql_u (b := 0) z z) z (wY (Y.pick (b := false) z z) z ?_)))))
       exact nl (At.join (σ := Bool) (decide (Q = 0)) ⟨some1 h, z⟩ (.cons z (.cons z (.cons z .nil))))
     ·rintro ax _ ⟨rfl, rfl⟩
      replace h := af
      try dsimp only at h
      refine (show WL _ _ _ _ _ [(1, pt H 0), (3, vi d), (35, vB ax)] _ from ?_)
      refine wY (ya z) z (nl (th ?_))
      rcases cnd h with ⟨E, h⟩ | ⟨E, h⟩
      ·refine WC.condT' z E (sq (rg (wY (ya z) z (nl (th (rt (At.inBlockR (At.thenR ?_))))))))
       obtain rfl := some1 h
       have am : Stp [] (Lg.O0 A) w m e := (su_ j z)
       exact At.res (.inl z) z (.tmp z .nil) ⟨z, (se_ am z z)⟩
      ·refine WC.condF' z E (sq (rg (wY (yf fo28_0 z) z (wY (yl ty3 z z (l.cell 0 _ z)) z (wY (Y.lss_i z z) z (wY (ym z) z ?_))))))
       refine WL.cut 7 (σ := Unit) (fun _ w' => e = w') (fun _ => [(47, vB ((decide (a0.Offset < (-1073741824))) || (decide (w64 (1073741824 - (w64 (d - 1))) < a0.Offset))))]) ?_ ?_
       ·refine WL.part 40 z (fun F => ?_) (fun F => ?_)
        ·refine WL.gS z z z z (WL.gS z z z z (WL.gS z z z z (WL.gS z z z z (WL.gS z z z z (WL.gS z z z z (wY (Y.pick (b := true) z z) z (WL.ren (v' := vB ((decide (a0.Offset < (-1073741824))) || (decide (w64 (1073741824 - (w64 (d - 1))) < a0.Offset)))) 47 z (congrArg vB (orT F)) ?_)))))))
         exact nl (At.join () z (.cons z .nil))
        ·refine ug z z (wY (yf fo28_0 z) z (ug z z (wY (yl ty3 z z (l.cell 0 _ z)) z (ug z z (wY (ym z) z (ug z z (wY (Y.sub_i z z) z (ug z z (wY (Y.sub_i z z) z ?_)))))))))
         refine ug z z (wY (Y.gtr_i z z) z (wY (Y.pick (b := false) z z) z (WL.ren (v' := vB ((decide (a0.Offset < (-1073741824))) || (decide (w64 (1073741824 - (w64 (d - 1))) < a0.Offset)))) 47 z (congrArg vB (orF F)) ?_)))
         exact nl (At.join () z (.cons z .nil))
       ·rintro _ _ rfl
        refine (show WL _ _ _ _ _ [(47, vB ((decide (a0.Offset < (-1073741824))) || (decide (w64 (1073741824 - (w64 (d - 1))) < a0.Offset))))] _ from ?_)
        obtain ⟨aK, an, h⟩ := lt1 h
        refine WL.yE (ya z) (congrArg vB an.symm) z (nl (th ?_))
        rcases cnd h with ⟨G, h⟩ | ⟨G, h⟩
        ·refine WC.condT' z G (sq (rg (wY (ya z) z (nl (th (rt (At.inBlockR (At.thenR ?_))))))))
         obtain rfl := some1 h
         have ao : Stp [] (Lg.O0 A) w m e := (su_ j z)
         exact At.res (.inl z) z (.tmp z .nil) ⟨z, (se_ ao z z)⟩
        ·refine WC.condF' z G (sk (At.inBlock (th (sq (rg (wY (ya z) z (nl (th (rt ?_)))))))))
         obtain rfl := some1 h
         have ap : Stp [] (Lg.O0 A) w m e := (su_ j z)
         exact At.res (.inl z) z (.tmp z .nil) ⟨z, (se_ ap z z)⟩
theorem c_hist_Check {A : Nat → Prop} {v0_3 : Value} {v0_5 : Value} {a0 : api_Hist} {w : World} (hs0_3 : Sl Rep.u w A v0_3 a0.Pos.Counts) (hs0_5 : Sl Rep.u w A v0_5 a0.Neg.Counts) {r0 : Int} (h : hist_Check a0 = some r0) : Rets Try.prog 28 [ag [vi a0.Scale, vu a0.Zero, vi a0.Pos.Offset, v0_3, vi a0.Neg.Offset, v0_5]] w (fun v w' => v = vi r0 ∧ Ext w w') := by
 unfold hist_Check at h
 refine Rets.enter Try.func28 z z ?_
 have ab : Sl Rep.u w (imm (Lg.O0 A)) v0_3 a0.Pos.Counts := (Sl.start hs0_3)
 have ac : Sl Rep.u w (imm (Lg.O0 A)) v0_5 a0.Neg.Counts := (Sl.start hs0_5)
 refine (show WC _ _ _ _ [(0, ag [vi a0.Scale, vu a0.Zero, vi a0.Pos.Offset, v0_3, vi a0.Neg.Offset, v0_5])] _ from ?_)
 refine sq (rg ?_)
 have aD := h
 obtain ⟨C, D, E, rfl⟩ := ab.shape
 have h := aD
 have aE := h
 obtain ⟨F, G, H, rfl⟩ := ac.shape
 have h := aE
 refine WL.box (O := (Lg.O0 A)) 11 [vi a0.Scale, vu a0.Zero, vi a0.Pos.Offset, (Value.slice C D E), vi a0.Neg.Offset, (Value.slice F G H)] z z z ?_
 intro m T ad d o
 refine wY (ya z) z (nl (th (sq (sq (rg (wY (yf fo30_0 z) z (wY (yl ty3 z z (o.cell 0 _ z)) z (wY (Y.lss_i z z) z (wY (ym z) z ?_)))))))))
 refine WL.cut 4 (σ := Unit) (fun _ w' => ad = w') (fun _ => [(1, pt m 0), (15, vB ((decide (a0.Scale < (-10))) || (decide (20 < a0.Scale))))]) ?_ ?_
 ·refine WL.part 11 z (fun J => ?_) (fun J => ?_)
  ·refine WL.gS z z z z (WL.gS z z z z (WL.gS z z z z (wY (Y.pick (b := true) z z) z (WL.ren (v' := vB ((decide (a0.Scale < (-10))) || (decide (20 < a0.Scale)))) 15 z (congrArg vB (orT J)) ?_))))
   exact nl (At.join () z (.cons z (.cons z .nil)))
  ·refine ug z z (wY (yf fo30_0 z) z (ug z z (wY (yl ty3 z z (o.cell 0 _ z)) z (ug z z (wY (Y.gtr_i z z) z (wY (Y.pick (b := false) z z) z (WL.ren (v' := vB ((decide (a0.Scale < (-10))) || (decide (20 < a0.Scale)))) 15 z (congrArg vB (orF J)) ?_)))))))
   exact nl (At.join () z (.cons z (.cons z .nil)))
 ·rintro _ _ rfl
  refine (show WL _ _ _ _ _ [(1, pt m 0), (15, vB ((decide (a0.Scale < (-10))) || (decide (20 < a0.Scale))))] _ from ?_)
  refine nl (th ?_)
  rcases cnd h with ⟨K, h⟩ | ⟨K, h⟩
  ·refine WC.condT' z K (sq (rg (wY (ya z) z (nl (th (rt (At.thenR ?_)))))))
   obtain rfl := some1 h
   have aF : Stp [] (Lg.O0 A) w T ad := (su_ d z)
   exact At.res (.inl z) z (.tmp z .nil) ⟨z, (se_ aF z z)⟩
  ·refine WC.condF' z K (sk (th (sq (sq (rg (wY (yL ty30 z z (o.cells 0 [vi a0.Scale, vu a0.Zero, vi a0.Pos.Offset, (Value.slice C D E), vi a0.Neg.Offset, (Value.slice F G H)] z) z) z ?_))))))
   have ae := ab.i d z z
   have af := ac.i d z z
   obtain ⟨a3, aG, h⟩ := bnd h
   refine WL.call (vals := [ag [vi a0.Scale, vu a0.Zero, vi a0.Pos.Offset, (Value.slice C D E), vi a0.Neg.Offset, (Value.slice F G H)]]) kok57 z z (c_hist_sides (A := imm T) (a0 := a0) ae af aG) ?_
   rintro bg L ⟨M, rfl, aH, a4, a5⟩
   obtain ⟨U, ah, ai, e⟩ := adoptE T (fun k => 1) aH
   have aI := Rows'.adoptI (O := T) a4 (fun _ hk => hk) (fun _ _ => Nat.le_refl _) ah ai
   refine wY (ym z) z (nl (th ?_))
   obtain ⟨a6, h, aj⟩ := flow1 h
   refine WC.join (σ := Own) (fun x w' => a6 = .go () ∧ Stp [12] U L x w') (fun x => [(1, pt m 0)]) ?_ ?_
   ·refine WC.block ?_
    obtain ⟨ay, h, ak⟩ := flow1 h
    obtain ⟨az, h⟩ := loop_some h
    refine WC.joinB 0 (σ := Own) (fun x w' => ay = .go () ∧ Stp [12] U L x w') (fun x => [(1, pt m 0)]) ?_ ?_
    ·refine WC.loop (σ := (Int × Own)) (fun x k w' => loopN k (hist_Check_lp1 a3) x.1 = some ay ∧ Stp [12] U L x.2 w') (fun x => [(1, pt m 0), (17, Value.agg (List.toArray M)), (18, vi x.1)]) (0, U) az (.cons z (.cons z (.cons z .nil))) ⟨h, (sr_ _ _ _)⟩ ?_
     rintro ⟨aA, al⟩ az aJ ⟨h, j⟩
     obtain ⟨a7, bp, rfl, h, P⟩ := rnd1 h
     unfold hist_Check_lp1 at h
     try dsimp only at h j
     refine (show WC _ _ _ _ [(1, pt m 0), (17, Value.agg (List.toArray M)), (18, vi aA)] _ from ?_)
     refine sq (rg (wY (Y.lss_i z z) z (nl (th (sq ?_)))))
     rcases cnd h with ⟨Q, h⟩ | ⟨Q, h⟩
     ·refine WC.condT' z Q (sk (th (sq (WC.block (sq (rg ?_))))))
      have aK := Rows'.i aI j z z
      obtain ⟨n, am, h⟩ := bnd h
      obtain ⟨bh, p, ap⟩ := arrAt (R := rep_api_Side) (w := aJ) (A := imm al) (cells := M) aK am
      obtain ⟨_, _, rfl, rfl, ⟨a8, rfl, aL⟩⟩ := ap
      replace p : _ = [vi n.Offset, a8] := p
      refine wY (Y.indexArrAg ty86 ty28 z z p am a5) z (WL.alloc (O := al) 12 [vi 0, Value.slice none 0 0] ty28 z z ?_)
      intro bq a9 bi q aM
      have an := aL.i q z z
      have aN := h
      obtain ⟨V, W, X, rfl⟩ := an.shape
      have h := aN
      refine WL.store (v := ag [vi n.Offset, (Value.slice V W X)]) (cells' := [vi n.Offset, (Value.slice V W X)]) ty28 z z aM z (le_ z) z z ?_
      intro bj r aO
      refine nl (th (sq (rg (wY (yL ty28 z z (aO.cells 0 [vi n.Offset, (Value.slice V W X)] z) z) z ?_))))
      have aP := an.i r z z
      obtain ⟨br, aQ, h⟩ := bnd h
      refine WL.call (vals := [ag [vi n.Offset, (Value.slice V W X)]]) kok59 z z (c_hist_check (A := fun _ => True) (a0 := n) (Sl.all aP) aQ) ?_
      rintro bk aR ⟨rfl, aS⟩
      obtain ⟨aC, ba, bb, Z⟩ := adoptE a9 (fun k => 1) aS
      refine wY (ya z) z (nl (th (sq (rg (wY (ym z) z (wY (Y.neq_i z z) z (nl (th ?_))))))))
      rcases cnd h with ⟨S, h⟩ | ⟨S, h⟩
      ·refine WC.condT' z S (sq (rg (wY (ym z) z (wY (ya z) z (nl (th (rt (At.inBlockR (At.thenR ?_)))))))))
       refine At.loopR ?_
       have h := outr1 h P ak
       refine At.joinBR (At.inBlockR ?_)
       have h := outs1 h aj
       refine At.joinR (At.thenR ?_)
       obtain rfl := some1 h
       have aT : Stp [12] (Lg.O0 A) w aC aR := (tr_ (su_ d z) (tr_ (su_ e z) (tr_ (su_ j z) (tr_ (su_ q z) (tr_ (su_ r z) (su_ Z z))))))
       exact At.res (.inl z) z (.tmp z .nil) ⟨z, (se_ aT z z)⟩
      ·refine WC.condF' z S (sk (At.inBlock (th (rg (wY (Y.add_i z z) z (wY (ym z) z (nl ?_)))))))
       exact At.round (w64 (aA + 1), aC) a7 (Nat.lt_succ_self _) ⟨next1 h P, (tr_ (su_ j z) (tr_ (su_ q z) (tr_ (su_ r z) (su_ Z z))))⟩ (.cons z (.cons z (.cons z .nil)))
     ·refine WC.condF' z Q (WC.exit (At.thenX (At.loopX ?_)))
      exact At.hitB (σ := Own) al ⟨brk1 h P, (su_ j z)⟩ (.cons z .nil)
    ·rintro bc bl ⟨rfl, aq⟩
     replace h := flowK_go ak
     refine (show At _ _ _ [(1, pt m 0)] _ from ?_)
     refine At.inBlockHit ?_
     exact At.join (σ := Own) bc ⟨go2 h, (su_ aq z)⟩ (.cons z .nil)
   ·rintro bd bm ⟨rfl, l⟩
    replace h := flowK_go aj
    refine (show At _ _ _ [(1, pt m 0)] _ from ?_)
    refine th (sq (sq (rg ?_)))
    have aU := o.st e z
    have aW := aU.st l z
    refine wY (yL ty30 z z (aW.cells 0 [vi a0.Scale, vu a0.Zero, vi a0.Pos.Offset, (Value.slice C D E), vi a0.Neg.Offset, (Value.slice F G H)] z) z) z ?_
    have aX := ae.i e z z
    have aY := aX.i l z z
    have aZ := af.i e z z
    have ar := aZ.i l z z
    obtain ⟨⟨bn, bo⟩, au, h⟩ := bnd h
    refine WL.call (vals := [ag [vi a0.Scale, vu a0.Zero, vi a0.Pos.Offset, (Value.slice C D E), vi a0.Neg.Offset, (Value.slice F G H)]]) kok27 z z (c_hist_Total (A := fun _ => True) (a0 := a0) (Sl.all aY) (Sl.all ar) au) ?_
    rintro bf aa ⟨rfl, av⟩
    obtain ⟨ao, a1, a2, I⟩ := adoptE bd (fun k => 1) av
    refine wY (ym z) z (wY (yx z z) z (wY (yx z z) z (wY (ya z) z (wY (ya z) z (nl (th (sq (rg (wY (ym z) z ?_)))))))))
    refine wY (Y.not z) z (nl (th ?_))
    rcases cnd h with ⟨t, h⟩ | ⟨t, h⟩
    ·refine WC.condT' z t (sq (rg (wY (ya z) z (nl (th (rt (At.thenR ?_)))))))
     obtain rfl := some1 h
     have aw : Stp [12] (Lg.O0 A) w ao aa := (tr_ (su_ d z) (tr_ (su_ e z) (tr_ (su_ l z) (su_ I z))))
     exact At.res (.inl z) z (.tmp z .nil) ⟨z, (se_ aw z z)⟩
    ·refine WC.condF' z t (sk (th (sq (rg (wY (ya z) z (nl (th (rt ?_))))))))
     obtain rfl := some1 h
     have ax : Stp [12] (Lg.O0 A) w ao aa := (tr_ (su_ d z) (tr_ (su_ e z) (tr_ (su_ l z) (su_ I z))))
     exact At.res (.inl z) z (.tmp z .nil) ⟨z, (se_ ax z z)⟩
theorem c_label_small {a0 : UInt8} {w : World} {r0 : Bool} (h : label_small a0 = some r0) : Rets Try.prog 93 [vb a0] w (fun v w' => v = vB r0 ∧ Ext w w') := by
 unfold label_small at h
 refine Rets.enter Try.func93 z z ?_
 refine (show WC _ _ _ _ [(0, vb a0)] _ from ?_)
 refine sq (rg (wY (ya z) z (nl (th (sq (rg (wY (ym z) z (wY (Y.geq_b (b := 97) z z) z (wY (ym z) z ?_)))))))))
 refine WL.cut 3 (σ := Unit) (fun _ w' => w = w') (fun _ => [(8, vB ((decide (97 ≤ a0)) && (decide (a0 ≤ 122))))]) ?_ ?_
 ·refine WL.part 5 z (fun d => ?_) (fun d => ?_)
  ·refine ug z z (wY (ym z) z (ug z z (wY (Y.leq_b (b := 122) z z) z (wY (Y.pick (b := true) z z) z (WL.ren (v' := vB ((decide (97 ≤ a0)) && (decide (a0 ≤ 122)))) 8 z (congrArg vB (andT d)) ?_)))))
   exact nl (At.join () z (.cons z .nil))
  ·refine WL.gS z z z z (WL.gS z z z z (wY (Y.pick (b := false) z z) z (WL.ren (v' := vB ((decide (97 ≤ a0)) && (decide (a0 ≤ 122)))) 8 z (congrArg vB (andF d)) ?_)))
   exact nl (At.join () z (.cons z .nil))
 ·rintro _ _ rfl
  refine (show WL _ _ _ _ _ [(8, vB ((decide (97 ≤ a0)) && (decide (a0 ≤ 122))))] _ from ?_)
  obtain ⟨l, e, h⟩ := lt1 h
  refine WL.yE (ya z) (congrArg vB e.symm) z (nl (th (rt ?_)))
  obtain rfl := some1 h
  have j : Stp [] (Lg.O0 (fun _ => False)) w (Lg.O0 (fun _ => False)) w := (sr_ _ _ _)
  exact At.res (.inl z) z (.tmp z .nil) ⟨z, (se_ j z z)⟩
theorem c_label_isName {a0 : List UInt8} {w : World} {r0 : Bool} (h : label_isName a0 = some r0) : Rets Try.prog 67 [vs a0] w (fun v w' => v = vB r0 ∧ Ext w w') := by
 unfold label_isName at h
 refine Rets.enter Try.func67 z z ?_
 refine (show WC _ _ _ _ [(0, vs a0)] _ from ?_)
 refine sq (rg (wY (ya z) z (nl (th (sq (sq (rg (wY (ym z) z (wY (Y.eql_s (b := []) z z) z ?_)))))))))
 refine wY (ym z) z ?_
 refine WL.cut 4 (σ := Unit) (fun _ w' => w = w') (fun _ => [(0, vs a0), (11, vB ((decide (a0 = [])) || (decide (32 < (a0.length : Int)))))]) ?_ ?_
 ·refine WL.part 7 z (fun q => ?_) (fun q => ?_)
  ·refine WL.gS z z z z (WL.gS z z z z (WL.gS z z z z (wY (Y.pick (b := true) z z) z (WL.ren (v' := vB ((decide (a0 = [])) || (decide (32 < (a0.length : Int))))) 11 z (congrArg vB (orT q)) ?_))))
   exact nl (At.join () z (.cons z (.cons z .nil)))
  ·refine ug z z (wY (ym z) z (ug z z (wY (Y.len_s ty9 z) z (ug z z (wY (Y.gtr_i z z) z (wY (Y.pick (b := false) z z) z (WL.ren (v' := vB ((decide (a0 = [])) || (decide (32 < (a0.length : Int))))) 11 z (congrArg vB (orF q)) ?_)))))))
   exact nl (At.join () z (.cons z (.cons z .nil)))
 ·rintro _ _ rfl
  refine (show WL _ _ _ _ _ [(0, vs a0), (11, vB ((decide (a0 = [])) || (decide (32 < (a0.length : Int)))))] _ from ?_)
  refine wY (ym z) z ?_
  obtain ⟨aw, h, ac⟩ := bnd h
  refine WL.cut 5 (σ := (Bool × Own)) (fun x w' => x.1 = aw ∧ Stp [] (Lg.O0 (fun _ => False)) w x.2 w') (fun x => [(0, vs a0), (17, vB x.1)]) ?_ ?_
  ·rcases cnd h with ⟨r, h⟩ | ⟨r, h⟩
   ·refine WL.ren 12 z (congrArg vB r) (WL.gS z z z z (WL.gS z z z z (WL.gS z z z z (WL.gS z z z z (wY (Y.pick (b := true) z z) z ?_)))))
    exact nl (At.join (σ := (Bool × Own)) (true, (Lg.O0 (fun _ => False))) ⟨some1 h, (sr_ _ _ _)⟩ (.cons z (.cons z .nil)))
   ·refine WL.ren 12 z (congrArg vB r) (ug z z (wY (ym z) z (ug z z ?_)))
    obtain ⟨ax, ad, h⟩ := bnd h
    refine wY (Y.index_s ty9 z z ad) z (ug z z ?_)
    obtain ⟨ay, ae, h⟩ := bnd h
    refine WL.call (vals := [vb ax]) kok93 z z (c_label_small ae) ?_
    rintro aK aL ⟨rfl, af⟩
    obtain ⟨az, aA, aC, S⟩ := adoptE (Lg.O0 (fun _ => False)) (fun k => 1) af
    refine ug z z (wY (Y.not z) z (wY (Y.pick (b := false) z z) z ?_))
    exact nl (At.join (σ := (Bool × Own)) ((!ay), az) ⟨some1 h, (su_ S z)⟩ (.cons z (.cons z .nil)))
  ·rintro ⟨aD, W⟩ ah ⟨rfl, n⟩
   replace h := ac
   try dsimp only at h n
   refine (show WL _ _ _ _ _ [(0, vs a0), (17, vB aD)] _ from ?_)
   refine nl (th ?_)
   rcases cnd h with ⟨t, h⟩ | ⟨t, h⟩
   ·refine WC.condT' z t (sq (rg (wY (ya z) z (nl (th (rt (At.thenR ?_)))))))
    obtain rfl := some1 h
    have ai : Stp [] (Lg.O0 (fun _ => False)) w W ah := (su_ n z)
    exact At.res (.inl z) z (.tmp z .nil) ⟨z, (se_ ai z z)⟩
   ·refine WC.condF' z t (sk (th (sq (sq (rg (wY (ym z) z (WL.s2b (O := W) ty9 ty124 ty5 z z ?_)))))))
    intro j L M J P
    refine wY (Y.len ty124 z P) z (wY (ym z) z (nl (th (WC.block ?_))))
    obtain ⟨X, h, Q⟩ := flow1 h
    obtain ⟨Z, h⟩ := loop_some h
    refine WC.joinB 0 (σ := Own) (fun x w' => X = .go () ∧ Stp [] L M x w') (fun x => []) ?_ ?_
    ·refine WC.loop (σ := (Int × Own)) (fun x k w' => loopN k (label_isName_lp1 a0) x.1 = some X ∧ Stp [] L M x.2 w') (fun x => [(19, j), (20, vi (a0.length : Int)), (21, vi x.1)]) (0, L) Z (.cons z (.cons z (.cons z .nil))) ⟨h, (sr_ _ _ _)⟩ ?_
     rintro ⟨l, aa⟩ Z aM ⟨h, m⟩
     obtain ⟨aE, aP, rfl, h, C⟩ := rnd1 h
     unfold label_isName_lp1 at h
     try dsimp only at h m
     refine (show WC _ _ _ _ [(19, j), (20, vi (a0.length : Int)), (21, vi l)] _ from ?_)
     refine sq (rg (wY (Y.lss_i z z) z (nl (th (sq ?_)))))
     rcases cnd h with ⟨D, h⟩ | ⟨D, h⟩
     ·refine WC.condT' z D (sk (th (sq (WC.block (sq (rg ?_))))))
      obtain ⟨d, aj, h⟩ := bnd h
      have ak := P.f m z
      obtain ⟨aQ, aI, aJ, aN, al, am, an, E, T, ao⟩ := Sl.at2 ak aj
      obtain rfl := T
      replace E : CellsAt _ _ _ [vb d] := E
      have U := CAt.frs E ao
      refine wY (Y.indexAddr ty124 ty5 z al z am an) z (wY (yl ty5 z z U.at_) z (wY (ya z) z (nl (th (sq (rg (wY (ym z) z ?_)))))))
      obtain ⟨e, ap, h⟩ := bnd h
      refine WL.call (vals := [vb d]) kok93 z z (c_label_small ap) ?_
      rintro aO o ⟨rfl, aq⟩
      obtain ⟨ab, aF, aG, K⟩ := adoptE aa (fun k => 1) aq
      refine wY (Y.not z) z (wY (ym z) z ?_)
      refine WL.cut 7 (σ := Unit) (fun _ w' => o = w') (fun _ => [(4, vb d), (19, j), (20, vi (a0.length : Int)), (21, vi l), (35, vB ((!e) && ((decide (d < 48)) || (decide (57 < d)))))]) ?_ ?_
      ·refine WL.part 28 z (fun F => ?_) (fun F => ?_)
       ·refine ug z z (wY (ym z) z (ug z z (wY (Y.lss_b (b := 48) z z) z (ug z z (wY (ym z) z ?_)))))
        refine WL.cut 3 (σ := Unit) (fun _ w' => o = w') (fun _ => [(4, vb d), (19, j), (20, vi (a0.length : Int)), (21, vi l), (28, vB true), (29, vb d), (30, vB (decide (d < 48))), (31, vB (decide (d < 48))), (34, vB ((decide (d < 48)) || (decide (57 < d))))]) ?_ ?_
        ·refine WL.part 31 z (fun p => ?_) (fun p => ?_)
         ·refine WL.gS z z z z (WL.gS z z z z (ug z z (wY (Y.pick (b := true) z z) z (WL.ren (v' := vB ((decide (d < 48)) || (decide (57 < d)))) 34 z (congrArg vB (orT p)) (WL.ren 31 z (congrArg vB p.symm) ?_)))))
          exact nl (At.join () z (.cons z (.cons z (.cons z (.cons z (.cons z (.cons z (.cons z (.cons z (.cons z .nil))))))))))
         ·refine ug z z (wY (ym z) z (ug z z (wY (Y.gtr_b (b := 57) z z) z (ug z z (wY (Y.pick (b := false) z z) z (WL.ren (v' := vB ((decide (d < 48)) || (decide (57 < d)))) 34 z (congrArg vB (orF p)) (WL.ren 31 z (congrArg vB p.symm) ?_)))))))
          exact nl (At.join () z (.cons z (.cons z (.cons z (.cons z (.cons z (.cons z (.cons z (.cons z (.cons z .nil))))))))))
        ·rintro _ _ rfl
         refine (show WL _ _ _ _ _ [(4, vb d), (19, j), (20, vi (a0.length : Int)), (21, vi l), (28, vB true), (29, vb d), (30, vB (decide (d < 48))), (31, vB (decide (d < 48))), (34, vB ((decide (d < 48)) || (decide (57 < d))))] _ from ?_)
         refine wY (Y.pick (b := true) z z) z (WL.ren (v' := vB ((!e) && ((decide (d < 48)) || (decide (57 < d))))) 35 z (congrArg vB (andT F)) ?_)
         exact nl (At.join () z (.cons z (.cons z (.cons z (.cons z (.cons z .nil))))))
       ·refine WL.gS z z z z (WL.gS z z z z (WL.gS z z z z (WL.gS z z z z (WL.gS z z z z (WL.gS z z z z (wY (Y.pick (b := false) z z) z (WL.ren (v' := vB ((!e) && ((decide (d < 48)) || (decide (57 < d))))) 35 z (congrArg vB (andF F)) ?_)))))))
        exact nl (At.join () z (.cons z (.cons z (.cons z (.cons z (.cons z .nil))))))
      ·rintro _ _ rfl
       refine (show WL _ _ _ _ _ [(4, vb d), (19, j), (20, vi (a0.length : Int)), (21, vi l), (35, vB ((!e) && ((decide (d < 48)) || (decide (57 < d)))))] _ from ?_)
       refine wY (ym z) z ?_
       refine WL.cut 3 (σ := Unit) (fun _ w' => o = w') (fun _ => [(4, vb d), (19, j), (20, vi (a0.length : Int)), (21, vi l), (39, vB (((!e) && ((decide (d < 48)) || (decide (57 < d)))) && (!decide (d = 95))))]) ?_ ?_
       ·refine WL.part 36 z (fun G => ?_) (fun G => ?_)
        ·refine ug z z (wY (ym z) z (ug z z (wY (Y.neq_b (b := 95) z z) z (wY (Y.pick (b := true) z z) z (WL.ren (v' := vB (((!e) && ((decide (d < 48)) || (decide (57 < d)))) && (!decide (d = 95)))) 39 z (congrArg vB (andT G)) ?_)))))
         exact nl (At.join () z (.cons z (.cons z (.cons z (.cons z (.cons z .nil))))))
        ·refine WL.gS z z z z (WL.gS z z z z (wY (Y.pick (b := false) z z) z (WL.ren (v' := vB (((!e) && ((decide (d < 48)) || (decide (57 < d)))) && (!decide (d = 95)))) 39 z (congrArg vB (andF G)) ?_)))
         exact nl (At.join () z (.cons z (.cons z (.cons z (.cons z (.cons z .nil))))))
       ·rintro _ _ rfl
        refine (show WL _ _ _ _ _ [(4, vb d), (19, j), (20, vi (a0.length : Int)), (21, vi l), (39, vB (((!e) && ((decide (d < 48)) || (decide (57 < d)))) && (!decide (d = 95))))] _ from ?_)
        refine wY (ym z) z ?_
        refine WL.cut 3 (σ := Unit) (fun _ w' => o = w') (fun _ => [(19, j), (20, vi (a0.length : Int)), (21, vi l), (43, vB ((((!e) && ((decide (d < 48)) || (decide (57 < d)))) && (!decide (d = 95))) && (!decide (d = 46))))]) ?_ ?_
        ·refine WL.part 40 z (fun H => ?_) (fun H => ?_)
         ·refine ug z z (wY (ym z) z (ug z z (wY (Y.neq_b (b := 46) z z) z (wY (Y.pick (b := true) z z) z (WL.ren (v' := vB ((((!e) && ((decide (d < 48)) || (decide (57 < d)))) && (!decide (d = 95))) && (!decide (d = 46)))) 43 z (congrArg vB (andT H)) ?_)))))
          exact nl (At.join () z (.cons z (.cons z (.cons z (.cons z .nil)))))
         ·refine WL.gS z z z z (WL.gS z z z z (wY (Y.pick (b := false) z z) z (WL.ren (v' := vB ((((!e) && ((decide (d < 48)) || (decide (57 < d)))) && (!decide (d = 95))) && (!decide (d = 46)))) 43 z (congrArg vB (andF H)) ?_)))
          exact nl (At.join () z (.cons z (.cons z (.cons z (.cons z .nil)))))
        ·rintro _ _ rfl
         refine (show WL _ _ _ _ _ [(19, j), (20, vi (a0.length : Int)), (21, vi l), (43, vB ((((!e) && ((decide (d < 48)) || (decide (57 < d)))) && (!decide (d = 95))) && (!decide (d = 46))))] _ from ?_)
         refine nl (th ?_)
         rcases cnd h with ⟨I, h⟩ | ⟨I, h⟩
         ·refine WC.condT' z I (sq (rg (wY (ya z) z (nl (th (rt (At.inBlockR (At.thenR (At.loopR ?_)))))))))
          have h := outr1 h C Q
          refine At.joinBR (At.inBlockR (At.thenR ?_))
          obtain rfl := some1 h
          have ar : Stp [] (Lg.O0 (fun _ => False)) w ab o := (tr_ (su_ n z) (tr_ (su_ J z) (tr_ (su_ m z) (su_ K z))))
          exact At.res (.inl z) z (.tmp z .nil) ⟨z, (se_ ar z z)⟩
         ·refine WC.condF' z I (sk (At.inBlock (th (rg (wY (Y.add_i z z) z (wY (ym z) z (nl ?_)))))))
          exact At.round (w64 (l + 1), ab) aE (Nat.lt_succ_self _) ⟨next1 h C, (tr_ (su_ m z) (su_ K z))⟩ (.cons z (.cons z (.cons z .nil)))
     ·refine WC.condF' z D (WC.exit (At.thenX (At.loopX ?_)))
      exact At.hitB (σ := Own) aa ⟨brk1 h C, (su_ m z)⟩ .nil
    ·rintro aH au ⟨rfl, V⟩
     replace h := flowK_go Q
     refine (show At _ _ _ [] _ from ?_)
     refine At.inBlockHit (th (sq (rg (wY (ya z) z (nl (th (rt ?_)))))))
     obtain rfl := some1 h
     have av : Stp [] (Lg.O0 (fun _ => False)) w aH au := (tr_ (su_ n z) (tr_ (su_ J z) (su_ V z)))
     exact At.res (.inl z) z (.tmp z .nil) ⟨z, (se_ av z z)⟩
theorem c_label_isValue {a0 : List UInt8} {w : World} {r0 : Bool} (h : label_isValue a0 = some r0) : Rets Try.prog 68 [vs a0] w (fun v w' => v = vB r0 ∧ Ext w w') := by
 unfold label_isValue at h
 refine Rets.enter Try.func68 z z ?_
 refine (show WC _ _ _ _ [(0, vs a0)] _ from ?_)
 refine sq (rg (wY (ya z) z (nl (th (sq (sq (rg (wY (ym z) z (wY (Y.eql_s (b := []) z z) z ?_)))))))))
 refine wY (ym z) z ?_
 refine WL.cut 4 (σ := Unit) (fun _ w' => w = w') (fun _ => [(0, vs a0), (11, vB ((decide (a0 = [])) || (decide (32 < (a0.length : Int)))))]) ?_ ?_
 ·refine WL.part 7 z (fun l => ?_) (fun l => ?_)
  ·refine WL.gS z z z z (WL.gS z z z z (WL.gS z z z z (wY (Y.pick (b := true) z z) z (WL.ren (v' := vB ((decide (a0 = [])) || (decide (32 < (a0.length : Int))))) 11 z (congrArg vB (orT l)) ?_))))
   exact nl (At.join () z (.cons z (.cons z .nil)))
  ·refine ug z z (wY (ym z) z (ug z z (wY (Y.len_s ty9 z) z (ug z z (wY (Y.gtr_i z z) z (wY (Y.pick (b := false) z z) z (WL.ren (v' := vB ((decide (a0 = [])) || (decide (32 < (a0.length : Int))))) 11 z (congrArg vB (orF l)) ?_)))))))
   exact nl (At.join () z (.cons z (.cons z .nil)))
 ·rintro _ _ rfl
  refine (show WL _ _ _ _ _ [(0, vs a0), (11, vB ((decide (a0 = [])) || (decide (32 < (a0.length : Int)))))] _ from ?_)
  refine nl (th ?_)
  rcases cnd h with ⟨m, h⟩ | ⟨m, h⟩
  ·refine WC.condT' z m (sq (rg (wY (ya z) z (nl (th (rt (At.thenR ?_)))))))
   obtain rfl := some1 h
   have P : Stp [] (Lg.O0 (fun _ => False)) w (Lg.O0 (fun _ => False)) w := (sr_ _ _ _)
   exact At.res (.inl z) z (.tmp z .nil) ⟨z, (se_ P z z)⟩
  ·refine WC.condF' z m (sk (th (sq (sq (rg (wY (ym z) z (WL.s2b (O := (Lg.O0 (fun _ => False))) ty9 ty124 ty5 z z ?_)))))))
   intro e K d E F
   refine wY (Y.len ty124 z F) z (wY (ym z) z (nl (th (WC.block ?_))))
   obtain ⟨L, h, G⟩ := flow1 h
   obtain ⟨M, h⟩ := loop_some h
   refine WC.joinB 0 (σ := Unit) (fun x w' => L = .go () ∧ d = w') (fun x => []) ?_ ?_
   ·refine WC.loop (σ := Int) (fun x k w' => loopN k (label_isValue_lp1 a0) x = some L ∧ d = w') (fun x => [(13, e), (14, vi (a0.length : Int)), (15, vi x)]) 0 M (.cons z (.cons z (.cons z .nil))) ⟨h, z⟩ ?_
    rintro j M _ ⟨h, rfl⟩
    obtain ⟨af, av, rfl, h, n⟩ := rnd1 h
    unfold label_isValue_lp1 at h
    try dsimp only at h
    refine (show WC _ _ _ _ [(13, e), (14, vi (a0.length : Int)), (15, vi j)] _ from ?_)
    refine sq (rg (wY (Y.lss_i z z) z (nl (th (sq ?_)))))
    rcases cnd h with ⟨o, h⟩ | ⟨o, h⟩
    ·refine WC.condT' z o (sk (th (sq (WC.block (sq (rg ?_))))))
     obtain ⟨ah, Q, h⟩ := bnd h
     obtain ⟨aw, aq, ar, au, S, T, U, p, I, V⟩ := Sl.at2 F Q
     obtain rfl := I
     replace p : CellsAt _ _ _ [vb ah] := p
     have J := CAt.frs p V
     refine wY (Y.indexAddr ty124 ty5 z S z T U) z (wY (yl ty5 z z J.at_) z (wY (ya z) z (nl (th ?_))))
     obtain ⟨ai, h, H⟩ := flow1 h
     refine WC.join (σ := Unit) (fun x w' => ai = .go () ∧ d = w') (fun x => [(13, e), (14, vi (a0.length : Int)), (15, vi j)]) ?_ ?_
     ·refine WC.block (sq ?_)
      obtain ⟨aj, h, W⟩ := bnd h
      refine WC.join (σ := Bool) (fun x w' => x = aj ∧ d = w') (fun x => [(13, e), (14, vi (a0.length : Int)), (15, vi j), (19, vB x)]) ?_ ?_
      ·refine sq (rg (wY (ym z) z (wY (Y.lss_b (b := 33) z z) z ?_)))
       obtain ⟨ak, X, h⟩ := lt1 h
       refine WL.yE (ya z) (congrArg vB X.symm) z (nl (th ?_))
       rcases cnd h with ⟨q, h⟩ | ⟨q, h⟩
       ·refine WC.condT' z q (sk ?_)
        exact At.join (σ := Bool) ak ⟨some1 h, z⟩ (.cons z (.cons z (.cons z (.cons z .nil))))
       ·refine WC.condF' z q (sq (rg (wY (ym z) z (wY (Y.gtr_b (b := 126) z z) z ?_))))
        obtain ⟨al, Z, h⟩ := lt1 h
        refine WL.yE (ya z) (congrArg vB Z.symm) z (nl (th ?_))
        rcases cnd h with ⟨r, h⟩ | ⟨r, h⟩
        ·refine WC.condT' z r (sk ?_)
         exact At.join (σ := Bool) al ⟨some1 h, z⟩ (.cons z (.cons z (.cons z (.cons z .nil))))
        ·refine WC.condF' z r (sq (rg (wY (ym z) z (wY (Y.eql_b (b := 61) z z) z ?_))))
         obtain ⟨am, aa, h⟩ := lt1 h
         refine WL.yE (ya z) (congrArg vB aa.symm) z (nl (th ?_))
         rcases cnd h with ⟨t, h⟩ | ⟨t, h⟩
         ·refine WC.condT' z t (sk ?_)
          exact At.join (σ := Bool) am ⟨some1 h, z⟩ (.cons z (.cons z (.cons z (.cons z .nil))))
         ·refine WC.condF' z t (sq (rg (wY (ym z) z (wY (Y.eql_b (b := 59) z z) z ?_))))
          obtain ⟨an, ab, h⟩ := lt1 h
          refine WL.yE (ya z) (congrArg vB ab.symm) z (nl (th ?_))
          rcases cnd h with ⟨C, h⟩ | ⟨C, h⟩
          ·refine WC.condT' z C (sk ?_)
           exact At.join (σ := Bool) an ⟨some1 h, z⟩ (.cons z (.cons z (.cons z (.cons z .nil))))
          ·refine WC.condF' z C (rg (wY (ym z) z (wY (Y.eql_b (b := 44) z z) z ?_)))
           obtain ⟨ao, ac, h⟩ := lt1 h
           refine WL.yE (ya z) (congrArg vB ac.symm) z (nl ?_)
           exact At.join (σ := Bool) ao ⟨some1 h, z⟩ (.cons z (.cons z (.cons z (.cons z .nil))))
      ·rintro ap _ ⟨rfl, rfl⟩
       replace h := W
       try dsimp only at h
       refine (show At _ _ _ [(13, e), (14, vi (a0.length : Int)), (15, vi j), (19, vB ap)] _ from ?_)
       refine th ?_
       rcases cnd h with ⟨D, h⟩ | ⟨D, h⟩
       ·refine WC.condT' z D (sq (rg (wY (ya z) z (nl (th (rt (At.inBlockR ?_)))))))
        have h := outs1 h H
        refine At.joinR (At.inBlockR (At.thenR (At.loopR ?_)))
        have h := outr1 h n G
        refine At.joinBR (At.inBlockR (At.thenR ?_))
        obtain rfl := some1 h
        have ad : Stp [] (Lg.O0 (fun _ => False)) w K d := (su_ E z)
        exact At.res (.inl z) z (.tmp z .nil) ⟨z, (se_ ad z z)⟩
       ·refine WC.condF' z D (sk (At.inBlock ?_))
        exact At.join (σ := Unit) () ⟨go2 h, z⟩ (.cons z (.cons z (.cons z .nil)))
     ·rintro _ _ ⟨rfl, rfl⟩
      replace h := flowK_go H
      refine (show At _ _ _ [(13, e), (14, vi (a0.length : Int)), (15, vi j)] _ from ?_)
      refine At.inBlock (th (rg (wY (Y.add_i z z) z (wY (ym z) z (nl ?_)))))
      exact At.round (w64 (j + 1)) af (Nat.lt_succ_self _) ⟨next1 h n, z⟩ (.cons z (.cons z (.cons z .nil)))
    ·refine WC.condF' z o (WC.exit (At.thenX (At.loopX ?_)))
     exact At.hitB (σ := Unit) () ⟨brk1 h n, z⟩ .nil
   ·rintro _ _ ⟨rfl, rfl⟩
    replace h := flowK_go G
    refine (show At _ _ _ [] _ from ?_)
    refine At.inBlockHit (th (sq (rg (wY (ya z) z (nl (th (rt ?_)))))))
    obtain rfl := some1 h
    have ae : Stp [] (Lg.O0 (fun _ => False)) w K d := (su_ E z)
    exact At.res (.inl z) z (.tmp z .nil) ⟨z, (se_ ae z z)⟩
theorem c_label_Check {A : Nat → Prop} {a0 : List UInt8} {a1 : List api_Pair} {v1 : Value} {w : World} (hs1 : Sl rep_api_Pair w A v1 a1) {r0 : Int} (h : label_Check a0 a1 = some r0) : Rets Try.prog 35 [vs a0, v1] w (fun v w' => v = vi r0 ∧ Ext w w') := by
 unfold label_Check at h
 refine Rets.enter Try.func35 z z ?_
 have aX : Sl rep_api_Pair w (imm (Lg.O0 A)) v1 a1 := (Sl.start hs1)
 refine (show WC _ _ _ _ [(0, vs a0), (1, v1)] _ from ?_)
 refine sq (rg (wY (ya z) z (nl (th (sq (sq (rg (wY (ym z) z ?_))))))))
 obtain ⟨ce, aY, h⟩ := bnd h
 refine WL.call (vals := [vs a0]) kok67 z z (c_label_isName aY) ?_
 rintro b3 H ⟨rfl, aZ⟩
 obtain ⟨Q, bE, bF, l⟩ := adoptE (Lg.O0 A) (fun k => 1) aZ
 refine wY (Y.not z) z (nl (th ?_))
 rcases cnd h with ⟨U, h⟩ | ⟨U, h⟩
 ·refine WC.condT' z U (sq (rg (wY (ya z) z (nl (th (rt (At.thenR ?_)))))))
  obtain rfl := some1 h
  have a2 : Stp [] (Lg.O0 A) w Q H := (su_ l z)
  exact At.res (.inl z) z (.tmp z .nil) ⟨z, (se_ a2 z z)⟩
 ·refine WC.condF' z U (sk (th (sq (sq (rg (wY (ym z) z ?_))))))
  have V := aX.i l z z
  refine wY (Y.len ty35 z V) z (wY (Y.gtr_i z z) z (nl (th ?_)))
  rcases cnd h with ⟨W, h⟩ | ⟨W, h⟩
  ·refine WC.condT' z W (sq (rg (wY (ya z) z (nl (th (rt (At.thenR ?_)))))))
   obtain rfl := some1 h
   have a3 : Stp [] (Lg.O0 A) w Q H := (su_ l z)
   exact At.res (.inl z) z (.tmp z .nil) ⟨z, (se_ a3 z z)⟩
  ·refine WC.condF' z W (sk (th (sq (sq (rg (wY (ym z) z (wY (Y.len ty35 z V) z (wY (ym z) z (nl ?_)))))))))
   refine th (WC.block ?_)
   obtain ⟨aS, h, X⟩ := flow1 h
   obtain ⟨aT, h⟩ := loop_some h
   refine WC.joinB 0 (σ := Own) (fun x w' => aS = .go () ∧ Stp [11] Q H x w') (fun x => []) ?_ ?_
   ·refine WC.loop (σ := (Int × Own)) (fun x k w' => loopN k (label_Check_lp1 a1) x.1 = some aS ∧ Stp [11] Q H x.2 w') (fun x => [(1, v1), (13, v1), (14, vi (a1.length : Int)), (15, vi x.1)]) (0, Q) aT (.cons z (.cons z (.cons z (.cons z .nil)))) ⟨h, (sr_ _ _ _)⟩ ?_
    rintro ⟨t, aU⟩ aT b4 ⟨h, m⟩
    obtain ⟨bG, cf, rfl, h, I⟩ := rnd1 h
    unfold label_Check_lp1 at h
    try dsimp only at h m
    refine (show WC _ _ _ _ [(1, v1), (13, v1), (14, vi (a1.length : Int)), (15, vi t)] _ from ?_)
    refine sq (rg (wY (Y.lss_i z z) z (nl (th (sq ?_)))))
    rcases cnd h with ⟨Z, h⟩ | ⟨Z, h⟩
    ·refine WC.condT' z Z (sk (th (sq (WC.block (sq (rg (wY (ym z) z ?_)))))))
     obtain ⟨p, a4, h⟩ := bnd h
     have ai := V.i m z z
     obtain ⟨cg, bW, bX, b5, a5, a6, a7, aa, au, a8⟩ := Sl.at2 ai a4
     obtain ⟨_, _, rfl, rfl, rfl⟩ := au
     replace aa : CellsAt _ _ _ [vs p.Key, vs p.Val] := aa
     have av := CAt.imm aa a8
     refine wY (Y.indexAddr ty35 ty107 z a5 z a6 a7) z (wY (yL ty107 z z av.at_ z) z (WL.alloc (O := aU) 11 [vs [], vs []] ty107 z z ?_))
     intro e bH b6 q a9
     refine wY (ya z) z (WL.store (v := ag [vs p.Key, vs p.Val]) (cells' := [vs p.Key, vs p.Val]) ty107 z z a9 z (le_ z) z z ?_)
     intro b7 r ab
     refine nl (th (sq (sq (rg (wY (yf fo107_0 z) z (wY (yl ty9 z z (ab.cell 0 _ z)) z ?_))))))
     obtain ⟨ch, ba, h⟩ := bnd h
     refine WL.call (vals := [vs p.Key]) kok67 z z (c_label_isName ba) ?_
     rintro b8 bb ⟨rfl, bc⟩
     obtain ⟨aj, bI, bJ, n⟩ := adoptE bH (fun k => 1) bc
     refine wY (Y.not z) z (wY (ym z) z ?_)
     obtain ⟨bK, h, bd⟩ := bnd h
     refine WL.cut 5 (σ := (Bool × Own)) (fun x w' => x.1 = bK ∧ Stp [] aj bb x.2 w') (fun x => [(1, v1), (5, vi t), (6, pt e 0), (13, v1), (14, vi (a1.length : Int)), (15, vi t), (29, vB x.1)]) ?_ ?_
     ·rcases cnd h with ⟨ac, h⟩ | ⟨ac, h⟩
      ·refine WL.ren 24 z (congrArg vB ac) (WL.gS z z z z (WL.gS z z z z (WL.gS z z z z (WL.gS z z z z (wY (Y.pick (b := true) z z) z ?_)))))
       exact nl (At.join (σ := (Bool × Own)) (true, aj) ⟨some1 h, (sr_ _ _ _)⟩ (.cons z (.cons z (.cons z (.cons z (.cons z (.cons z (.cons z .nil))))))))
      ·refine WL.ren 24 z (congrArg vB ac) (ug z z (wY (yf fo107_1 z) z (ug z z ?_)))
       have bf := ab.st n z
       refine wY (yl ty9 z z (bf.cell 1 _ z)) z (ug z z ?_)
       obtain ⟨bL, bg, h⟩ := bnd h
       refine WL.call (vals := [vs p.Val]) kok68 z z (c_label_isValue bg) ?_
       rintro b9 ca ⟨rfl, bh⟩
       obtain ⟨bM, bO, bP, aw⟩ := adoptE aj (fun k => 1) bh
       refine ug z z (wY (Y.not z) z (wY (Y.pick (b := false) z z) z ?_))
       exact nl (At.join (σ := (Bool × Own)) ((!bL), bM) ⟨some1 h, (su_ aw z)⟩ (.cons z (.cons z (.cons z (.cons z (.cons z (.cons z (.cons z .nil))))))))
     ·rintro ⟨bQ, F⟩ C ⟨rfl, o⟩
      replace h := bd
      try dsimp only at h o
      refine (show WL _ _ _ _ _ [(1, v1), (5, vi t), (6, pt e 0), (13, v1), (14, vi (a1.length : Int)), (15, vi t), (29, vB bQ)] _ from ?_)
      refine nl (th ?_)
      rcases cnd h with ⟨ad, h⟩ | ⟨ad, h⟩
      ·refine WC.condT' z ad (sq (rg (wY (ya z) z (nl (th (rt (At.thenR (At.inBlockR (At.thenR ?_)))))))))
       refine At.loopR ?_
       have h := outr1 h I X
       refine At.joinBR (At.inBlockR (At.thenR ?_))
       obtain rfl := some1 h
       have bi : Stp [11] (Lg.O0 A) w F C := (tr_ (su_ l z) (tr_ (su_ m z) (tr_ (su_ q z) (tr_ (su_ r z) (tr_ (su_ n z) (su_ o z))))))
       exact At.res (.inl z) z (.tmp z .nil) ⟨z, (se_ bi z z)⟩
      ·refine WC.condF' z ad (sk (th (sq (rg (wY (ym z) z (wY (ym z) z ?_))))))
       obtain ⟨ak, bj, h⟩ := bnd h
       have bk := ai.i q z z
       have bl := bk.i r z z
       have bm := bl.i n z z
       have bn := bm.i o z z
       obtain ⟨G, bo, al⟩ := Sl.slice (ρ := [(30, v1), (31, vi t)]) (x := (.tmp 30)) (lo := none) (hi := (some (.tmp 31))) ty35 ty107 rfl rfl rfl bn bj
       refine wY (Y.sub (.cons z (.cons z .nil)) (bo _ _)) z (wY (Y.mkfunc (fv := []) (cv := [pt e 0]) z z) z ?_)
       obtain ⟨bp, h, ax⟩ := bnd h
       refine WL.callJ (vals := [G, Value.func (.func 70) (List.toArray []) (List.toArray [pt e 0])]) (σ := (Bool × Own)) (fun x w' => x.1 = bp ∧ Stp [] F C x.2 w') (fun x => vB x.1) kok69 z z ?_ ?_
       ·refine Rets.enter Try.func69 z z ?_
        refine (show WC _ _ _ _ [(0, G), (1, Value.func (.func 70) (List.toArray []) (List.toArray [pt e 0]))] _ from ?_)
        refine sq (rg (wY (ya z) z (nl (th (sq (rg (wY (ym z) z (wY (ym z) z ?_))))))))
        obtain ⟨bq, h, ay⟩ := bnd h
        refine WL.callJ (vals := [G, Value.func (.func 70) (List.toArray []) (List.toArray [pt e 0])]) (σ := (Int × Own)) (fun x w' => x.1 = bq ∧ Stp [] F C x.2 w') (fun x => vi x.1) kok94 z z ?_ ?_
        ·refine Rets.enter Try.func94 z z ?_
         refine (show WC _ _ _ _ [(0, G), (1, Value.func (.func 70) (List.toArray []) (List.toArray [pt e 0]))] _ from ?_)
         refine sq (rg (wY (ya z) z (nl (th (sq (sq (rg (wY (ym z) z (wY (Y.len ty35 z al) z ?_)))))))))
         refine wY (ym z) z (nl (th (WC.block ?_)))
         obtain ⟨am, h, ah⟩ := flow1 h
         obtain ⟨an, h⟩ := loop_some h
         refine WC.joinB 0 (σ := Own) (fun x w' => am = .go () ∧ Stp [] F C x w') (fun x => []) ?_ ?_
         ·refine WC.loop (σ := (Int × Own)) (fun x k w' => loopN k (label_Check_lp2 p ak) x.1 = some am ∧ Stp [] F C x.2 w') (fun x => [(0, G), (1, Value.func (.func 70) (List.toArray []) (List.toArray [pt e 0])), (7, vi (ak.length : Int)), (8, vi x.1)]) (0, F) an (.cons z (.cons z (.cons z (.cons z .nil)))) ⟨h, (sr_ _ _ _)⟩ ?_
          rintro ⟨ae, af⟩ an az ⟨h, d⟩
          obtain ⟨br, cb, rfl, h, J⟩ := rnd1 h
          unfold label_Check_lp2 at h
          try dsimp only at h d
          refine (show WC _ _ _ _ [(0, G), (1, Value.func (.func 70) (List.toArray []) (List.toArray [pt e 0])), (7, vi (ak.length : Int)), (8, vi ae)] _ from ?_)
          refine sq (rg (wY (Y.lss_i z z) z (nl (th (sq ?_)))))
          rcases cnd h with ⟨K, h⟩ | ⟨K, h⟩
          ·refine WC.condT' z K (sk (th (sq (WC.block (sq (rg (wY (ym z) z (wY (ya z) z (nl ?_)))))))))
           refine th (sq (rg (wY (ym z) z (wY (ym z) z (wY (ym z) z ?_)))))
           obtain ⟨j, aA, h⟩ := bnd h
           have aC := al.i d z z
           obtain ⟨cc, bR, bS, bY, aD, aE, aF, L, ao, aG⟩ := Sl.at2 aC aA
           obtain ⟨_, _, rfl, rfl, rfl⟩ := ao
           replace L : CellsAt _ _ _ [vs j.Key, vs j.Val] := L
           have ap := CAt.imm L aG
           refine wY (Y.indexAddr ty35 ty107 z aD z aE aF) z (wY (yL ty107 z z ap.at_ z) z ?_)
           obtain ⟨bs, h, aH⟩ := bnd h
           refine WL.callV (fv := []) (cv := [pt e 0]) (vals := [ag [vs j.Key, vs j.Val]]) (σ := (Bool × Own)) (fun x w' => x.1 = bs ∧ Stp [] af az x.2 w') (fun x => vB x.1) kok70 z z z ?_ ?_
           ·refine Rets.enter Try.func70 z z ?_
            refine (show WC _ _ _ _ [(0, ag [vs j.Key, vs j.Val]), (1, pt e 0)] _ from ?_)
            refine sq (rg (WL.box (O := af) 12 [vs j.Key, vs j.Val] z z z ?_))
            intro cd bt bZ S aI
            refine wY (ya z) z (nl (th (sq (rg (wY (yf fo107_0 z) z (wY (yl ty9 z z (aI.cell 0 _ z)) z (wY (yf fo107_0 z) z ?_)))))))
            have aJ := ab.st n z
            have aK := aJ.st o z
            have aL := aK.st d z
            have aM := aL.st S z
            refine wY (yl ty9 z z (aM.cell 0 _ z)) z (wY (Y.eql_s z z) z ?_)
            obtain ⟨bu, aN, h⟩ := lt1 h
            refine WL.yE (ya z) (congrArg vB aN.symm) z (nl (th (rt ?_)))
            exact At.res (.inl z) z (.tmp z .nil) ⟨(bu, bt), ⟨some1 h, (su_ S z)⟩, z⟩
           ·rintro ⟨bw, aq⟩ b0 ⟨rfl, D⟩
            replace h := aH
            try dsimp only at h D
            refine (show WL _ _ _ _ _ ((16, vB bw) :: _) _ from ?_)
            refine nl (th ?_)
            rcases cnd h with ⟨M, h⟩ | ⟨M, h⟩
            ·refine WC.condT' z M (sq (rg (wY (ym z) z (wY (ya z) z (nl (th (rt (At.inBlockR (At.thenR ?_)))))))))
             refine At.loopR ?_
             have h := outr1 h J ah
             refine At.joinBR (At.inBlockR (At.thenR ?_))
             exact At.res (.inl z) z (.tmp z .nil) ⟨(ae, aq), ⟨some1 h, (tr_ (su_ d z) (su_ D z))⟩, z⟩
            ·refine WC.condF' z M (sk (At.inBlock (th (rg (wY (Y.add_i z z) z (wY (ym z) z (nl ?_)))))))
             exact At.round (w64 (ae + 1), aq) br (Nat.lt_succ_self _) ⟨next1 h J, (tr_ (su_ d z) (su_ D z))⟩ (.cons z (.cons z (.cons z (.cons z .nil))))
          ·refine WC.condF' z K (WC.exit (At.thenX (At.loopX ?_)))
           exact At.hitB (σ := Own) af ⟨brk1 h J, (su_ d z)⟩ .nil
         ·rintro bx b1 ⟨rfl, ar⟩
          replace h := flowK_go ah
          refine (show At _ _ _ [] _ from ?_)
          refine At.inBlockHit (th (sq (rg (wY (ya z) z (nl (th (rt ?_)))))))
          exact At.res (.inl z) z (.tmp z .nil) ⟨((-1), bx), ⟨some1 h, (su_ ar z)⟩, z⟩
        ·rintro ⟨bz, bA⟩ b2 ⟨rfl, T⟩
         replace h := ay
         try dsimp only at h T
         refine (show WL _ _ _ _ _ ((7, vi bz) :: _) _ from ?_)
         refine wY (Y.geq_i z z) z ?_
         obtain ⟨bB, aO, h⟩ := lt1 h
         refine WL.yE (ya z) (congrArg vB aO.symm) z (nl (th (rt ?_)))
         exact At.res (.inl z) z (.tmp z .nil) ⟨(bB, bA), ⟨some1 h, (su_ T z)⟩, z⟩
       ·rintro ⟨bT, aW⟩ bC ⟨rfl, E⟩
        replace h := ax
        try dsimp only at h E
        refine (show WL _ _ _ _ _ ((34, vB bT) :: _) _ from ?_)
        refine nl (th ?_)
        rcases cnd h with ⟨P, h⟩ | ⟨P, h⟩
        ·refine WC.condT' z P (sq (rg (wY (ya z) z (nl (th (rt (At.inBlockR (At.thenR (At.loopR ?_)))))))))
         have h := outr1 h I X
         refine At.joinBR (At.inBlockR (At.thenR ?_))
         obtain rfl := some1 h
         have aP : Stp [11] (Lg.O0 A) w aW bC := (tr_ (su_ l z) (tr_ (su_ m z) (tr_ (su_ q z) (tr_ (su_ r z) (tr_ (su_ n z) (tr_ (su_ o z) (su_ E z)))))))
         exact At.res (.inl z) z (.tmp z .nil) ⟨z, (se_ aP z z)⟩
        ·refine WC.condF' z P (sk (At.inBlock (th (rg (wY (Y.add_i z z) z (wY (ym z) z (nl ?_)))))))
         exact At.round (w64 (t + 1), aW) bG (Nat.lt_succ_self _) ⟨next1 h I, (tr_ (su_ m z) (tr_ (su_ q z) (tr_ (su_ r z) (tr_ (su_ n z) (tr_ (su_ o z) (su_ E z))))))⟩ (.cons z (.cons z (.cons z (.cons z .nil))))
    ·refine WC.condF' z Z (WC.exit (At.thenX (At.loopX ?_)))
     exact At.hitB (σ := Own) aU ⟨brk1 h I, (su_ m z)⟩ .nil
   ·rintro bU bD ⟨rfl, aQ⟩
    replace h := flowK_go X
    refine (show At _ _ _ [] _ from ?_)
    refine At.inBlockHit (th (sq (rg (wY (ya z) z (nl (th (rt ?_)))))))
    obtain rfl := some1 h
    have aR : Stp [11] (Lg.O0 A) w bU bD := (tr_ (su_ l z) (su_ aQ z))
    exact At.res (.inl z) z (.tmp z .nil) ⟨z, (se_ aR z z)⟩
theorem c_point_kinds {A : Nat → Prop} {v0_1 : Value} {v0_13 : Value} {v0_15 : Value} {a0 : api_Point} {w : World} (hs0_1 : Sl rep_api_Pair w A v0_1 a0.Attrs) (hs0_13 : Sl Rep.u w A v0_13 a0.Hist.Pos.Counts) (hs0_15 : Sl Rep.u w A v0_15 a0.Hist.Neg.Counts) {r0 : Bool} (h : point_kinds a0 = some r0) : Rets Try.prog 36 [ag [vs a0.Name, v0_1, vi a0.Kind, vi a0.Temp, vB a0.Mono, vi a0.Start, vi a0.Time, vi a0.Int_, vu a0.Re, vu a0.Im, vi a0.Hist.Scale, vu a0.Hist.Zero, vi a0.Hist.Pos.Offset, v0_13, vi a0.Hist.Neg.Offset, v0_15, vi a0.Flags]] w (fun v w' => v = vB r0 ∧ Ext w w') := by
 unfold point_kinds at h
 refine Rets.enter Try.func36 z z ?_
 have C : Sl rep_api_Pair w (imm (Lg.O0 A)) v0_1 a0.Attrs := (Sl.start hs0_1)
 have D : Sl Rep.u w (imm (Lg.O0 A)) v0_13 a0.Hist.Pos.Counts := (Sl.start hs0_13)
 have E : Sl Rep.u w (imm (Lg.O0 A)) v0_15 a0.Hist.Neg.Counts := (Sl.start hs0_15)
 refine (show WC _ _ _ _ [(0, ag [vs a0.Name, v0_1, vi a0.Kind, vi a0.Temp, vB a0.Mono, vi a0.Start, vi a0.Time, vi a0.Int_, vu a0.Re, vu a0.Im, vi a0.Hist.Scale, vu a0.Hist.Zero, vi a0.Hist.Pos.Offset, v0_13, vi a0.Hist.Neg.Offset, v0_15, vi a0.Flags])] _ from ?_)
 refine sq (rg ?_)
 have F := h
 obtain ⟨W, X, Z, rfl⟩ := C.shape
 have h := F
 have G := h
 obtain ⟨aa, ab, ac, rfl⟩ := D.shape
 have h := G
 have H := h
 obtain ⟨ad, ae, af, rfl⟩ := E.shape
 have h := H
 refine WL.box (O := (Lg.O0 A)) 11 [vs a0.Name, (Value.slice W X Z), vi a0.Kind, vi a0.Temp, vB a0.Mono, vi a0.Start, vi a0.Time, vi a0.Int_, vu a0.Re, vu a0.Im, vi a0.Hist.Scale, vu a0.Hist.Zero, vi a0.Hist.Pos.Offset, (Value.slice aa ab ac), vi a0.Hist.Neg.Offset, (Value.slice ad ae af), vi a0.Flags] z z z ?_
 intro t r d e j
 refine wY (ya z) z (nl (th (sq (sq (rg (wY (yf fo37_2 z) z (wY (yl ty3 z z (j.cell 2 _ z)) z (nl (th ?_)))))))))
 refine WC.block (sq (rg (wY (Y.eql_i z z) z ?_)))
 obtain ⟨an, I, h⟩ := lt1 h
 refine WL.yE (ya z) (congrArg vB I.symm) z (nl (th ?_))
 rcases cnd h with ⟨l, h⟩ | ⟨l, h⟩
 ·refine WC.condT' z l (sq (rg (wY (yf fo37_3 z) z (wY (yl ty3 z z (j.cell 3 _ z)) z (wY (Y.eql_i z z) z ?_)))))
  obtain ⟨ao, J, h⟩ := lt1 h
  refine WL.yE (ya z) (congrArg vB J.symm) z (nl (th (rt (At.inBlockR (At.thenR ?_)))))
  obtain rfl := some1 h
  have K : Stp [] (Lg.O0 A) w r d := (su_ e z)
  exact At.res (.inl z) z (.tmp z .nil) ⟨z, (se_ K z z)⟩
 ·refine WC.condF' z l (sq ?_)
  obtain ⟨ah, h, L⟩ := bnd h
  refine WC.join (σ := Bool) (fun x w' => x = ah ∧ d = w') (fun x => [(1, pt t 0), (10, vB x)]) ?_ ?_
  ·refine sq (rg (wY (Y.eql_i z z) z ?_))
   obtain ⟨ai, M, h⟩ := lt1 h
   refine WL.yE (ya z) (congrArg vB M.symm) z (nl (th ?_))
   rcases cnd h with ⟨m, h⟩ | ⟨m, h⟩
   ·refine WC.condT' z m (sk ?_)
    exact At.join (σ := Bool) ai ⟨some1 h, z⟩ (.cons z (.cons z .nil))
   ·refine WC.condF' z m (sq (rg (wY (Y.eql_i z z) z ?_)))
    obtain ⟨aj, P, h⟩ := lt1 h
    refine WL.yE (ya z) (congrArg vB P.symm) z (nl (th ?_))
    rcases cnd h with ⟨n, h⟩ | ⟨n, h⟩
    ·refine WC.condT' z n (sk ?_)
     exact At.join (σ := Bool) aj ⟨some1 h, z⟩ (.cons z (.cons z .nil))
    ·refine WC.condF' z n (sq (rg (wY (Y.eql_i z z) z ?_)))
     obtain ⟨ak, Q, h⟩ := lt1 h
     refine WL.yE (ya z) (congrArg vB Q.symm) z (nl (th ?_))
     rcases cnd h with ⟨o, h⟩ | ⟨o, h⟩
     ·refine WC.condT' z o (sk ?_)
      exact At.join (σ := Bool) ak ⟨some1 h, z⟩ (.cons z (.cons z .nil))
     ·refine WC.condF' z o (rg (wY (Y.eql_i z z) z ?_))
      obtain ⟨al, S, h⟩ := lt1 h
      refine WL.yE (ya z) (congrArg vB S.symm) z (nl ?_)
      exact At.join (σ := Bool) al ⟨some1 h, z⟩ (.cons z (.cons z .nil))
  ·rintro am _ ⟨rfl, rfl⟩
   replace h := L
   try dsimp only at h
   refine (show At _ _ _ [(1, pt t 0), (10, vB am)] _ from ?_)
   refine th ?_
   rcases cnd h with ⟨p, h⟩ | ⟨p, h⟩
   ·refine WC.condT' z p (sq (rg (wY (yf fo37_3 z) z (wY (yl ty3 z z (j.cell 3 _ z)) z (wY (Y.eql_i z z) z (wY (ym z) z ?_))))))
    refine WL.cut 4 (σ := Unit) (fun _ w' => d = w') (fun _ => [(22, vB ((decide (a0.Temp = 1)) || (decide (a0.Temp = 2))))]) ?_ ?_
    ·refine WL.part 18 z (fun q => ?_) (fun q => ?_)
     ·refine WL.gS z z z z (WL.gS z z z z (WL.gS z z z z (wY (Y.pick (b := true) z z) z (WL.ren (v' := vB ((decide (a0.Temp = 1)) || (decide (a0.Temp = 2)))) 22 z (congrArg vB (orT q)) ?_))))
      exact nl (At.join () z (.cons z .nil))
     ·refine ug z z (wY (yf fo37_3 z) z (ug z z (wY (yl ty3 z z (j.cell 3 _ z)) z (ug z z (wY (Y.eql_i z z) z (wY (Y.pick (b := false) z z) z (WL.ren (v' := vB ((decide (a0.Temp = 1)) || (decide (a0.Temp = 2)))) 22 z (congrArg vB (orF q)) ?_)))))))
      exact nl (At.join () z (.cons z .nil))
    ·rintro _ _ rfl
     refine (show WL _ _ _ _ _ [(22, vB ((decide (a0.Temp = 1)) || (decide (a0.Temp = 2))))] _ from ?_)
     obtain ⟨ap, T, h⟩ := lt1 h
     refine WL.yE (ya z) (congrArg vB T.symm) z (nl (th (rt (At.inBlockR (At.thenR ?_)))))
     obtain rfl := some1 h
     have U : Stp [] (Lg.O0 A) w r d := (su_ e z)
     exact At.res (.inl z) z (.tmp z .nil) ⟨z, (se_ U z z)⟩
   ·refine WC.condF' z p (sk (At.inBlock (th (sq (rg (wY (ya z) z (nl (th (rt ?_)))))))))
    obtain rfl := some1 h
    have V : Stp [] (Lg.O0 A) w r d := (su_ e z)
    exact At.res (.inl z) z (.tmp z .nil) ⟨z, (se_ V z z)⟩
theorem c_point_sum {A : Nat → Prop} {v0_1 : Value} {v0_13 : Value} {v0_15 : Value} {a0 : api_Point} {w : World} (hs0_1 : Sl rep_api_Pair w A v0_1 a0.Attrs) (hs0_13 : Sl Rep.u w A v0_13 a0.Hist.Pos.Counts) (hs0_15 : Sl Rep.u w A v0_15 a0.Hist.Neg.Counts) {r0 : Bool} (h : point_sum a0 = some r0) : Rets Try.prog 37 [ag [vs a0.Name, v0_1, vi a0.Kind, vi a0.Temp, vB a0.Mono, vi a0.Start, vi a0.Time, vi a0.Int_, vu a0.Re, vu a0.Im, vi a0.Hist.Scale, vu a0.Hist.Zero, vi a0.Hist.Pos.Offset, v0_13, vi a0.Hist.Neg.Offset, v0_15, vi a0.Flags]] w (fun v w' => v = vB r0 ∧ Ext w w') := by
 unfold point_sum at h
 refine Rets.enter Try.func37 z z ?_
 have m : Sl rep_api_Pair w (imm (Lg.O0 A)) v0_1 a0.Attrs := (Sl.start hs0_1)
 have n : Sl Rep.u w (imm (Lg.O0 A)) v0_13 a0.Hist.Pos.Counts := (Sl.start hs0_13)
 have o : Sl Rep.u w (imm (Lg.O0 A)) v0_15 a0.Hist.Neg.Counts := (Sl.start hs0_15)
 refine (show WC _ _ _ _ [(0, ag [vs a0.Name, v0_1, vi a0.Kind, vi a0.Temp, vB a0.Mono, vi a0.Start, vi a0.Time, vi a0.Int_, vu a0.Re, vu a0.Im, vi a0.Hist.Scale, vu a0.Hist.Zero, vi a0.Hist.Pos.Offset, v0_13, vi a0.Hist.Neg.Offset, v0_15, vi a0.Flags])] _ from ?_)
 refine sq (rg ?_)
 have p := h
 obtain ⟨D, E, F, rfl⟩ := m.shape
 have h := p
 have q := h
 obtain ⟨G, H, I, rfl⟩ := n.shape
 have h := q
 have r := h
 obtain ⟨J, K, L, rfl⟩ := o.shape
 have h := r
 refine WL.box (O := (Lg.O0 A)) 11 [vs a0.Name, (Value.slice D E F), vi a0.Kind, vi a0.Temp, vB a0.Mono, vi a0.Start, vi a0.Time, vi a0.Int_, vu a0.Re, vu a0.Im, vi a0.Hist.Scale, vu a0.Hist.Zero, vi a0.Hist.Pos.Offset, (Value.slice G H I), vi a0.Hist.Neg.Offset, (Value.slice J K L), vi a0.Flags] z z z ?_
 intro P M e l j
 refine wY (ya z) z (nl (th (sq (rg (wY (yf fo37_2 z) z (wY (yl ty3 z z (j.cell 2 _ z)) z (wY (Y.eql_i z z) z (wY (ym z) z ?_))))))))
 refine WL.cut 4 (σ := Unit) (fun _ w' => e = w') (fun _ => [(10, vB ((decide (a0.Kind = 1)) || (decide (a0.Kind = 2))))]) ?_ ?_
 ·refine WL.part 6 z (fun d => ?_) (fun d => ?_)
  ·refine WL.gS z z z z (WL.gS z z z z (WL.gS z z z z (wY (Y.pick (b := true) z z) z (WL.ren (v' := vB ((decide (a0.Kind = 1)) || (decide (a0.Kind = 2)))) 10 z (congrArg vB (orT d)) ?_))))
   exact nl (At.join () z (.cons z .nil))
  ·refine ug z z (wY (yf fo37_2 z) z (ug z z (wY (yl ty3 z z (j.cell 2 _ z)) z (ug z z (wY (Y.eql_i z z) z (wY (Y.pick (b := false) z z) z (WL.ren (v' := vB ((decide (a0.Kind = 1)) || (decide (a0.Kind = 2)))) 10 z (congrArg vB (orF d)) ?_)))))))
   exact nl (At.join () z (.cons z .nil))
 ·rintro _ _ rfl
  refine (show WL _ _ _ _ _ [(10, vB ((decide (a0.Kind = 1)) || (decide (a0.Kind = 2))))] _ from ?_)
  obtain ⟨Q, t, h⟩ := lt1 h
  refine WL.yE (ya z) (congrArg vB t.symm) z (nl (th (rt ?_)))
  obtain rfl := some1 h
  have C : Stp [] (Lg.O0 A) w M e := (su_ l z)
  exact At.res (.inl z) z (.tmp z .nil) ⟨z, (se_ C z z)⟩
theorem c_point_times {A : Nat → Prop} {v0_1 : Value} {v0_13 : Value} {v0_15 : Value} {a0 : api_Point} {w : World} (hs0_1 : Sl rep_api_Pair w A v0_1 a0.Attrs) (hs0_13 : Sl Rep.u w A v0_13 a0.Hist.Pos.Counts) (hs0_15 : Sl Rep.u w A v0_15 a0.Hist.Neg.Counts) {r0 : Bool} (h : point_times a0 = some r0) : Rets Try.prog 38 [ag [vs a0.Name, v0_1, vi a0.Kind, vi a0.Temp, vB a0.Mono, vi a0.Start, vi a0.Time, vi a0.Int_, vu a0.Re, vu a0.Im, vi a0.Hist.Scale, vu a0.Hist.Zero, vi a0.Hist.Pos.Offset, v0_13, vi a0.Hist.Neg.Offset, v0_15, vi a0.Flags]] w (fun v w' => v = vB r0 ∧ Ext w w') := by
 unfold point_times at h
 refine Rets.enter Try.func38 z z ?_
 have q : Sl rep_api_Pair w (imm (Lg.O0 A)) v0_1 a0.Attrs := (Sl.start hs0_1)
 have r : Sl Rep.u w (imm (Lg.O0 A)) v0_13 a0.Hist.Pos.Counts := (Sl.start hs0_13)
 have t : Sl Rep.u w (imm (Lg.O0 A)) v0_15 a0.Hist.Neg.Counts := (Sl.start hs0_15)
 refine (show WC _ _ _ _ [(0, ag [vs a0.Name, v0_1, vi a0.Kind, vi a0.Temp, vB a0.Mono, vi a0.Start, vi a0.Time, vi a0.Int_, vu a0.Re, vu a0.Im, vi a0.Hist.Scale, vu a0.Hist.Zero, vi a0.Hist.Pos.Offset, v0_13, vi a0.Hist.Neg.Offset, v0_15, vi a0.Flags])] _ from ?_)
 refine sq (rg ?_)
 have C := h
 obtain ⟨K, L, M, rfl⟩ := q.shape
 have h := C
 have D := h
 obtain ⟨P, Q, S, rfl⟩ := r.shape
 have h := D
 have E := h
 obtain ⟨T, U, V, rfl⟩ := t.shape
 have h := E
 refine WL.box (O := (Lg.O0 A)) 11 [vs a0.Name, (Value.slice K L M), vi a0.Kind, vi a0.Temp, vB a0.Mono, vi a0.Start, vi a0.Time, vi a0.Int_, vu a0.Re, vu a0.Im, vi a0.Hist.Scale, vu a0.Hist.Zero, vi a0.Hist.Pos.Offset, (Value.slice P Q S), vi a0.Hist.Neg.Offset, (Value.slice T U V), vi a0.Flags] z z z ?_
 intro p o e j d
 refine wY (ya z) z (nl (th (sq (sq (rg (wY (yf fo37_5 z) z (wY (yl ty3 z z (d.cell 5 _ z)) z (wY (Y.lss_i z z) z (wY (ym z) z ?_)))))))))
 refine WL.cut 4 (σ := Unit) (fun _ w' => e = w') (fun _ => [(1, pt p 0), (10, vB ((decide (a0.Start < 0)) || (decide (4503599627370496 < a0.Time))))]) ?_ ?_
 ·refine WL.part 6 z (fun l => ?_) (fun l => ?_)
  ·refine WL.gS z z z z (WL.gS z z z z (WL.gS z z z z (wY (Y.pick (b := true) z z) z (WL.ren (v' := vB ((decide (a0.Start < 0)) || (decide (4503599627370496 < a0.Time)))) 10 z (congrArg vB (orT l)) ?_))))
   exact nl (At.join () z (.cons z (.cons z .nil)))
  ·refine ug z z (wY (yf fo37_6 z) z (ug z z (wY (yl ty3 z z (d.cell 6 _ z)) z (ug z z (wY (Y.gtr_i z z) z (wY (Y.pick (b := false) z z) z (WL.ren (v' := vB ((decide (a0.Start < 0)) || (decide (4503599627370496 < a0.Time)))) 10 z (congrArg vB (orF l)) ?_)))))))
   exact nl (At.join () z (.cons z (.cons z .nil)))
 ·rintro _ _ rfl
  refine (show WL _ _ _ _ _ [(1, pt p 0), (10, vB ((decide (a0.Start < 0)) || (decide (4503599627370496 < a0.Time))))] _ from ?_)
  refine nl (th ?_)
  rcases cnd h with ⟨m, h⟩ | ⟨m, h⟩
  ·refine WC.condT' z m (sq (rg (wY (ya z) z (nl (th (rt (At.thenR ?_)))))))
   obtain rfl := some1 h
   have F : Stp [] (Lg.O0 A) w o e := (su_ j z)
   exact At.res (.inl z) z (.tmp z .nil) ⟨z, (se_ F z z)⟩
  ·refine WC.condF' z m (sk (th (sq (sq (rg (wY (yf fo37_2 z) z (wY (yl ty3 z z (d.cell 2 _ z)) z (wY (Y.eql_i z z) z (nl ?_)))))))))
   refine th ?_
   rcases cnd h with ⟨n, h⟩ | ⟨n, h⟩
   ·refine WC.condT' z n (sq (rg (wY (yf fo37_5 z) z (wY (yl ty3 z z (d.cell 5 _ z)) z (wY (yf fo37_6 z) z (wY (yl ty3 z z (d.cell 6 _ z)) z (wY (Y.eql_i z z) z ?_)))))))
    obtain ⟨W, G, h⟩ := lt1 h
    refine WL.yE (ya z) (congrArg vB G.symm) z (nl (th (rt (At.thenR ?_))))
    obtain rfl := some1 h
    have H : Stp [] (Lg.O0 A) w o e := (su_ j z)
    exact At.res (.inl z) z (.tmp z .nil) ⟨z, (se_ H z z)⟩
   ·refine WC.condF' z n (sk (th (sq (rg (wY (yf fo37_5 z) z (wY (yl ty3 z z (d.cell 5 _ z)) z (wY (yf fo37_6 z) z (wY (yl ty3 z z (d.cell 6 _ z)) z (wY (Y.lss_i z z) z ?_)))))))))
    obtain ⟨X, I, h⟩ := lt1 h
    refine WL.yE (ya z) (congrArg vB I.symm) z (nl (th (rt ?_)))
    obtain rfl := some1 h
    have J : Stp [] (Lg.O0 A) w o e := (su_ j z)
    exact At.res (.inl z) z (.tmp z .nil) ⟨z, (se_ J z z)⟩
theorem c_point_bare {A : Nat → Prop} {v0_3 : Value} {v0_5 : Value} {a0 : api_Hist} {w : World} (hs0_3 : Sl Rep.u w A v0_3 a0.Pos.Counts) (hs0_5 : Sl Rep.u w A v0_5 a0.Neg.Counts) {r0 : Bool} (h : point_bare a0 = some r0) : Rets Try.prog 71 [ag [vi a0.Scale, vu a0.Zero, vi a0.Pos.Offset, v0_3, vi a0.Neg.Offset, v0_5]] w (fun v w' => v = vB r0 ∧ Ext w w') := by
 unfold point_bare at h
 refine Rets.enter Try.func71 z z ?_
 have q : Sl Rep.u w (imm (Lg.O0 A)) v0_3 a0.Pos.Counts := (Sl.start hs0_3)
 have r : Sl Rep.u w (imm (Lg.O0 A)) v0_5 a0.Neg.Counts := (Sl.start hs0_5)
 refine (show WC _ _ _ _ [(0, ag [vi a0.Scale, vu a0.Zero, vi a0.Pos.Offset, v0_3, vi a0.Neg.Offset, v0_5])] _ from ?_)
 refine sq (rg ?_)
 have t := h
 obtain ⟨H, I, J, rfl⟩ := q.shape
 have h := t
 have C := h
 obtain ⟨K, L, M, rfl⟩ := r.shape
 have h := C
 refine WL.box (O := (Lg.O0 A)) 11 [vi a0.Scale, vu a0.Zero, vi a0.Pos.Offset, (Value.slice H I J), vi a0.Neg.Offset, (Value.slice K L M)] z z z ?_
 intro j P e l d
 refine wY (ya z) z (nl (th (sq (rg (wY (yf fo30_0 z) z (wY (yl ty3 z z (d.cell 0 _ z)) z (wY (Y.eql_i z z) z (wY (ym z) z ?_))))))))
 refine WL.cut 4 (σ := Unit) (fun _ w' => e = w') (fun _ => [(1, pt j 0), (10, vB ((decide (a0.Scale = 0)) && (decide (a0.Zero = 0))))]) ?_ ?_
 ·refine WL.part 6 z (fun m => ?_) (fun m => ?_)
  ·refine ug z z (wY (yf fo30_1 z) z (ug z z (wY (yl ty25 z z (d.cell 1 _ z)) z (ug z z (wY (Y.eql_u (b := 0) z z) z (wY (Y.pick (b := true) z z) z (WL.ren (v' := vB ((decide (a0.Scale = 0)) && (decide (a0.Zero = 0)))) 10 z (congrArg vB (andT m)) ?_)))))))
   exact nl (At.join () z (.cons z (.cons z .nil)))
  ·refine WL.gS z z z z (WL.gS z z z z (WL.gS z z z z (wY (Y.pick (b := false) z z) z (WL.ren (v' := vB ((decide (a0.Scale = 0)) && (decide (a0.Zero = 0)))) 10 z (congrArg vB (andF m)) ?_))))
   exact nl (At.join () z (.cons z (.cons z .nil)))
 ·rintro _ _ rfl
  refine (show WL _ _ _ _ _ [(1, pt j 0), (10, vB ((decide (a0.Scale = 0)) && (decide (a0.Zero = 0))))] _ from ?_)
  refine wY (ym z) z ?_
  refine WL.cut 5 (σ := Unit) (fun _ w' => e = w') (fun _ => [(1, pt j 0), (16, vB (((decide (a0.Scale = 0)) && (decide (a0.Zero = 0))) && (decide (a0.Pos.Offset = 0))))]) ?_ ?_
  ·refine WL.part 11 z (fun n => ?_) (fun n => ?_)
   ·refine ug z z (wY (yf fo30_2 z) z (ug z z (wY (yf fo28_0 z) z (ug z z (wY (yl ty3 z z (d.cell 2 _ z)) z (ug z z (wY (Y.eql_i z z) z (wY (Y.pick (b := true) z z) z (WL.ren (v' := vB (((decide (a0.Scale = 0)) && (decide (a0.Zero = 0))) && (decide (a0.Pos.Offset = 0)))) 16 z (congrArg vB (andT n)) ?_)))))))))
    exact nl (At.join () z (.cons z (.cons z .nil)))
   ·refine WL.gS z z z z (WL.gS z z z z (WL.gS z z z z (WL.gS z z z z (wY (Y.pick (b := false) z z) z (WL.ren (v' := vB (((decide (a0.Scale = 0)) && (decide (a0.Zero = 0))) && (decide (a0.Pos.Offset = 0)))) 16 z (congrArg vB (andF n)) ?_)))))
    exact nl (At.join () z (.cons z (.cons z .nil)))
  ·rintro _ _ rfl
   refine (show WL _ _ _ _ _ [(1, pt j 0), (16, vB (((decide (a0.Scale = 0)) && (decide (a0.Zero = 0))) && (decide (a0.Pos.Offset = 0))))] _ from ?_)
   refine wY (ym z) z ?_
   refine WL.cut 5 (σ := Unit) (fun _ w' => e = w') (fun _ => [(1, pt j 0), (22, vB ((((decide (a0.Scale = 0)) && (decide (a0.Zero = 0))) && (decide (a0.Pos.Offset = 0))) && (decide (a0.Neg.Offset = 0))))]) ?_ ?_
   ·refine WL.part 17 z (fun o => ?_) (fun o => ?_)
    ·refine ug z z (wY (yf fo30_3 z) z (ug z z (wY (yf fo28_0 z) z (ug z z (wY (yl ty3 z z (d.cell 4 _ z)) z (ug z z (wY (Y.eql_i z z) z (wY (Y.pick (b := true) z z) z (WL.ren (v' := vB ((((decide (a0.Scale = 0)) && (decide (a0.Zero = 0))) && (decide (a0.Pos.Offset = 0))) && (decide (a0.Neg.Offset = 0)))) 22 z (congrArg vB (andT o)) ?_)))))))))
     exact nl (At.join () z (.cons z (.cons z .nil)))
    ·refine WL.gS z z z z (WL.gS z z z z (WL.gS z z z z (WL.gS z z z z (wY (Y.pick (b := false) z z) z (WL.ren (v' := vB ((((decide (a0.Scale = 0)) && (decide (a0.Zero = 0))) && (decide (a0.Pos.Offset = 0))) && (decide (a0.Neg.Offset = 0)))) 22 z (congrArg vB (andF o)) ?_)))))
     exact nl (At.join () z (.cons z (.cons z .nil)))
   ·rintro _ _ rfl
    refine (show WL _ _ _ _ _ [(1, pt j 0), (22, vB ((((decide (a0.Scale = 0)) && (decide (a0.Zero = 0))) && (decide (a0.Pos.Offset = 0))) && (decide (a0.Neg.Offset = 0))))] _ from ?_)
    refine wY (ym z) z ?_
    refine WL.cut 11 (σ := Unit) (fun _ w' => e = w') (fun _ => [(34, vB (((((decide (a0.Scale = 0)) && (decide (a0.Zero = 0))) && (decide (a0.Pos.Offset = 0))) && (decide (a0.Neg.Offset = 0))) && (decide (w64 ((a0.Pos.Counts.length : Int) + (a0.Neg.Counts.length : Int)) = 0))))]) ?_ ?_
    ·refine WL.part 23 z (fun p => ?_) (fun p => ?_)
     ·refine ug z z (wY (yf fo30_2 z) z (ug z z (wY (yf fo28_1 z) z (ug z z (wY (yl ty26 z z (d.cell 3 _ z)) z (ug z z ?_))))))
      have D := q.i l z z
      refine wY (Y.len ty26 z D) z (ug z z (wY (yf fo30_3 z) z (ug z z (wY (yf fo28_1 z) z (ug z z (wY (yl ty26 z z (d.cell 5 _ z)) z (ug z z ?_)))))))
      have E := r.i l z z
      refine wY (Y.len ty26 z E) z (ug z z (wY (Y.add_i z z) z (ug z z (wY (Y.eql_i z z) z (wY (Y.pick (b := true) z z) z (WL.ren (v' := vB (((((decide (a0.Scale = 0)) && (decide (a0.Zero = 0))) && (decide (a0.Pos.Offset = 0))) && (decide (a0.Neg.Offset = 0))) && (decide (w64 ((a0.Pos.Counts.length : Int) + (a0.Neg.Counts.length : Int)) = 0)))) 34 z (congrArg vB (andT p)) ?_))))))
      exact nl (At.join () z (.cons z .nil))
     ·refine WL.gS z z z z (WL.gS z z z z (WL.gS z z z z (WL.gS z z z z (WL.gS z z z z (WL.gS z z z z (WL.gS z z z z (WL.gS z z z z (WL.gS z z z z (WL.gS z z z z ?_)))))))))
      refine wY (Y.pick (b := false) z z) z (WL.ren (v' := vB (((((decide (a0.Scale = 0)) && (decide (a0.Zero = 0))) && (decide (a0.Pos.Offset = 0))) && (decide (a0.Neg.Offset = 0))) && (decide (w64 ((a0.Pos.Counts.length : Int) + (a0.Neg.Counts.length : Int)) = 0)))) 34 z (congrArg vB (andF p)) ?_)
      exact nl (At.join () z (.cons z .nil))
    ·rintro _ _ rfl
     refine (show WL _ _ _ _ _ [(34, vB (((((decide (a0.Scale = 0)) && (decide (a0.Zero = 0))) && (decide (a0.Pos.Offset = 0))) && (decide (a0.Neg.Offset = 0))) && (decide (w64 ((a0.Pos.Counts.length : Int) + (a0.Neg.Counts.length : Int)) = 0))))] _ from ?_)
     obtain ⟨Q, F, h⟩ := lt1 h
     refine WL.yE (ya z) (congrArg vB F.symm) z (nl (th (rt ?_)))
     obtain rfl := some1 h
     have G : Stp [] (Lg.O0 A) w P e := (su_ l z)
     exact At.res (.inl z) z (.tmp z .nil) ⟨z, (se_ G z z)⟩
theorem c_point_own {A : Nat → Prop} {v0_1 : Value} {v0_13 : Value} {v0_15 : Value} {a0 : api_Point} {w : World} (hs0_1 : Sl rep_api_Pair w A v0_1 a0.Attrs) (hs0_13 : Sl Rep.u w A v0_13 a0.Hist.Pos.Counts) (hs0_15 : Sl Rep.u w A v0_15 a0.Hist.Neg.Counts) {r0 : Bool} (h : point_own a0 = some r0) : Rets Try.prog 39 [ag [vs a0.Name, v0_1, vi a0.Kind, vi a0.Temp, vB a0.Mono, vi a0.Start, vi a0.Time, vi a0.Int_, vu a0.Re, vu a0.Im, vi a0.Hist.Scale, vu a0.Hist.Zero, vi a0.Hist.Pos.Offset, v0_13, vi a0.Hist.Neg.Offset, v0_15, vi a0.Flags]] w (fun v w' => v = vB r0 ∧ Ext w w') := by
 unfold point_own at h
 refine Rets.enter Try.func39 z z ?_
 have af : Sl rep_api_Pair w (imm (Lg.O0 A)) v0_1 a0.Attrs := (Sl.start hs0_1)
 have U : Sl Rep.u w (imm (Lg.O0 A)) v0_13 a0.Hist.Pos.Counts := (Sl.start hs0_13)
 have V : Sl Rep.u w (imm (Lg.O0 A)) v0_15 a0.Hist.Neg.Counts := (Sl.start hs0_15)
 refine (show WC _ _ _ _ [(0, ag [vs a0.Name, v0_1, vi a0.Kind, vi a0.Temp, vB a0.Mono, vi a0.Start, vi a0.Time, vi a0.Int_, vu a0.Re, vu a0.Im, vi a0.Hist.Scale, vu a0.Hist.Zero, vi a0.Hist.Pos.Offset, v0_13, vi a0.Hist.Neg.Offset, v0_15, vi a0.Flags])] _ from ?_)
 refine sq (rg ?_)
 have ah := h
 obtain ⟨aG, aH, aI, rfl⟩ := af.shape
 have h := ah
 have ai := h
 obtain ⟨W, X, Z, rfl⟩ := U.shape
 have h := ai
 have aj := h
 obtain ⟨aa, ab, ac, rfl⟩ := V.shape
 have h := aj
 refine WL.box (O := (Lg.O0 A)) 11 [vs a0.Name, (Value.slice aG aH aI), vi a0.Kind, vi a0.Temp, vB a0.Mono, vi a0.Start, vi a0.Time, vi a0.Int_, vu a0.Re, vu a0.Im, vi a0.Hist.Scale, vu a0.Hist.Zero, vi a0.Hist.Pos.Offset, (Value.slice W X Z), vi a0.Hist.Neg.Offset, (Value.slice aa ab ac), vi a0.Flags] z z z ?_
 intro m o e d l
 refine wY (ya z) z (nl (th (sq (rg (wY (yf fo37_2 z) z (wY (yl ty3 z z (l.cell 2 _ z)) z (wY (Y.eql_i z z) z (wY (ym z) z ?_))))))))
 refine WL.cut 4 (σ := Unit) (fun _ w' => e = w') (fun _ => [(1, pt m 0), (11, vB ((decide (a0.Kind = 2)) || (decide (a0.Kind = 3))))]) ?_ ?_
 ·refine WL.part 7 z (fun q => ?_) (fun q => ?_)
  ·refine WL.gS z z z z (WL.gS z z z z (WL.gS z z z z (wY (Y.pick (b := true) z z) z (WL.ren (v' := vB ((decide (a0.Kind = 2)) || (decide (a0.Kind = 3)))) 11 z (congrArg vB (orT q)) ?_))))
   exact nl (At.join () z (.cons z (.cons z .nil)))
  ·refine ug z z (wY (yf fo37_2 z) z (ug z z (wY (yl ty3 z z (l.cell 2 _ z)) z (ug z z (wY (Y.eql_i z z) z (wY (Y.pick (b := false) z z) z (WL.ren (v' := vB ((decide (a0.Kind = 2)) || (decide (a0.Kind = 3)))) 11 z (congrArg vB (orF q)) ?_)))))))
   exact nl (At.join () z (.cons z (.cons z .nil)))
 ·rintro _ _ rfl
  refine (show WL _ _ _ _ _ [(1, pt m 0), (11, vB ((decide (a0.Kind = 2)) || (decide (a0.Kind = 3))))] _ from ?_)
  refine wY (ym z) z ?_
  refine WL.cut 4 (σ := Unit) (fun _ w' => e = w') (fun _ => [(1, pt m 0), (16, vB (((decide (a0.Kind = 2)) || (decide (a0.Kind = 3))) || (decide (a0.Kind = 5))))]) ?_ ?_
  ·refine WL.part 12 z (fun r => ?_) (fun r => ?_)
   ·refine WL.gS z z z z (WL.gS z z z z (WL.gS z z z z (wY (Y.pick (b := true) z z) z (WL.ren (v' := vB (((decide (a0.Kind = 2)) || (decide (a0.Kind = 3))) || (decide (a0.Kind = 5)))) 16 z (congrArg vB (orT r)) ?_))))
    exact nl (At.join () z (.cons z (.cons z .nil)))
   ·refine ug z z (wY (yf fo37_2 z) z (ug z z (wY (yl ty3 z z (l.cell 2 _ z)) z (ug z z (wY (Y.eql_i z z) z (wY (Y.pick (b := false) z z) z (WL.ren (v' := vB (((decide (a0.Kind = 2)) || (decide (a0.Kind = 3))) || (decide (a0.Kind = 5)))) 16 z (congrArg vB (orF r)) ?_)))))))
    exact nl (At.join () z (.cons z (.cons z .nil)))
  ·rintro _ _ rfl
   refine (show WL _ _ _ _ _ [(1, pt m 0), (16, vB (((decide (a0.Kind = 2)) || (decide (a0.Kind = 3))) || (decide (a0.Kind = 5))))] _ from ?_)
   obtain ⟨j, t, h⟩ := lt1 h
   refine WL.yE (ya z) (congrArg vB t.symm) z (nl (th (sq (WC.block (sq (sq (rg (wY (yf fo37_2 z) z (wY (yl ty3 z z (l.cell 2 _ z)) z ?_)))))))))
   refine wY (Y.neq_i z z) z (wY (ym z) z ?_)
   refine WL.cut 4 (σ := Unit) (fun _ w' => e = w') (fun _ => [(1, pt m 0), (3, vB j), (25, vB ((!decide (a0.Kind = 1)) && (!decide (a0.Int_ = 0))))]) ?_ ?_
   ·refine WL.part 21 z (fun C => ?_) (fun C => ?_)
    ·refine ug z z (wY (yf fo37_7 z) z (ug z z (wY (yl ty3 z z (l.cell 7 _ z)) z (ug z z (wY (Y.neq_i z z) z (wY (Y.pick (b := true) z z) z (WL.ren (v' := vB ((!decide (a0.Kind = 1)) && (!decide (a0.Int_ = 0)))) 25 z (congrArg vB (andT C)) ?_)))))))
     exact nl (At.join () z (.cons z (.cons z (.cons z .nil))))
    ·refine WL.gS z z z z (WL.gS z z z z (WL.gS z z z z (wY (Y.pick (b := false) z z) z (WL.ren (v' := vB ((!decide (a0.Kind = 1)) && (!decide (a0.Int_ = 0)))) 25 z (congrArg vB (andF C)) ?_))))
     exact nl (At.join () z (.cons z (.cons z (.cons z .nil))))
   ·rintro _ _ rfl
    refine (show WL _ _ _ _ _ [(1, pt m 0), (3, vB j), (25, vB ((!decide (a0.Kind = 1)) && (!decide (a0.Int_ = 0))))] _ from ?_)
    obtain ⟨aR, ak, h⟩ := lt1 h
    refine WL.yE (ya z) (congrArg vB ak.symm) z (nl (th ?_))
    rcases cnd h with ⟨D, h⟩ | ⟨D, h⟩
    ·refine WC.condT' z D (sk (th ?_))
     rcases cnd h with ⟨E, h⟩ | ⟨E, h⟩
     ·refine WC.condT' z E (sq (rg (wY (ya z) z (nl (th (rt (At.inBlockR (At.thenR ?_))))))))
      obtain rfl := some1 h
      have al : Stp [] (Lg.O0 A) w o e := (su_ d z)
      exact At.res (.inl z) z (.tmp z .nil) ⟨z, (se_ al z z)⟩
     ·refine WC.condF' z E (sk (At.inBlock (th (sq (rg (wY (ya z) z (nl (th (rt ?_)))))))))
      obtain rfl := some1 h
      have am : Stp [] (Lg.O0 A) w o e := (su_ d z)
      exact At.res (.inl z) z (.tmp z .nil) ⟨z, (se_ am z z)⟩
    ·refine WC.condF' z D (sq (rg (wY (ym z) z (wY (Y.not z) z (wY (ym z) z ?_)))))
     refine WL.cut 4 (σ := Unit) (fun _ w' => e = w') (fun _ => [(1, pt m 0), (32, vB ((!j) && (!decide (a0.Re = 0))))]) ?_ ?_
     ·refine WL.part 28 z (fun F => ?_) (fun F => ?_)
      ·refine ug z z (wY (yf fo37_8 z) z (ug z z (wY (yl ty25 z z (l.cell 8 _ z)) z (ug z z (wY (Y.neq_u (b := 0) z z) z (wY (Y.pick (b := true) z z) z (WL.ren (v' := vB ((!j) && (!decide (a0.Re = 0)))) 32 z (congrArg vB (andT F)) ?_)))))))
       exact nl (At.join () z (.cons z (.cons z .nil)))
      ·refine WL.gS z z z z (WL.gS z z z z (WL.gS z z z z (wY (Y.pick (b := false) z z) z (WL.ren (v' := vB ((!j) && (!decide (a0.Re = 0)))) 32 z (congrArg vB (andF F)) ?_))))
       exact nl (At.join () z (.cons z (.cons z .nil)))
     ·rintro _ _ rfl
      refine (show WL _ _ _ _ _ [(1, pt m 0), (32, vB ((!j) && (!decide (a0.Re = 0))))] _ from ?_)
      obtain ⟨aS, an, h⟩ := lt1 h
      refine WL.yE (ya z) (congrArg vB an.symm) z (nl (th ?_))
      rcases cnd h with ⟨G, h⟩ | ⟨G, h⟩
      ·refine WC.condT' z G (sk (th ?_))
       rcases cnd h with ⟨H, h⟩ | ⟨H, h⟩
       ·refine WC.condT' z H (sq (rg (wY (ya z) z (nl (th (rt (At.inBlockR (At.thenR ?_))))))))
        obtain rfl := some1 h
        have ao : Stp [] (Lg.O0 A) w o e := (su_ d z)
        exact At.res (.inl z) z (.tmp z .nil) ⟨z, (se_ ao z z)⟩
       ·refine WC.condF' z H (sk (At.inBlock (th (sq (rg (wY (ya z) z (nl (th (rt ?_)))))))))
        obtain rfl := some1 h
        have ap : Stp [] (Lg.O0 A) w o e := (su_ d z)
        exact At.res (.inl z) z (.tmp z .nil) ⟨z, (se_ ap z z)⟩
      ·refine WC.condF' z G (sq (rg (wY (yf fo37_2 z) z (wY (yl ty3 z z (l.cell 2 _ z)) z (wY (Y.neq_i z z) z (wY (ym z) z ?_))))))
       refine WL.cut 4 (σ := Unit) (fun _ w' => e = w') (fun _ => [(1, pt m 0), (40, vB ((!decide (a0.Kind = 5)) && (!decide (a0.Im = 0))))]) ?_ ?_
       ·refine WL.part 36 z (fun I => ?_) (fun I => ?_)
        ·refine ug z z (wY (yf fo37_9 z) z (ug z z (wY (yl ty25 z z (l.cell 9 _ z)) z (ug z z (wY (Y.neq_u (b := 0) z z) z (wY (Y.pick (b := true) z z) z (WL.ren (v' := vB ((!decide (a0.Kind = 5)) && (!decide (a0.Im = 0)))) 40 z (congrArg vB (andT I)) ?_)))))))
         exact nl (At.join () z (.cons z (.cons z .nil)))
        ·refine WL.gS z z z z (WL.gS z z z z (WL.gS z z z z (wY (Y.pick (b := false) z z) z (WL.ren (v' := vB ((!decide (a0.Kind = 5)) && (!decide (a0.Im = 0)))) 40 z (congrArg vB (andF I)) ?_))))
         exact nl (At.join () z (.cons z (.cons z .nil)))
       ·rintro _ _ rfl
        refine (show WL _ _ _ _ _ [(1, pt m 0), (40, vB ((!decide (a0.Kind = 5)) && (!decide (a0.Im = 0))))] _ from ?_)
        obtain ⟨aT, aq, h⟩ := lt1 h
        refine WL.yE (ya z) (congrArg vB aq.symm) z (nl (th ?_))
        rcases cnd h with ⟨J, h⟩ | ⟨J, h⟩
        ·refine WC.condT' z J (sk (th ?_))
         rcases cnd h with ⟨K, h⟩ | ⟨K, h⟩
         ·refine WC.condT' z K (sq (rg (wY (ya z) z (nl (th (rt (At.inBlockR (At.thenR ?_))))))))
          obtain rfl := some1 h
          have ar : Stp [] (Lg.O0 A) w o e := (su_ d z)
          exact At.res (.inl z) z (.tmp z .nil) ⟨z, (se_ ar z z)⟩
         ·refine WC.condF' z K (sk (At.inBlock (th (sq (rg (wY (ya z) z (nl (th (rt ?_)))))))))
          obtain rfl := some1 h
          have au : Stp [] (Lg.O0 A) w o e := (su_ d z)
          exact At.res (.inl z) z (.tmp z .nil) ⟨z, (se_ au z z)⟩
        ·refine WC.condF' z J (sq (rg (wY (yf fo37_2 z) z (wY (yl ty3 z z (l.cell 2 _ z)) z (wY (Y.neq_i z z) z (wY (ym z) z ?_))))))
         obtain ⟨aJ, h, av⟩ := bnd h
         refine WL.cut 5 (σ := (Bool × Own)) (fun x w' => x.1 = aJ ∧ Stp [] o e x.2 w') (fun x => [(1, pt m 0), (49, vB x.1)]) ?_ ?_
         ·rcases cnd h with ⟨L, h⟩ | ⟨L, h⟩
          ·refine WL.ren 44 z (congrArg vB L) (ug z z (wY (yf fo37_10 z) z (ug z z (wY (yL ty30 z z (l.cells 10 [vi a0.Hist.Scale, vu a0.Hist.Zero, vi a0.Hist.Pos.Offset, (Value.slice W X Z), vi a0.Hist.Neg.Offset, (Value.slice aa ab ac)] z) z) z (ug z z ?_)))))
           have aw := U.i d z z
           have ax := V.i d z z
           obtain ⟨aK, ay, h⟩ := bnd h
           refine WL.call (vals := [ag [vi a0.Hist.Scale, vu a0.Hist.Zero, vi a0.Hist.Pos.Offset, (Value.slice W X Z), vi a0.Hist.Neg.Offset, (Value.slice aa ab ac)]]) kok71 z z (c_point_bare (A := fun _ => True) (a0 := a0.Hist) (Sl.all aw) (Sl.all ax) ay) ?_
           rintro aP aQ ⟨rfl, az⟩
           obtain ⟨aL, aM, aN, ae⟩ := adoptE o (fun k => 1) az
           refine ug z z (wY (Y.not z) z (wY (Y.pick (b := true) z z) z ?_))
           exact nl (At.join (σ := (Bool × Own)) ((!aK), aL) ⟨some1 h, (su_ ae z)⟩ (.cons z (.cons z .nil)))
          ·refine WL.ren 44 z (congrArg vB L) (WL.gS z z z z (WL.gS z z z z (WL.gS z z z z (WL.gS z z z z (wY (Y.pick (b := false) z z) z ?_)))))
           exact nl (At.join (σ := (Bool × Own)) (false, o) ⟨some1 h, (sr_ _ _ _)⟩ (.cons z (.cons z .nil)))
         ·rintro ⟨aO, T⟩ p ⟨rfl, n⟩
          replace h := av
          try dsimp only at h n
          refine (show WL _ _ _ _ _ [(1, pt m 0), (49, vB aO)] _ from ?_)
          refine wY (ya z) z (nl (th ?_))
          rcases cnd h with ⟨M, h⟩ | ⟨M, h⟩
          ·refine WC.condT' z M (sk (th ?_))
           rcases cnd h with ⟨P, h⟩ | ⟨P, h⟩
           ·refine WC.condT' z P (sq (rg (wY (ya z) z (nl (th (rt (At.inBlockR (At.thenR ?_))))))))
            obtain rfl := some1 h
            have aA : Stp [] (Lg.O0 A) w T p := (tr_ (su_ d z) (su_ n z))
            exact At.res (.inl z) z (.tmp z .nil) ⟨z, (se_ aA z z)⟩
           ·refine WC.condF' z P (sk (At.inBlock (th (sq (rg (wY (ya z) z (nl (th (rt ?_)))))))))
            obtain rfl := some1 h
            have aC : Stp [] (Lg.O0 A) w T p := (tr_ (su_ d z) (su_ n z))
            exact At.res (.inl z) z (.tmp z .nil) ⟨z, (se_ aC z z)⟩
          ·refine WC.condF' z M (rg (wY (yf fo37_11 z) z ?_))
           have ad := l.st n z
           refine wY (yl ty3 z z (ad.cell 16 _ z)) z (wY (Y.lss_i z z) z (wY (ym z) z ?_))
           refine WL.cut 4 (σ := Unit) (fun _ w' => p = w') (fun _ => [(57, vB ((decide (a0.Flags < 0)) || (decide (31 < a0.Flags))))]) ?_ ?_
           ·refine WL.part 53 z (fun Q => ?_) (fun Q => ?_)
            ·refine WL.gS z z z z (WL.gS z z z z (WL.gS z z z z (wY (Y.pick (b := true) z z) z (WL.ren (v' := vB ((decide (a0.Flags < 0)) || (decide (31 < a0.Flags)))) 57 z (congrArg vB (orT Q)) ?_))))
             exact nl (At.join () z (.cons z .nil))
            ·refine ug z z (wY (yf fo37_11 z) z (ug z z (wY (yl ty3 z z (ad.cell 16 _ z)) z (ug z z (wY (Y.gtr_i z z) z (wY (Y.pick (b := false) z z) z (WL.ren (v' := vB ((decide (a0.Flags < 0)) || (decide (31 < a0.Flags)))) 57 z (congrArg vB (orF Q)) ?_)))))))
             exact nl (At.join () z (.cons z .nil))
           ·rintro _ _ rfl
            refine (show WL _ _ _ _ _ [(57, vB ((decide (a0.Flags < 0)) || (decide (31 < a0.Flags))))] _ from ?_)
            obtain ⟨aU, aD, h⟩ := lt1 h
            refine WL.yE (ya z) (congrArg vB aD.symm) z (nl (th ?_))
            rcases cnd h with ⟨S, h⟩ | ⟨S, h⟩
            ·refine WC.condT' z S (sq (rg (wY (ya z) z (nl (th (rt (At.inBlockR (At.thenR ?_))))))))
             obtain rfl := some1 h
             have aE : Stp [] (Lg.O0 A) w T p := (tr_ (su_ d z) (su_ n z))
             exact At.res (.inl z) z (.tmp z .nil) ⟨z, (se_ aE z z)⟩
            ·refine WC.condF' z S (sk (At.inBlock (th (sq (rg (wY (ya z) z (nl (th (rt ?_)))))))))
             obtain rfl := some1 h
             have aF : Stp [] (Lg.O0 A) w T p := (tr_ (su_ d z) (su_ n z))
             exact At.res (.inl z) z (.tmp z .nil) ⟨z, (se_ aF z z)⟩
theorem c_num_Finite {a0 : UInt64} {w : World} {r0 : Bool} (h : num_Finite a0 = some r0) : Rets Try.prog 40 [vu a0] w (fun v w' => v = vB r0 ∧ Ext w w') := by
 unfold num_Finite at h
 refine Rets.enter Try.func40 z z ?_
 refine (show WC _ _ _ _ [(0, vu a0)] _ from ?_)
 refine sq (rg (wY (ya z) z (nl (th (sq (rg (wY (ym z) z (wY (Y.and_u (b := 9218868437227405312) z z) z (wY (Y.neq_u (b := 9218868437227405312) z z) z ?_)))))))))
 obtain ⟨j, d, h⟩ := lt1 h
 refine WL.yE (ya z) (congrArg vB d.symm) z (nl (th (rt ?_)))
 obtain rfl := some1 h
 have e : Stp [] (Lg.O0 (fun _ => False)) w (Lg.O0 (fun _ => False)) w := (sr_ _ _ _)
 exact At.res (.inl z) z (.tmp z .nil) ⟨z, (se_ e z z)⟩
theorem c_num_of {a0 : UInt64} {w : World} : Rets Try.prog 72 [vu a0] w (fun v w' => v = .float .f64 a0.toNat ∧ Ext w w') := by
  refine Rets.enter Try.func72 z z ?_
  refine (show WC _ _ _ _ [(0, vu a0)] _ from ?_)
  refine sq (rg (wY (ya (v := .float .f64 0) z) z (nl (th ?_))))
  refine sq (rg ?_)
  refine wY (ym z) z (wY (Y.ffrom xfrom_95 z) z ?_)
  refine wY (ya z) z (nl (th (rt ?_)))
  exact At.res (.inl z) z (.tmp z .nil) ⟨z, Ext.refl w⟩
theorem c_num_Less {a0 : UInt64} {a1 : UInt64} {w : World} {r0 : Bool} (h : num_Less a0 a1 = some r0) : Rets Try.prog 41 [vu a0, vu a1] w (fun v w' => v = vB r0 ∧ Ext w w') := by
  unfold num_Less at h
  obtain rfl := some1 h
  refine Rets.enter Try.func41 z z ?_
  refine (show WC _ _ _ _ [(0, vu a0), (1, vu a1)] _ from ?_)
  refine sq (rg (wY (ya (v := .bool false) z) z (nl (th ?_))))
  refine sq (rg ?_)
  refine wY (ym z) z (WL.call (vals := [vu a0]) kok72 z z (c_num_of) ?_)
  rintro C D ⟨rfl, j⟩
  obtain ⟨r, n, o, d⟩ := adoptE (Lg.O0 (fun _ => False)) (fun k => 1) j
  refine wY (ym z) z (WL.call (vals := [vu a1]) kok72 z z (c_num_of) ?_)
  rintro E l ⟨rfl, m⟩
  obtain ⟨t, p, q, e⟩ := adoptE r (fun k => 1) m
  refine wY (Y.fless z z) z ?_
  refine wY (ya z) z (nl (th (rt ?_)))
  have hs : Stp [] (Lg.O0 (fun _ => False)) w t l := (tr_ (su_ d z) (su_ e z))
  exact At.res (.inl z) z (.tmp z .nil) ⟨z, se_ hs z z⟩
theorem c_point_Check {A : Nat → Prop} {v0_1 : Value} {v0_13 : Value} {v0_15 : Value} {a0 : api_Point} {w : World} (hs0_1 : Sl rep_api_Pair w A v0_1 a0.Attrs) (hs0_13 : Sl Rep.u w A v0_13 a0.Hist.Pos.Counts) (hs0_15 : Sl Rep.u w A v0_15 a0.Hist.Neg.Counts) {r0 : Int} (h : point_Check a0 = some r0) : Rets Try.prog 14 [ag [vs a0.Name, v0_1, vi a0.Kind, vi a0.Temp, vB a0.Mono, vi a0.Start, vi a0.Time, vi a0.Int_, vu a0.Re, vu a0.Im, vi a0.Hist.Scale, vu a0.Hist.Zero, vi a0.Hist.Pos.Offset, v0_13, vi a0.Hist.Neg.Offset, v0_15, vi a0.Flags]] w (fun v w' => v = vi r0 ∧ Ext w w') := by
 unfold point_Check at h
 refine Rets.enter Try.func14 z z ?_
 have ay : Sl rep_api_Pair w (imm (Lg.O0 A)) v0_1 a0.Attrs := (Sl.start hs0_1)
 have az : Sl Rep.u w (imm (Lg.O0 A)) v0_13 a0.Hist.Pos.Counts := (Sl.start hs0_13)
 have aA : Sl Rep.u w (imm (Lg.O0 A)) v0_15 a0.Hist.Neg.Counts := (Sl.start hs0_15)
 refine (show WC _ _ _ _ [(0, ag [vs a0.Name, v0_1, vi a0.Kind, vi a0.Temp, vB a0.Mono, vi a0.Start, vi a0.Time, vi a0.Int_, vu a0.Re, vu a0.Im, vi a0.Hist.Scale, vu a0.Hist.Zero, vi a0.Hist.Pos.Offset, v0_13, vi a0.Hist.Neg.Offset, v0_15, vi a0.Flags])] _ from ?_)
 refine sq (rg ?_)
 have bm := h
 obtain ⟨G, H, I, rfl⟩ := ay.shape
 have h := bm
 have bn := h
 obtain ⟨r, t, C, rfl⟩ := az.shape
 have h := bn
 have bo := h
 obtain ⟨D, E, F, rfl⟩ := aA.shape
 have h := bo
 refine WL.box (O := (Lg.O0 A)) 11 [vs a0.Name, (Value.slice G H I), vi a0.Kind, vi a0.Temp, vB a0.Mono, vi a0.Start, vi a0.Time, vi a0.Int_, vu a0.Re, vu a0.Im, vi a0.Hist.Scale, vu a0.Hist.Zero, vi a0.Hist.Pos.Offset, (Value.slice r t C), vi a0.Hist.Neg.Offset, (Value.slice D E F), vi a0.Flags] z z z ?_
 intro q ch cC j ai
 refine wY (ya z) z (nl (th (sq (sq (rg (wY (yf fo37_0 z) z (wY (yl ty9 z z (ai.cell 0 _ z)) z (wY (yf fo37_1 z) z (wY (yl ty35 z z (ai.cell 1 _ z)) z ?_)))))))))
 have aC := ay.i j z z
 obtain ⟨cO, bp, h⟩ := bnd h
 refine WL.call (vals := [vs a0.Name, (Value.slice G H I)]) kok35 z z (c_label_Check (A := fun _ => True) (Sl.all aC) bp) ?_
 rintro cD bq ⟨rfl, br⟩
 obtain ⟨bi, ci, cj, e⟩ := adoptE ch (fun k => 1) br
 refine wY (ya z) z (nl (th (sq (rg (wY (ym z) z (wY (Y.neq_i z z) z (nl (th ?_))))))))
 rcases cnd h with ⟨aj, h⟩ | ⟨aj, h⟩
 ·refine WC.condT' z aj (sq (rg (wY (ym z) z (wY (ya z) z (nl (th (rt (At.thenR ?_))))))))
  obtain rfl := some1 h
  have bs : Stp [] (Lg.O0 A) w bi bq := (tr_ (su_ j z) (su_ e z))
  exact At.res (.inl z) z (.tmp z .nil) ⟨z, (se_ bs z z)⟩
 ·refine WC.condF' z aj (sk (th (sq (WC.block (sq (rg ?_))))))
  have ak := ai.st e z
  refine wY (yL ty37 z z (ak.cells 0 [vs a0.Name, (Value.slice G H I), vi a0.Kind, vi a0.Temp, vB a0.Mono, vi a0.Start, vi a0.Time, vi a0.Int_, vu a0.Re, vu a0.Im, vi a0.Hist.Scale, vu a0.Hist.Zero, vi a0.Hist.Pos.Offset, (Value.slice r t C), vi a0.Hist.Neg.Offset, (Value.slice D E F), vi a0.Flags] z) z) z ?_
  have M := aC.i e z z
  have bt := az.i j z z
  have P := bt.i e z z
  have bu := aA.i j z z
  have Q := bu.i e z z
  obtain ⟨cP, bw, h⟩ := bnd h
  refine WL.call (vals := [ag [vs a0.Name, (Value.slice G H I), vi a0.Kind, vi a0.Temp, vB a0.Mono, vi a0.Start, vi a0.Time, vi a0.Int_, vu a0.Re, vu a0.Im, vi a0.Hist.Scale, vu a0.Hist.Zero, vi a0.Hist.Pos.Offset, (Value.slice r t C), vi a0.Hist.Neg.Offset, (Value.slice D E F), vi a0.Flags]]) kok36 z z (c_point_kinds (A := fun _ => True) (a0 := a0) (Sl.all M) (Sl.all P) (Sl.all Q) bw) ?_
  rintro cE al ⟨rfl, bx⟩
  obtain ⟨af, ck, cl, d⟩ := adoptE bi (fun k => 1) bx
  refine wY (Y.not z) z ?_
  obtain ⟨cQ, bz, h⟩ := lt1 h
  refine WL.yE (ya z) (congrArg vB bz.symm) z (nl (th ?_))
  rcases cnd h with ⟨am, h⟩ | ⟨am, h⟩
  ·refine WC.condT' z am (sq (rg (wY (ya z) z (nl (th (rt (At.inBlockR (At.thenR ?_))))))))
   obtain rfl := some1 h
   have bA : Stp [] (Lg.O0 A) w af al := (tr_ (su_ j z) (tr_ (su_ e z) (su_ d z)))
   exact At.res (.inl z) z (.tmp z .nil) ⟨z, (se_ bA z z)⟩
  ·refine WC.condF' z am (sq ?_)
   obtain ⟨cm, h, bB⟩ := bnd h
   refine WC.join (σ := (Bool × Own)) (fun x w' => x.1 = cm ∧ Stp [] af al x.2 w') (fun x => [(1, pt q 0), (16, vB x.1)]) ?_ ?_
   ·refine sq (rg (wY (yf fo37_4 z) z ?_))
    have an := ak.st d z
    refine wY (yl ty4 z z (an.cell 4 _ z)) z (wY (ym z) z ?_)
    obtain ⟨cn, h, bC⟩ := bnd h
    refine WL.cut 4 (σ := (Bool × Own)) (fun x w' => x.1 = cn ∧ Stp [] af al x.2 w') (fun x => [(1, pt q 0), (23, vB x.1)]) ?_ ?_
    ·rcases cnd h with ⟨ao, h⟩ | ⟨ao, h⟩
     ·refine WL.ren 19 z (congrArg vB ao) (ug z z (wY (yL ty37 z z (an.cells 0 [vs a0.Name, (Value.slice G H I), vi a0.Kind, vi a0.Temp, vB a0.Mono, vi a0.Start, vi a0.Time, vi a0.Int_, vu a0.Re, vu a0.Im, vi a0.Hist.Scale, vu a0.Hist.Zero, vi a0.Hist.Pos.Offset, (Value.slice r t C), vi a0.Hist.Neg.Offset, (Value.slice D E F), vi a0.Flags] z) z) z (ug z z ?_)))
      have bD := M.i d z z
      have bE := P.i d z z
      have bF := Q.i d z z
      obtain ⟨co, bG, h⟩ := bnd h
      refine WL.call (vals := [ag [vs a0.Name, (Value.slice G H I), vi a0.Kind, vi a0.Temp, vB a0.Mono, vi a0.Start, vi a0.Time, vi a0.Int_, vu a0.Re, vu a0.Im, vi a0.Hist.Scale, vu a0.Hist.Zero, vi a0.Hist.Pos.Offset, (Value.slice r t C), vi a0.Hist.Neg.Offset, (Value.slice D E F), vi a0.Flags]]) kok37 z z (c_point_sum (A := fun _ => True) (a0 := a0) (Sl.all bD) (Sl.all bE) (Sl.all bF) bG) ?_
      rintro cF cG ⟨rfl, bH⟩
      obtain ⟨cp, cq, cr, aI⟩ := adoptE af (fun k => 1) bH
      refine ug z z (wY (Y.not z) z (wY (Y.pick (b := true) z z) z ?_))
      exact nl (At.join (σ := (Bool × Own)) ((!co), cp) ⟨some1 h, (su_ aI z)⟩ (.cons z (.cons z .nil)))
     ·refine WL.ren 19 z (congrArg vB ao) (WL.gS z z z z (WL.gS z z z z (WL.gS z z z z (wY (Y.pick (b := false) z z) z ?_))))
      exact nl (At.join (σ := (Bool × Own)) (false, af) ⟨some1 h, (sr_ _ _ _)⟩ (.cons z (.cons z .nil)))
    ·rintro ⟨bj, bk⟩ cH ⟨rfl, p⟩
     replace h := bC
     try dsimp only at h p
     refine (show WL _ _ _ _ _ [(1, pt q 0), (23, vB bj)] _ from ?_)
     refine wY (ya z) z (nl (th ?_))
     rcases cnd h with ⟨ap, h⟩ | ⟨ap, h⟩
     ·refine WC.condT' z ap (sk ?_)
      exact At.join (σ := (Bool × Own)) (bj, bk) ⟨some1 h, (su_ p z)⟩ (.cons z (.cons z .nil))
     ·refine WC.condF' z ap (rg ?_)
      have bI := an.st p z
      refine wY (yL ty37 z z (bI.cells 0 [vs a0.Name, (Value.slice G H I), vi a0.Kind, vi a0.Temp, vB a0.Mono, vi a0.Start, vi a0.Time, vi a0.Int_, vu a0.Re, vu a0.Im, vi a0.Hist.Scale, vu a0.Hist.Zero, vi a0.Hist.Pos.Offset, (Value.slice r t C), vi a0.Hist.Neg.Offset, (Value.slice D E F), vi a0.Flags] z) z) z ?_
      have bJ := M.i d z z
      have bK := bJ.i p z z
      have bL := P.i d z z
      have bM := bL.i p z z
      have bO := Q.i d z z
      have bP := bO.i p z z
      obtain ⟨cR, bQ, h⟩ := bnd h
      refine WL.call (vals := [ag [vs a0.Name, (Value.slice G H I), vi a0.Kind, vi a0.Temp, vB a0.Mono, vi a0.Start, vi a0.Time, vi a0.Int_, vu a0.Re, vu a0.Im, vi a0.Hist.Scale, vu a0.Hist.Zero, vi a0.Hist.Pos.Offset, (Value.slice r t C), vi a0.Hist.Neg.Offset, (Value.slice D E F), vi a0.Flags]]) kok38 z z (c_point_times (A := fun _ => True) (a0 := a0) (Sl.all bK) (Sl.all bM) (Sl.all bP) bQ) ?_
      rintro cI cJ ⟨rfl, bR⟩
      obtain ⟨bS, b7, b8, aD⟩ := adoptE bk (fun k => 1) bR
      refine wY (Y.not z) z ?_
      obtain ⟨bT, aJ, h⟩ := lt1 h
      refine WL.yE (ya z) (congrArg vB aJ.symm) z (nl ?_)
      exact At.join (σ := (Bool × Own)) (bT, bS) ⟨some1 h, (tr_ (su_ p z) (su_ aD z))⟩ (.cons z (.cons z .nil))
   ·rintro ⟨cs, bl⟩ bU ⟨rfl, l⟩
    replace h := bB
    try dsimp only at h l
    refine (show At _ _ _ [(1, pt q 0), (16, vB cs)] _ from ?_)
    refine th ?_
    rcases cnd h with ⟨S, h⟩ | ⟨S, h⟩
    ·refine WC.condT' z S (sq (rg (wY (ya z) z (nl (th (rt (At.inBlockR (At.thenR ?_))))))))
     obtain rfl := some1 h
     have aK : Stp [] (Lg.O0 A) w bl bU := (tr_ (su_ j z) (tr_ (su_ e z) (tr_ (su_ d z) (su_ l z))))
     exact At.res (.inl z) z (.tmp z .nil) ⟨z, (se_ aK z z)⟩
    ·refine WC.condF' z S (sq (rg ?_))
     have aL := ak.st d z
     have ar := aL.st l z
     refine wY (yL ty37 z z (ar.cells 0 [vs a0.Name, (Value.slice G H I), vi a0.Kind, vi a0.Temp, vB a0.Mono, vi a0.Start, vi a0.Time, vi a0.Int_, vu a0.Re, vu a0.Im, vi a0.Hist.Scale, vu a0.Hist.Zero, vi a0.Hist.Pos.Offset, (Value.slice r t C), vi a0.Hist.Neg.Offset, (Value.slice D E F), vi a0.Flags] z) z) z ?_
     have aM := M.i d z z
     have aN := aM.i l z z
     have aO := P.i d z z
     have au := aO.i l z z
     have aP := Q.i d z z
     have av := aP.i l z z
     obtain ⟨cK, aQ, h⟩ := bnd h
     refine WL.call (vals := [ag [vs a0.Name, (Value.slice G H I), vi a0.Kind, vi a0.Temp, vB a0.Mono, vi a0.Start, vi a0.Time, vi a0.Int_, vu a0.Re, vu a0.Im, vi a0.Hist.Scale, vu a0.Hist.Zero, vi a0.Hist.Pos.Offset, (Value.slice r t C), vi a0.Hist.Neg.Offset, (Value.slice D E F), vi a0.Flags]]) kok39 z z (c_point_own (A := fun _ => True) (a0 := a0) (Sl.all aN) (Sl.all au) (Sl.all av) aQ) ?_
     rintro ct T ⟨rfl, aR⟩
     obtain ⟨U, b9, ca, m⟩ := adoptE bl (fun k => 1) aR
     refine wY (Y.not z) z ?_
     obtain ⟨cL, aS, h⟩ := lt1 h
     refine WL.yE (ya z) (congrArg vB aS.symm) z (nl (th ?_))
     rcases cnd h with ⟨V, h⟩ | ⟨V, h⟩
     ·refine WC.condT' z V (sq (rg (wY (ya z) z (nl (th (rt (At.inBlockR (At.thenR ?_))))))))
      obtain rfl := some1 h
      have aT : Stp [] (Lg.O0 A) w U T := (tr_ (su_ j z) (tr_ (su_ e z) (tr_ (su_ d z) (tr_ (su_ l z) (su_ m z)))))
      exact At.res (.inl z) z (.tmp z .nil) ⟨z, (se_ aT z z)⟩
     ·refine WC.condF' z V (sq (rg (wY (yf fo37_4 z) z ?_)))
      have K := ar.st m z
      refine wY (yl ty4 z z (K.cell 4 _ z)) z (wY (ym z) z ?_)
      refine WL.cut 4 (σ := Unit) (fun _ w' => T = w') (fun _ => [(1, pt q 0), (38, vB (a0.Mono && (decide (a0.Kind = 2))))]) ?_ ?_
      ·refine WL.part 34 z (fun W => ?_) (fun W => ?_)
       ·refine ug z z (wY (yf fo37_2 z) z (ug z z (wY (yl ty3 z z (K.cell 2 _ z)) z (ug z z (wY (Y.eql_i z z) z (wY (Y.pick (b := true) z z) z (WL.ren (v' := vB (a0.Mono && (decide (a0.Kind = 2)))) 38 z (congrArg vB (andT W)) ?_)))))))
        exact nl (At.join () z (.cons z (.cons z .nil)))
       ·refine WL.gS z z z z (WL.gS z z z z (WL.gS z z z z (wY (Y.pick (b := false) z z) z (WL.ren (v' := vB (a0.Mono && (decide (a0.Kind = 2)))) 38 z (congrArg vB (andF W)) ?_))))
        exact nl (At.join () z (.cons z (.cons z .nil)))
      ·rintro _ _ rfl
       refine (show WL _ _ _ _ _ [(1, pt q 0), (38, vB (a0.Mono && (decide (a0.Kind = 2))))] _ from ?_)
       refine wY (ym z) z ?_
       obtain ⟨bW, h, aU⟩ := bnd h
       refine WL.cut 5 (σ := (Bool × Own)) (fun x w' => x.1 = bW ∧ Stp [] U T x.2 w') (fun x => [(1, pt q 0), (44, vB x.1)]) ?_ ?_
       ·rcases cnd h with ⟨X, h⟩ | ⟨X, h⟩
        ·refine WL.ren 39 z (congrArg vB X) (ug z z (wY (yf fo37_8 z) z (ug z z (wY (yl ty25 z z (K.cell 8 _ z)) z (ug z z ?_)))))
         obtain ⟨bX, aW, h⟩ := bnd h
         refine WL.call (vals := [vu a0.Re]) kok40 z z (c_num_Finite aW) ?_
         rintro cu cw ⟨rfl, aX⟩
         obtain ⟨bY, cb, cc, aE⟩ := adoptE U (fun k => 1) aX
         refine ug z z (wY (Y.not z) z (wY (Y.pick (b := true) z z) z ?_))
         exact nl (At.join (σ := (Bool × Own)) ((!bX), bY) ⟨some1 h, (su_ aE z)⟩ (.cons z (.cons z .nil)))
        ·refine WL.ren 39 z (congrArg vB X) (WL.gS z z z z (WL.gS z z z z (WL.gS z z z z (WL.gS z z z z (wY (Y.pick (b := false) z z) z ?_)))))
         exact nl (At.join (σ := (Bool × Own)) (false, U) ⟨some1 h, (sr_ _ _ _)⟩ (.cons z (.cons z .nil)))
       ·rintro ⟨bZ, J⟩ Z ⟨rfl, n⟩
        replace h := aU
        try dsimp only at h n
        refine (show WL _ _ _ _ _ [(1, pt q 0), (44, vB bZ)] _ from ?_)
        refine wY (ya z) z (nl (th ?_))
        rcases cnd h with ⟨aa, h⟩ | ⟨aa, h⟩
        ·refine WC.condT' z aa (sq (rg (wY (ya z) z (nl (th (rt (At.inBlockR (At.thenR ?_))))))))
         obtain rfl := some1 h
         have aY : Stp [] (Lg.O0 A) w J Z := (tr_ (su_ j z) (tr_ (su_ e z) (tr_ (su_ d z) (tr_ (su_ l z) (tr_ (su_ m z) (su_ n z))))))
         exact At.res (.inl z) z (.tmp z .nil) ⟨z, (se_ aY z z)⟩
        ·refine WC.condF' z aa (sq (rg (wY (yf fo37_4 z) z ?_)))
         have L := K.st n z
         refine wY (yl ty4 z z (L.cell 4 _ z)) z (wY (ym z) z ?_)
         obtain ⟨b0, h, aZ⟩ := bnd h
         refine WL.cut 9 (σ := (Bool × Own)) (fun x w' => x.1 = b0 ∧ Stp [] J Z x.2 w') (fun x => [(1, pt q 0), (57, vB x.1)]) ?_ ?_
         ·rcases cnd h with ⟨ab, h⟩ | ⟨ab, h⟩
          ·refine WL.ren 48 z (congrArg vB ab) (ug z z (wY (yf fo37_7 z) z (ug z z (wY (yl ty3 z z (L.cell 7 _ z)) z (ug z z (wY (Y.lss_i z z) z (ug z z (wY (ym z) z ?_))))))))
           obtain ⟨b1, h, a1⟩ := bnd h
           refine WL.cut 4 (σ := (Bool × Own)) (fun x w' => x.1 = b1 ∧ Stp [] J Z x.2 w') (fun x => [(1, pt q 0), (48, vB true), (56, vB x.1)]) ?_ ?_
           ·rcases cnd h with ⟨ac, h⟩ | ⟨ac, h⟩
            ·refine WL.ren 52 z (congrArg vB ac) (WL.gS z z z z (WL.gS z z z z (WL.gS z z z z (ug z z (wY (Y.pick (b := true) z z) z ?_)))))
             exact nl (At.join (σ := (Bool × Own)) (true, J) ⟨some1 h, (sr_ _ _ _)⟩ (.cons z (.cons z (.cons z .nil))))
            ·refine WL.ren 52 z (congrArg vB ac) (ug z z (wY (yf fo37_8 z) z (ug z z (wY (yl ty25 z z (L.cell 8 _ z)) z (ug z z ?_)))))
             obtain ⟨b2, a2, h⟩ := bnd h
             refine WL.call (vals := [vu a0.Re, vu 0]) kok41 z z (c_num_Less a2) ?_
             rintro cx cy ⟨rfl, a3⟩
             obtain ⟨b3, cd, ce, aF⟩ := adoptE J (fun k => 1) a3
             refine ug z z (wY (Y.pick (b := false) z z) z ?_)
             exact nl (At.join (σ := (Bool × Own)) (b2, b3) ⟨some1 h, (su_ aF z)⟩ (.cons z (.cons z (.cons z .nil))))
           ·rintro ⟨aG, b4⟩ cz ⟨rfl, ah⟩
            replace h := a1
            try dsimp only at h ah
            refine (show WL _ _ _ _ _ [(1, pt q 0), (48, vB true), (56, vB aG)] _ from ?_)
            refine wY (Y.pick (b := true) z z) z ?_
            exact nl (At.join (σ := (Bool × Own)) (aG, b4) ⟨some1 h, (su_ ah z)⟩ (.cons z (.cons z .nil)))
          ·refine WL.ren 48 z (congrArg vB ab) (WL.gS z z z z (WL.gS z z z z (WL.gS z z z z (WL.gS z z z z (WL.gS z z z z (WL.gS z z z z (WL.gS z z z z (WL.gS z z z z (wY (Y.pick (b := false) z z) z ?_)))))))))
           exact nl (At.join (σ := (Bool × Own)) (false, J) ⟨some1 h, (sr_ _ _ _)⟩ (.cons z (.cons z .nil)))
         ·rintro ⟨b5, aq⟩ aw ⟨rfl, o⟩
          replace h := aZ
          try dsimp only at h o
          refine (show WL _ _ _ _ _ [(1, pt q 0), (57, vB b5)] _ from ?_)
          refine wY (ya z) z (nl (th ?_))
          rcases cnd h with ⟨ad, h⟩ | ⟨ad, h⟩
          ·refine WC.condT' z ad (sq (rg (wY (ya z) z (nl (th (rt (At.inBlockR (At.thenR ?_))))))))
           obtain rfl := some1 h
           have a4 : Stp [] (Lg.O0 A) w aq aw := (tr_ (su_ j z) (tr_ (su_ e z) (tr_ (su_ d z) (tr_ (su_ l z) (tr_ (su_ m z) (tr_ (su_ n z) (su_ o z)))))))
           exact At.res (.inl z) z (.tmp z .nil) ⟨z, (se_ a4 z z)⟩
          ·refine WC.condF' z ad (sq (rg (wY (yf fo37_2 z) z ?_)))
           have ax := L.st o z
           refine wY (yl ty3 z z (ax.cell 2 _ z)) z (wY (Y.eql_i z z) z ?_)
           obtain ⟨cM, a5, h⟩ := lt1 h
           refine WL.yE (ya z) (congrArg vB a5.symm) z (nl (th ?_))
           rcases cnd h with ⟨ae, h⟩ | ⟨ae, h⟩
           ·refine WC.condT' z ae (sq (rg (wY (yf fo37_10 z) z (wY (yL ty30 z z (ax.cells 10 [vi a0.Hist.Scale, vu a0.Hist.Zero, vi a0.Hist.Pos.Offset, (Value.slice r t C), vi a0.Hist.Neg.Offset, (Value.slice D E F)] z) z) z ?_))))
            have a6 := au.i m z z
            have a7 := a6.i n z z
            have a8 := a7.i o z z
            have a9 := av.i m z z
            have ba := a9.i n z z
            have bb := ba.i o z z
            obtain ⟨cN, bc, h⟩ := bnd h
            refine WL.call (vals := [ag [vi a0.Hist.Scale, vu a0.Hist.Zero, vi a0.Hist.Pos.Offset, (Value.slice r t C), vi a0.Hist.Neg.Offset, (Value.slice D E F)]]) kok28 z z (c_hist_Check (A := fun _ => True) (a0 := a0.Hist) (Sl.all a8) (Sl.all bb) bc) ?_
            rintro cA bd ⟨rfl, bf⟩
            obtain ⟨b6, cf, cg, aH⟩ := adoptE aq (fun k => 1) bf
            refine wY (ya z) z (nl (th (rt (At.inBlockR (At.thenR ?_)))))
            obtain rfl := some1 h
            have bg : Stp [] (Lg.O0 A) w b6 bd := (tr_ (su_ j z) (tr_ (su_ e z) (tr_ (su_ d z) (tr_ (su_ l z) (tr_ (su_ m z) (tr_ (su_ n z) (tr_ (su_ o z) (su_ aH z))))))))
            exact At.res (.inl z) z (.tmp z .nil) ⟨z, (se_ bg z z)⟩
           ·refine WC.condF' z ae (sk (At.inBlock (th (sq (rg (wY (ya z) z (nl (th (rt ?_)))))))))
            obtain rfl := some1 h
            have bh : Stp [] (Lg.O0 A) w aq aw := (tr_ (su_ j z) (tr_ (su_ e z) (tr_ (su_ d z) (tr_ (su_ l z) (tr_ (su_ m z) (tr_ (su_ n z) (su_ o z)))))))
            exact At.res (.inl z) z (.tmp z .nil) ⟨z, (se_ bh z z)⟩
theorem c_hist_span {A : Nat → Prop} {v0_1 : Value} {a0 : api_Side} {a1 : UInt64} {w : World} (hs0_1 : Sl Rep.u w A v0_1 a0.Counts) {r0 : Int} (h : hist_span a0 a1 = some r0) : Rets Try.prog 73 [ag [vi a0.Offset, v0_1], vu a1] w (fun v w' => v = vi r0 ∧ Ext w w') := by
 unfold hist_span at h
 refine Rets.enter Try.func73 z z ?_
 have l : Sl Rep.u w (imm (Lg.O0 A)) v0_1 a0.Counts := (Sl.start hs0_1)
 refine (show WC _ _ _ _ [(0, ag [vi a0.Offset, v0_1]), (1, vu a1)] _ from ?_)
 refine sq (rg ?_)
 have p := h
 obtain ⟨D, E, F, rfl⟩ := l.shape
 have h := p
 refine WL.box (O := (Lg.O0 A)) 11 [vi a0.Offset, (Value.slice D E F)] z z z ?_
 intro H o m d e
 refine wY (ya z) z (nl (th (sq (rg (wY (yf fo28_1 z) z (wY (yl ty26 z z (e.cell 1 _ z)) z ?_))))))
 have q := l.i d z z
 refine wY (Y.len ty26 z q) z ?_
 obtain ⟨G, n, h⟩ := lt1 h
 refine WL.yE (ya z) (congrArg vi n.symm) z (nl (th (sq (sq (rg (wY (ym z) z (wY (Y.eql_i z z) z (nl (th ?_)))))))))
 rcases cnd h with ⟨j, h⟩ | ⟨j, h⟩
 ·refine WC.condT' z j (sq (rg (wY (ya z) z (nl (th (rt (At.thenR ?_)))))))
  obtain rfl := some1 h
  have r : Stp [] (Lg.O0 A) w o m := (su_ d z)
  exact At.res (.inl z) z (.tmp z .nil) ⟨z, (se_ r z z)⟩
 ·refine WC.condF' z j (sk (th (sq (rg (wY (yf fo28_0 z) z (wY (yl ty3 z z (e.cell 0 _ z)) z (wY (ym z) z (wY (Y.add_i z z) z (wY (Y.sub_i z z) z ?_)))))))))
  refine wY (ym z) z (wY (Y.shr_iu z z) z (wY (yf fo28_0 z) z (wY (yl ty3 z z (e.cell 0 _ z)) z (wY (ym z) z (wY (Y.shr_iu z z) z (wY (Y.sub_i z z) z (wY (Y.add_i z z) z ?_)))))))
  obtain ⟨I, t, h⟩ := lt1 h
  refine WL.yE (ya z) (congrArg vi t.symm) z (nl (th (rt ?_)))
  obtain rfl := some1 h
  have C : Stp [] (Lg.O0 A) w o m := (su_ d z)
  exact At.res (.inl z) z (.tmp z .nil) ⟨z, (se_ C z z)⟩
theorem c_hist_down {A : Nat → Prop} {v0_1 : Value} {a0 : api_Side} {a1 : UInt64} {w : World} (hs0_1 : Sl Rep.u w A v0_1 a0.Counts) {r0 : api_Side} (h : hist_down a0 a1 = some r0) : Rets Try.prog 60 [ag [vi a0.Offset, v0_1], vu a1] w (fun v w' => ∃ (aK : Value), v = ag [vi r0.Offset, aK] ∧ Ext w w' ∧ Sl Rep.u w' (fun k => w.heap.size ≤ k) aK r0.Counts) := by
 unfold hist_down at h
 refine Rets.enter Try.func60 z z ?_
 have aL : Sl Rep.u w (imm (Lg.O0 A)) v0_1 a0.Counts := (Sl.start hs0_1)
 refine (show WC _ _ _ _ [(0, ag [vi a0.Offset, v0_1]), (1, vu a1)] _ from ?_)
 refine sq (rg ?_)
 have cr := h
 obtain ⟨S, T, U, rfl⟩ := aL.shape
 have h := cr
 refine WL.box (O := (Lg.O0 A)) 11 [vi a0.Offset, (Value.slice S T U)] z z z ?_
 intro V c9 dE W cs
 refine WL.alloc (O := c9) 12 [vi 0, Value.slice none 0 0] ty28 z z ?_
 intro r af dF t aM
 refine nl (th (sq (sq (rg (wY (yf fo28_1 z) z ?_)))))
 have X := cs.st t z
 refine wY (yl ty26 z z (X.cell 1 _ z)) z ?_
 have ct := aL.i W z z
 have Z := ct.i t z z
 refine wY (Y.len ty26 z Z) z (wY (Y.eql_i z z) z (nl (th ?_)))
 rcases cnd h with ⟨al, h⟩ | ⟨al, h⟩
 ·refine WC.condT' z al (sq (rg (wY (yb (vals := []) (cells := [vi 0, Value.slice none 0 0]) (fe_ z) (by kernel_rfl)) z (WL.store (v := ag [vi 0, Value.slice none 0 0]) (cells' := [vi 0, Value.slice none 0 0]) ty28 z z aM z (le_ z) z z ?_))))
  intro cu bc cw
  refine nl (th (rt (At.thenR ?_)))
  obtain rfl := some1 h
  have cx : Stp [12] (Lg.O0 A) w af cu := (tr_ (su_ W z) (tr_ (su_ t z) (su_ bc z)))
  exact At.res (.inl z) z (.cell z (cw.runAg 0 [vi 0, Value.slice none 0 0] ty28 z z z) .nil) ⟨Value.slice none 0 0, z, (se_ cx z z), (Or.inl ⟨z, z⟩)⟩
 ·refine WC.condF' z al (sk (th (sq (WC.drawH [13, 14, 15, 16, 17, 18, 1001, 1002] [0, 1, 2, 3, 4, 5, 6, 7, 8, 9] af 11 fmix z (by kernel_rfl) ?_))))
  intro cy d
  refine WD.y 0 z (by kernel_rfl) (fun _ _ _ => yf fo28_0 z) z (WD.y 1 z (by kernel_rfl) (fun dG d3 bd => have cz := X.st d z; have cA := cz.st bd z; yl ty3 z z (cA.cell 0 _ z)) z (WD.y 2 z (by kernel_rfl) (fun _ _ _ => ym z) z (WD.y 3 z (by kernel_rfl) (fun _ _ _ => Y.shr_iu z z) z (WD.y 4 z (by kernel_rfl) (fun dH d4 bf => have cC := X.st d z; have cD := cC.st bf z; yL ty28 z z (cD.cells 0 [vi a0.Offset, (Value.slice S T U)] z) z) z (WD.y 5 z (by kernel_rfl) (fun _ _ _ => ym z) z ?_)))))
  obtain ⟨da, h, cE⟩ := bnd h
  refine WD.join (σ := (List UInt64 × Own × Nat × Value)) (f' := 1) [9, 8, 7, 6, 5, 4, 3, 2, 1, 0] (fun x O' w' => x.1 = da ∧ Stp [13, 14, 15, 16, 17, 18, 1001, 1002] af cy x.2.1 w' ∧ Blk 1003 x.2.1 w' x.2.2.1 28 [vi 0, Value.slice none 0 0] ∧ OwnSl 1004 Rep.u 25 x.2.1 w' x.2.2.2 x.1 ∧ x.2.1 = O') (fun x => [(1, vu a1), (2, pt V 0), (4, pt r 0), (5, Value.pointer (some ⟨x.2.2.1, 0, none⟩)), (21, ag [vi (shrI a0.Offset a1.toNat), x.2.2.2])]) (fun aN => ?_) ?_
  ·refine WD.heavy2 6 9 z z (by kernel_rfl) ?_ ?_
   ·have cF := Z.i d z z
    obtain ⟨d5, cG, h⟩ := bnd h
    refine WL.call (vals := [ag [vi a0.Offset, (Value.slice S T U)], vu a1]) kok73 z z (c_hist_span (A := fun _ => True) (a0 := a0) (Sl.all cF) cG) ?_
    rintro dI cH ⟨rfl, cI⟩
    obtain ⟨aO, db, dc, av⟩ := adoptE af (fun k => 1) cI
    refine nl (At.dq (su_ av z) ?_)
    obtain ⟨dd, h, cJ⟩ := bnd h
    refine WD.join (σ := (List UInt64 × Own × Nat × Value)) (f' := 1) [9, 8, 7, 6, 5, 4, 3, 2, 1, 0] (fun x O' w' => x.1 = dd ∧ Stp [13, 14, 15, 16] aO cH x.2.1 w' ∧ Blk 1001 x.2.1 w' x.2.2.1 28 [vi 0, Value.slice none 0 0] ∧ OwnSl 1002 Rep.u 25 x.2.1 w' x.2.2.2 x.1 ∧ x.2.1 = O') (fun x => [(1, vu a1), (2, pt V 0), (4, pt r 0), (5, Value.pointer (some ⟨x.2.2.1, 0, none⟩)), (21, ag [vi (shrI a0.Offset a1.toNat), x.2.2.2])]) (fun aP => ?_) ?_
    ·refine WD.heavy2 7 9 z z (by kernel_rfl) ?_ ?_
     ·obtain ⟨de, cK, h⟩ := bnd h
      refine WL.make (O := aO) (R := Rep.u) (zx := (0 : UInt64)) 13 (by decide) ty26 ty25 z (by decide) (by decide) z z (fun _ _ => z) cK z ?_
      intro d6 df dJ aw aQ
      refine nl (At.dq (su_ aw z) ?_)
      have cL := h
      obtain ⟨aR, aS, aT, rfl⟩ := aQ.shape
      have h := cL
      refine WD.y 8 z (by kernel_rfl) (fun _ _ _ => yb (vals := [(0, vi (shrI a0.Offset a1.toNat)), (1, (Value.slice aR aS aT))]) (cells := [vi (shrI a0.Offset a1.toNat), (Value.slice aR aS aT)]) (fe_ z) (by kernel_rfl)) z (WD.heavy 9 z (by kernel_rfl) (WL.alloc (O := df) 14 [vi 0, Value.slice none 0 0] ty28 z z ?_))
      intro cM dK dp C bg
      refine nl (At.dq (su_ C z) ?_)
      obtain ⟨dL, D, bh⟩ := Blk.rlb 1001 rfl bg
      have bi := aQ.st C z z z
      have bj := bi.st D z z z
      obtain ⟨cN, E, bk⟩ := OwnSl.rlb 1002 rfl bj
      have bl := bh.st E z
      refine WD.own (tr_ (su_ D z) (su_ E z)) (WD.perm _ [9, 8, 7, 6, 5, 4, 3, 2, 1, 0] (by kernel_rfl) ?_)
      exact aP (de, cN, cM, (Value.slice aR aS aT)) _ _ _ ⟨some1 h, (tr_ (su_ aw z) (tr_ (su_ C z) (tr_ (su_ D z) (su_ E z)))), bl, bk, z⟩ (.cons z (.cons z (.cons z (.cons z (.cons z .nil)))))
     ·try simp only [Option.bind_assoc] at h
      try simp only [Option.bind_some] at h
      refine WL.alloc (O := aO) 15 [vi 0, Value.slice none 0 0] ty28 z z ?_
      intro cO cP dr ah bm
      refine nl (At.dq (su_ ah z) (WD.heavy 7 z (by kernel_rfl) ?_))
      obtain ⟨cQ, bn, h⟩ := bnd h
      refine WL.make (O := cP) (R := Rep.u) (zx := (0 : UInt64)) 16 (by decide) ty26 ty25 z (by decide) (by decide) z z (fun _ _ => z) bn z ?_
      intro dM dN ds F ax
      refine nl (At.dq (su_ F z) ?_)
      have bo := h
      obtain ⟨am, an, ao, rfl⟩ := ax.shape
      have h := bo
      refine WD.y 8 z (by kernel_rfl) (fun _ _ _ => yb (vals := [(0, vi (shrI a0.Offset a1.toNat)), (1, (Value.slice am an ao))]) (cells := [vi (shrI a0.Offset a1.toNat), (Value.slice am an ao)]) (fe_ z) (by kernel_rfl)) z ?_
      have bp := bm.st F z
      obtain ⟨dO, G, bq⟩ := Blk.rlb 1001 rfl bp
      have br := ax.st G z z z
      obtain ⟨cR, H, bs⟩ := OwnSl.rlb 1002 rfl br
      have bt := bq.st H z
      refine WD.own (tr_ (su_ G z) (su_ H z)) (WD.perm _ [9, 8, 7, 6, 5, 4, 3, 2, 1, 0] (by kernel_rfl) ?_)
      exact aP (cQ, cR, cO, (Value.slice am an ao)) _ _ _ ⟨some1 h, (tr_ (su_ ah z) (tr_ (su_ F z) (tr_ (su_ G z) (su_ H z)))), bt, bs, z⟩ (.cons z (.cons z (.cons z (.cons z (.cons z .nil)))))
    ·rintro ⟨dg, d7, co, cp⟩ _ dP ⟨rfl, ay, aU, aW, rfl⟩
     replace h := cJ
     try dsimp only at h ay aU aW
     refine (show WD _ _ _ _ _ _ _ _ [(1, vu a1), (2, pt V 0), (4, pt r 0), (5, pt co 0), (21, ag [vi (shrI a0.Offset a1.toNat), cp])] _ _ from ?_)
     obtain ⟨dQ, I, bu⟩ := Blk.rlb 1003 rfl aU
     have bw := aW.st I z z z
     obtain ⟨cS, J, bx⟩ := OwnSl.rlb 1004 rfl bw
     have bz := bu.st J z
     refine WD.own (tr_ (su_ I z) (su_ J z)) (WD.perm _ [9, 8, 7, 6, 5, 4, 3, 2, 1, 0] (by kernel_rfl) ?_)
     exact aN (dg, cS, co, cp) _ _ _ ⟨some1 h, (tr_ (su_ av z) (tr_ (su_ ay z) (tr_ (su_ I z) (su_ J z)))), bz, bx, z⟩ (.cons z (.cons z (.cons z (.cons z (.cons z .nil)))))
   ·try simp only [Option.bind_assoc] at h
    try simp only [Option.bind_some] at h
    refine WL.alloc (O := af) 17 [vi 0, Value.slice none 0 0] ty28 z z ?_
    intro cT cU dt K bA
    refine nl (At.dq (su_ K z) (WD.heavy 6 z (by kernel_rfl) ?_))
    have bB := Z.i d z z
    have bC := bB.i K z z
    obtain ⟨dR, bD, h⟩ := bnd h
    refine WL.call (vals := [ag [vi a0.Offset, (Value.slice S T U)], vu a1]) kok73 z z (c_hist_span (A := fun _ => True) (a0 := a0) (Sl.all bC) bD) ?_
    rintro du dw ⟨rfl, bE⟩
    obtain ⟨cV, c7, c8, L⟩ := adoptE cU (fun k => 1) bE
    refine nl (At.dq (su_ L z) (WD.heavy 7 z (by kernel_rfl) ?_))
    obtain ⟨cW, bF, h⟩ := bnd h
    refine WL.make (O := cV) (R := Rep.u) (zx := (0 : UInt64)) 18 (by decide) ty26 ty25 z (by decide) (by decide) z z (fun _ _ => z) bF z ?_
    intro dS dT dx M az
    refine nl (At.dq (su_ M z) ?_)
    have bG := h
    obtain ⟨ap, aq, ar, rfl⟩ := az.shape
    have h := bG
    refine WD.y 8 z (by kernel_rfl) (fun _ _ _ => yb (vals := [(0, vi (shrI a0.Offset a1.toNat)), (1, (Value.slice ap aq ar))]) (cells := [vi (shrI a0.Offset a1.toNat), (Value.slice ap aq ar)]) (fe_ z) (by kernel_rfl)) z ?_
    have bH := bA.st L z
    have bI := bH.st M z
    obtain ⟨dU, P, bJ⟩ := Blk.rlb 1003 rfl bI
    have bK := az.st P z z z
    obtain ⟨cX, Q, bL⟩ := OwnSl.rlb 1004 rfl bK
    have bM := bJ.st Q z
    refine WD.own (tr_ (su_ P z) (su_ Q z)) (WD.perm _ [9, 8, 7, 6, 5, 4, 3, 2, 1, 0] (by kernel_rfl) ?_)
    exact aN (cW, cX, cT, (Value.slice ap aq ar)) _ _ _ ⟨some1 h, (tr_ (su_ K z) (tr_ (su_ L z) (tr_ (su_ M z) (tr_ (su_ P z) (su_ Q z))))), bM, bL, z⟩ (.cons z (.cons z (.cons z (.cons z (.cons z .nil)))))
  ·rintro ⟨dh, cq, ai, di⟩ _ dV ⟨rfl, p, aX, au, rfl⟩
   replace h := cE
   try dsimp only at h p aX au
   refine (show WD _ _ _ _ _ _ _ _ [(1, vu a1), (2, pt V 0), (4, pt r 0), (5, pt ai 0), (21, ag [vi (shrI a0.Offset a1.toNat), di])] _ _ from ?_)
   refine WD.phase [1003] [0, 1, 2, 3, 4, 5, 6, 7, 8, 9, 10] (by kernel_rfl) (by kernel_rfl) (WD.heavy 10 z (by kernel_rfl) ?_)
   have bO := h
   obtain ⟨l, m, n, rfl⟩ := au.shape
   have h := bO
   refine WL.store (v := ag [vi (shrI a0.Offset a1.toNat), (Value.slice l m n)]) (cells' := [vi (shrI a0.Offset a1.toNat), (Value.slice l m n)]) ty28 z z aX z (le_ z) z z ?_
   intro aA e aC
   refine nl (At.dq (su_ e z) (WD.done_ (by kernel_rfl) (th (sq (sq (rg (wY (yf fo28_1 z) z ?_)))))))
   have bP := X.st d z
   have bQ := bP.st p z
   have aD := bQ.st e z
   refine wY (yl ty26 z z (aD.cell 1 _ z)) z ?_
   have bR := Z.i d z z
   have bS := bR.i p z z
   have aE := bS.i e z z
   refine wY (Y.len ty26 z aE) z (wY (ym z) z (nl (th (WC.block ?_))))
   obtain ⟨aY, h, bT⟩ := flow1 h
   obtain ⟨aZ, h⟩ := loop_some h
   refine WC.joinB 0 (σ := (List UInt64 × Own)) (fun x w' => aY = .go x.1 ∧ Stp [1004, 1005] cq aA x.2 w' ∧ OwnSl 1006 Rep.u 25 x.2 w' (Value.slice l m n) x.1) (fun x => [(4, pt r 0), (5, pt ai 0)]) ?_ ?_
   ·have bU := au.st e z z z
    obtain ⟨cY, a2, bW⟩ := OwnSl.rlb 1005 rfl bU
    refine WC.loop (σ := (List UInt64 × Int × Own)) (fun x k w' => loopN k (hist_down_lp1 a0 a1) (x.1, x.2.1) = some aY ∧ Stp [1004, 1005] cq aA x.2.2 w' ∧ OwnSl 1005 Rep.u 25 x.2.2 w' (Value.slice l m n) x.1) (fun x => [(1, vu a1), (2, pt V 0), (4, pt r 0), (5, pt ai 0), (23, (Value.slice S T U)), (24, vi (a0.Counts.length : Int)), (25, vi x.2.1)]) (dh, 0, cY) aZ (.cons z (.cons z (.cons z (.cons z (.cons z (.cons z (.cons z .nil))))))) ⟨h, (su_ a2 z), bW⟩ ?_
    rintro ⟨cZ, a3, c0⟩ aZ dy ⟨h, j, o⟩
    obtain ⟨c1, dW, rfl, h, aF⟩ := rnd1 h
    unfold hist_down_lp1 at h
    try dsimp only at h j o
    refine (show WC _ _ _ _ [(1, vu a1), (2, pt V 0), (4, pt r 0), (5, pt ai 0), (23, (Value.slice S T U)), (24, vi (a0.Counts.length : Int)), (25, vi a3)] _ from ?_)
    refine sq (rg (wY (Y.lss_i z z) z (nl (th (sq ?_)))))
    rcases cnd h with ⟨aa, h⟩ | ⟨aa, h⟩
    ·refine WC.condT' z aa (sk (th (sq (WC.block (sq (rg (wY (ym z) z ?_)))))))
     obtain ⟨c2, bX, h⟩ := bnd h
     have bY := aE.i j z z
     obtain ⟨dX, dj, dk, dz, bZ, b0, b1, ab, a4, b2⟩ := Sl.at2 bY bX
     obtain rfl := a4
     replace ab : CellsAt _ _ _ [vu c2] := ab
     have a5 := CAt.imm ab b2
     refine wY (Y.indexAddr ty26 ty25 z bZ z b0 b1) z (wY (yl ty25 z z a5.at_) z (wY (ya z) z (wY (ya z) z (nl (th (rg (wY (yf fo28_1 z) z ?_)))))))
     have aG := aC.st j z
     refine wY (yl ty26 z z (aG.cell 1 _ z)) z (wY (yf fo28_0 z) z ?_)
     have b3 := aD.st j z
     refine wY (yl ty3 z z (b3.cell 0 _ z)) z (wY (ym z) z (wY (Y.add_i z z) z (wY (ym z) z (wY (Y.shr_iu z z) z (wY (yf fo28_0 z) z (wY (yl ty3 z z (aG.cell 0 _ z)) z (wY (Y.sub_i z z) z ?_)))))))
     obtain ⟨c3, b4, h⟩ := bnd h
     obtain ⟨dY, dl, dA, aH, b5, b6, ac, a6⟩ := OwnSl.at o b4
     obtain rfl := a6
     replace ac : CellsAt _ _ _ [vu c3] := ac
     have a7 := CAt.own o aH ac
     refine wY (Y.indexAddr ty26 ty25 z aH z b5 b6) z (wY (yl ty25 z z a7.at_) z (wY (ym z) z (wY (Y.add_u z z) z ?_)))
     obtain ⟨c4, b7, h⟩ := bnd h
     obtain ⟨dZ, dm, dB, ad, b8, b9, ae, a8⟩ := OwnSl.at o b7
     obtain rfl := a8
     replace ae : CellsAt _ _ _ [vu c4] := ae
     have dn := CAt.own o ad ae
     refine wY (Y.indexAddr ty26 ty25 z ad z b8 b9) z ?_
     obtain ⟨d0, ca, h⟩ := lt1 h
     refine WL.ren 44 z (congrArg vu ca.symm) ?_
     obtain ⟨cb, a9, h⟩ := bnd h
     refine WL.storeOwn (by decide) ty25 z z z o ad a9 ?_
     intro dC ba cc
     refine nl (At.inBlock (th (rg (wY (Y.add_i z z) z (wY (ym z) z (nl ?_))))))
     exact At.round (cb, w64 (a3 + 1), c0) c1 (Nat.lt_succ_self _) ⟨next1 h aF, (tr_ (su_ j z) (su_ ba z)), cc⟩ (.cons z (.cons z (.cons z (.cons z (.cons z (.cons z (.cons z .nil)))))))
    ·refine WC.condF' z aa (WC.exit (At.thenX (At.loopX ?_)))
     obtain ⟨c5, bb, cd⟩ := OwnSl.rlb 1006 rfl o
     exact At.hitB (σ := (List UInt64 × Own)) (cZ, c5) ⟨brk1 h aF, (tr_ (su_ j z) (su_ bb z)), cd⟩ (.cons z (.cons z .nil))
   ·rintro ⟨d1, d2⟩ dD ⟨rfl, q, aI⟩
    replace h := flowK_go bT
    try dsimp only at h q aI
    refine (show At _ _ _ [(4, pt r 0), (5, pt ai 0)] _ from ?_)
    refine At.inBlockHit (th (sq (rg ?_)))
    have ce := aC.st q z
    refine wY (yL ty28 z z (ce.cells 0 [vi (shrI a0.Offset a1.toNat), (Value.slice l m n)] z) z) z ?_
    have cf := aM.st d z
    have cg := cf.st p z
    have ch := cg.st e z
    have ci := ch.st q z
    refine WL.store (v := ag [vi (shrI a0.Offset a1.toNat), (Value.slice l m n)]) (cells' := [vi (shrI a0.Offset a1.toNat), (Value.slice l m n)]) ty28 z z ci z (le_ z) z z ?_
    intro cj aj ck
    refine nl (th (rt ?_))
    obtain rfl := some1 h
    have cl := aI.st aj z z z
    obtain ⟨c6, ak, cm⟩ := OwnSl.giveF rfl Flat.u cl
    have aJ : Stp [12, 13, 14, 15, 16, 17, 18, 1001, 1002, 1003, 1004, 1005, 1006] (Lg.O0 A) w c6 cj := (tr_ (su_ W z) (tr_ (su_ t z) (tr_ (su_ d z) (tr_ (su_ p z) (tr_ (su_ e z) (tr_ (su_ q z) (tr_ (su_ aj z) (su_ ak z))))))))
    have cn := ck.st ak z
    exact At.res (.inl z) z (.cell z (cn.runAg 0 [vi (shrI a0.Offset a1.toNat), (Value.slice l m n)] ty28 z z z) .nil) ⟨(Value.slice l m n), z, (se_ aJ z z), (Sl.outF cm aJ low0)⟩
theorem c_hist_Down {A : Nat → Prop} {v0_3 : Value} {v0_5 : Value} {a0 : api_Hist} {a1 : Int} {w : World} (hs0_3 : Sl Rep.u w A v0_3 a0.Pos.Counts) (hs0_5 : Sl Rep.u w A v0_5 a0.Neg.Counts) {r0 : api_Hist} {r1 : Int} (h : hist_Down a0 a1 = some (r0, r1)) : Rets Try.prog 31 [ag [vi a0.Scale, vu a0.Zero, vi a0.Pos.Offset, v0_3, vi a0.Neg.Offset, v0_5], vi a1] w (fun v w' => ∃ (ab : Value) (ac : Value), v = Value.tuple (List.toArray [ag [vi r0.Scale, vu r0.Zero, vi r0.Pos.Offset, ab, vi r0.Neg.Offset, ac], vi r1]) ∧ Ext w w' ∧ Sl Rep.u w' (fun k => w.heap.size ≤ k) ab r0.Pos.Counts ∧ Sl Rep.u w' (fun k => w.heap.size ≤ k) ac r0.Neg.Counts) := by
 unfold hist_Down at h
 refine Rets.enter Try.func31 z z ?_
 have ad : Sl Rep.u w (imm (Lg.O0 A)) v0_3 a0.Pos.Counts := (Sl.start hs0_3)
 have ae : Sl Rep.u w (imm (Lg.O0 A)) v0_5 a0.Neg.Counts := (Sl.start hs0_5)
 refine (show WC _ _ _ _ [(0, ag [vi a0.Scale, vu a0.Zero, vi a0.Pos.Offset, v0_3, vi a0.Neg.Offset, v0_5]), (1, vi a1)] _ from ?_)
 refine sq (rg ?_)
 have aU := h
 obtain ⟨I, J, K, rfl⟩ := ad.shape
 have h := aU
 have aW := h
 obtain ⟨L, M, P, rfl⟩ := ae.shape
 have h := aW
 refine WL.box (O := (Lg.O0 A)) 11 [vi a0.Scale, vu a0.Zero, vi a0.Pos.Offset, (Value.slice I J K), vi a0.Neg.Offset, (Value.slice L M P)] z z z ?_
 intro aS bu bD l aX
 refine WL.alloc (O := bu) 12 [vi 0, vu 0, vi 0, Value.slice none 0 0, vi 0, Value.slice none 0 0] ty30 z z ?_
 intro aT bw bE j Q
 refine wY (ya z) z (nl (th (sq (sq (rg ?_)))))
 have p := aX.st j z
 refine wY (yL ty30 z z (p.cells 0 [vi a0.Scale, vu a0.Zero, vi a0.Pos.Offset, (Value.slice I J K), vi a0.Neg.Offset, (Value.slice L M P)] z) z) z ?_
 have aY := ad.i l z z
 have af := aY.i j z z
 have aZ := ae.i l z z
 have ah := aZ.i j z z
 obtain ⟨bL, a2, h⟩ := bnd h
 refine WL.call (vals := [ag [vi a0.Scale, vu a0.Zero, vi a0.Pos.Offset, (Value.slice I J K), vi a0.Neg.Offset, (Value.slice L M P)]]) kok28 z z (c_hist_Check (A := fun _ => True) (a0 := a0) (Sl.all af) (Sl.all ah) a2) ?_
 rintro bF a3 ⟨rfl, a4⟩
 obtain ⟨V, bx, bz, d⟩ := adoptE bw (fun k => 1) a4
 refine wY (ya z) z (nl (th (sq (rg (wY (ym z) z (wY (Y.neq_i z z) z (nl (th ?_))))))))
 rcases cnd h with ⟨S, h⟩ | ⟨S, h⟩
 ·refine WC.condT' z S (sq (rg (wY (yb (vals := []) (cells := [vi 0, vu 0, vi 0, Value.slice none 0 0, vi 0, Value.slice none 0 0]) (fe_ z) (by kernel_rfl)) z (wY (ym z) z ?_))))
  have a5 := Q.st d z
  refine WL.store (v := ag [vi 0, vu 0, vi 0, Value.slice none 0 0, vi 0, Value.slice none 0 0]) (cells' := [vi 0, vu 0, vi 0, Value.slice none 0 0, vi 0, Value.slice none 0 0]) ty30 z z a5 z (le_ z) z z ?_
  intro a6 al a7
  refine wY (ya z) z (nl (th (rt (At.thenR ?_))))
  obtain ⟨rfl, rfl⟩ := tup2 h
  have a8 : Stp [12] (Lg.O0 A) w V a6 := (tr_ (su_ l z) (tr_ (su_ j z) (tr_ (su_ d z) (su_ al z))))
  exact At.res (.inl z) z (.cell z (a7.runAg 0 [vi 0, vu 0, vi 0, Value.slice none 0 0, vi 0, Value.slice none 0 0] ty30 z z z) (.tmp z .nil)) ⟨Value.slice none 0 0, Value.slice none 0 0, z, (se_ a8 z z), (Or.inl ⟨z, z⟩), (Or.inl ⟨z, z⟩)⟩
 ·refine WC.condF' z S (sk (th (sq (sq (rg (wY (ym z) z (wY (Y.lss_i z z) z (wY (ym z) z ?_))))))))
  refine WL.cut 6 (σ := Unit) (fun _ w' => a3 = w') (fun _ => [(1, vi a1), (2, pt aS 0), (4, pt aT 0), (21, vB ((decide (a1 < 0)) || (decide (w64 (a0.Scale - (-10)) < a1))))]) ?_ ?_
  ·refine WL.part 15 z (fun T => ?_) (fun T => ?_)
   ·refine WL.gS z z z z (WL.gS z z z z (WL.gS z z z z (WL.gS z z z z (WL.gS z z z z (wY (Y.pick (b := true) z z) z (WL.ren (v' := vB ((decide (a1 < 0)) || (decide (w64 (a0.Scale - (-10)) < a1)))) 21 z (congrArg vB (orT T)) ?_))))))
    exact nl (At.join () z (.cons z (.cons z (.cons z (.cons z .nil)))))
   ·refine ug z z (wY (ym z) z (ug z z (wY (yf fo30_0 z) z (ug z z ?_))))
    have a9 := p.st d z
    refine wY (yl ty3 z z (a9.cell 0 _ z)) z (ug z z (wY (Y.sub_i z z) z (ug z z (wY (Y.gtr_i z z) z (wY (Y.pick (b := false) z z) z (WL.ren (v' := vB ((decide (a1 < 0)) || (decide (w64 (a0.Scale - (-10)) < a1)))) 21 z (congrArg vB (orF T)) ?_))))))
    exact nl (At.join () z (.cons z (.cons z (.cons z (.cons z .nil)))))
  ·rintro _ _ rfl
   refine (show WL _ _ _ _ _ [(1, vi a1), (2, pt aS 0), (4, pt aT 0), (21, vB ((decide (a1 < 0)) || (decide (w64 (a0.Scale - (-10)) < a1))))] _ from ?_)
   refine nl (th ?_)
   rcases cnd h with ⟨U, h⟩ | ⟨U, h⟩
   ·refine WC.condT' z U (sq (rg (wY (yb (vals := []) (cells := [vi 0, vu 0, vi 0, Value.slice none 0 0, vi 0, Value.slice none 0 0]) (fe_ z) (by kernel_rfl)) z ?_)))
    have ba := Q.st d z
    refine WL.store (v := ag [vi 0, vu 0, vi 0, Value.slice none 0 0, vi 0, Value.slice none 0 0]) (cells' := [vi 0, vu 0, vi 0, Value.slice none 0 0, vi 0, Value.slice none 0 0]) ty30 z z ba z (le_ z) z z ?_
    intro bb am bc
    refine wY (ya z) z (nl (th (rt (At.thenR ?_))))
    obtain ⟨rfl, rfl⟩ := tup2 h
    have bd : Stp [12] (Lg.O0 A) w V bb := (tr_ (su_ l z) (tr_ (su_ j z) (tr_ (su_ d z) (su_ am z))))
    exact At.res (.inl z) z (.cell z (bc.runAg 0 [vi 0, vu 0, vi 0, Value.slice none 0 0, vi 0, Value.slice none 0 0] ty30 z z z) (.tmp z .nil)) ⟨Value.slice none 0 0, Value.slice none 0 0, z, (se_ bd z z), (Or.inl ⟨z, z⟩), (Or.inl ⟨z, z⟩)⟩
   ·refine WC.condF' z U (sk (th (sq (WC.drawH [] [0, 1, 2, 3, 4, 5, 6, 7, 8, 9, 10, 11, 12, 13, 14, 15, 16] V 19 fmix z (by kernel_rfl) ?_))))
    intro bG e
    refine WD.y 0 z (by kernel_rfl) (fun _ _ _ => yf fo30_0 z) z (WD.y 1 z (by kernel_rfl) (fun bH bM an => have bf := p.st d z; have bg := bf.st e z; have bh := bg.st an z; yl ty3 z z (bh.cell 0 _ z)) z (WD.y 2 z (by kernel_rfl) (fun _ _ _ => ym z) z (WD.y 3 z (by kernel_rfl) (fun _ _ _ => Y.sub_i z z) z (WD.y 4 z (by kernel_rfl) (fun _ _ _ => yf fo30_1 z) z (WD.y 5 z (by kernel_rfl) (fun bI bO ao => have bi := p.st d z; have bj := bi.st e z; have bk := bj.st ao z; yl ty25 z z (bk.cell 1 _ z)) z (WD.y 6 z (by kernel_rfl) (fun _ _ _ => yf fo30_2 z) z (WD.y 7 z (by kernel_rfl) (fun bJ bP ap => have bl := p.st d z; have bm := bl.st e z; have bn := bm.st ap z; yL ty28 z z (bn.cells 2 [vi a0.Pos.Offset, (Value.slice I J K)] z) z) z (WD.y 8 z (by kernel_rfl) (fun _ _ _ => ym z) z (WD.y 9 z (by kernel_rfl) (fun _ _ _ => Y.conv_iu ty3.u ty92.u z) z ?_)))))))))
    refine WD.y 11 z (by kernel_rfl) (fun _ _ _ => yf fo30_3 z) z (WD.y 12 z (by kernel_rfl) (fun bA bK ai => have aq := p.st d z; have ar := aq.st e z; have au := ar.st ai z; yL ty28 z z (au.cells 4 [vi a0.Neg.Offset, (Value.slice L M P)] z) z) z (WD.y 13 z (by kernel_rfl) (fun _ _ _ => ym z) z (WD.y 14 z (by kernel_rfl) (fun _ _ _ => Y.conv_iu ty3.u ty92.u z) z (WD.heavy 10 z (by kernel_rfl) ?_))))
    have av := af.i d z z
    have aw := av.i e z z
    obtain ⟨q, ax, h⟩ := bnd h
    refine WL.call (vals := [ag [vi a0.Pos.Offset, (Value.slice I J K)], vu (toU64 a1)]) kok60 z z (c_hist_down (A := fun _ => True) (a0 := a0.Pos) (Sl.all aw) ax) ?_
    rintro bB ay ⟨bo, rfl, az, bp⟩
    obtain ⟨aj, bs, Z, m⟩ := adoptE V (fun k => 1) az
    have aA : Sl Rep.u ay (frs aj) bo q.Counts := Sl.adoptF bp (fun k hk => ⟨hk, z⟩) Z
    refine nl (At.dq (su_ m z) (WD.heavy 15 z (by kernel_rfl) ?_))
    have aC := ah.i d z z
    have aD := aC.i e z z
    have aE := aD.i m z z
    obtain ⟨r, aF, h⟩ := bnd h
    refine WL.call (vals := [ag [vi a0.Neg.Offset, (Value.slice L M P)], vu (toU64 a1)]) kok60 z z (c_hist_down (A := fun _ => True) (a0 := a0.Neg) (Sl.all aE) aF) ?_
    rintro bC aG ⟨bq, rfl, aH, br⟩
    obtain ⟨ak, bt, aa, n⟩ := adoptE aj (fun k => 1) aH
    have W : Sl Rep.u aG (frs ak) bq r.Counts := Sl.adoptF br (fun k hk => ⟨hk, z⟩) aa
    refine nl (At.dq (su_ n z) ?_)
    have X := aA.f n z
    have aI := h
    obtain ⟨t, C, D, rfl⟩ := X.shape
    have h := aI
    have aJ := h
    obtain ⟨E, F, G, rfl⟩ := W.shape
    have h := aJ
    refine WD.y 16 z (by kernel_rfl) (fun _ _ _ => yb (vals := [(0, vi (w64 (a0.Scale - a1))), (1, vu a0.Zero), (2, ag [vi q.Offset, (Value.slice t C D)]), (3, ag [vi r.Offset, (Value.slice E F G)])]) (cells := [vi (w64 (a0.Scale - a1)), vu a0.Zero, vi q.Offset, (Value.slice t C D), vi r.Offset, (Value.slice E F G)]) (fe_ z) (by kernel_rfl)) z (WD.phase [12] [0, 1, 2, 3, 4, 5, 6, 7, 8, 9, 10, 11, 12, 13, 14, 15, 16, 17, 18] (by kernel_rfl) (by kernel_rfl) (WD.heavy 17 z (by kernel_rfl) ?_))
    have aK := Q.st d z
    have aL := aK.st e z
    have aM := aL.st m z
    have aN := aM.st n z
    refine WL.store (v := ag [vi (w64 (a0.Scale - a1)), vu a0.Zero, vi q.Offset, (Value.slice t C D), vi r.Offset, (Value.slice E F G)]) (cells' := [vi (w64 (a0.Scale - a1)), vu a0.Zero, vi q.Offset, (Value.slice t C D), vi r.Offset, (Value.slice E F G)]) ty30 z z aN z (le_ z) z z ?_
    intro aO o aP
    refine nl (At.dq (su_ o z) (WD.y 18 z (by kernel_rfl) (fun _ _ _ => ya z) z (WD.done_ (by kernel_rfl) (th (rt ?_)))))
    obtain ⟨rfl, rfl⟩ := tup2 h
    have H : Stp [12] (Lg.O0 A) w ak aO := (tr_ (su_ l z) (tr_ (su_ j z) (tr_ (su_ d z) (tr_ (su_ e z) (tr_ (su_ m z) (tr_ (su_ n z) (su_ o z)))))))
    have aQ := X.f o z
    have aR := W.f o z
    exact At.res (.inl z) z (.cell z (aP.runAg 0 [vi (w64 (a0.Scale - a1)), vu a0.Zero, vi q.Offset, (Value.slice t C D), vi r.Offset, (Value.slice E F G)] ty30 z z z) (.tmp z .nil)) ⟨(Value.slice t C D), (Value.slice E F G), z, (se_ H z z), (Sl.outF aQ H low0), (Sl.outF aR H low0)⟩
theorem c_hist_Fit {A : Nat → Prop} {v0_3 : Value} {v0_5 : Value} {a0 : api_Hist} {a1 : Int} {w : World} (hs0_3 : Sl Rep.u w A v0_3 a0.Pos.Counts) (hs0_5 : Sl Rep.u w A v0_5 a0.Neg.Counts) {r0 : api_Hist} {r1 : Int} (h : hist_Fit a0 a1 = some (r0, r1)) : Rets Try.prog 43 [ag [vi a0.Scale, vu a0.Zero, vi a0.Pos.Offset, v0_3, vi a0.Neg.Offset, v0_5], vi a1] w (fun v w' => ∃ (ak : Value) (al : Value), v = Value.tuple (List.toArray [ag [vi r0.Scale, vu r0.Zero, vi r0.Pos.Offset, ak, vi r0.Neg.Offset, al], vi r1]) ∧ Ext w w' ∧ Sl Rep.u w' (fun k => w.heap.size ≤ k) ak r0.Pos.Counts ∧ Sl Rep.u w' (fun k => w.heap.size ≤ k) al r0.Neg.Counts) := by
 unfold hist_Fit at h
 refine Rets.enter Try.func43 z z ?_
 have am : Sl Rep.u w (imm (Lg.O0 A)) v0_3 a0.Pos.Counts := (Sl.start hs0_3)
 have an : Sl Rep.u w (imm (Lg.O0 A)) v0_5 a0.Neg.Counts := (Sl.start hs0_5)
 refine (show WC _ _ _ _ [(0, ag [vi a0.Scale, vu a0.Zero, vi a0.Pos.Offset, v0_3, vi a0.Neg.Offset, v0_5]), (1, vi a1)] _ from ?_)
 refine sq (rg ?_)
 have bj := h
 obtain ⟨q, r, t, rfl⟩ := am.shape
 have h := bj
 have bk := h
 obtain ⟨C, D, E, rfl⟩ := an.shape
 have h := bk
 refine WL.box (O := (Lg.O0 A)) 11 [vi a0.Scale, vu a0.Zero, vi a0.Pos.Offset, (Value.slice q r t), vi a0.Neg.Offset, (Value.slice C D E)] z z z ?_
 intro bg bL bY p bl
 refine WL.alloc (O := bL) 12 [vi 0, vu 0, vi 0, Value.slice none 0 0, vi 0, Value.slice none 0 0] ty30 z z ?_
 intro ab bM bZ o V
 refine wY (ya z) z (nl (th (sq (sq (rg ?_)))))
 have ao := bl.st o z
 refine wY (yL ty30 z z (ao.cells 0 [vi a0.Scale, vu a0.Zero, vi a0.Pos.Offset, (Value.slice q r t), vi a0.Neg.Offset, (Value.slice C D E)] z) z) z ?_
 have bm := am.i p z z
 have ap := bm.i o z z
 have bn := an.i p z z
 have aq := bn.i o z z
 obtain ⟨b9, bo, h⟩ := bnd h
 refine WL.call (vals := [ag [vi a0.Scale, vu a0.Zero, vi a0.Pos.Offset, (Value.slice q r t), vi a0.Neg.Offset, (Value.slice C D E)]]) kok28 z z (c_hist_Check (A := fun _ => True) (a0 := a0) (Sl.all ap) (Sl.all aq) bo) ?_
 rintro b0 ar ⟨rfl, bp⟩
 obtain ⟨ac, bO, bP, e⟩ := adoptE bM (fun k => 1) bp
 refine wY (ya z) z (nl (th (sq (rg (wY (ym z) z (wY (Y.neq_i z z) z (nl (th ?_))))))))
 rcases cnd h with ⟨W, h⟩ | ⟨W, h⟩
 ·refine WC.condT' z W (sq (rg (wY (yb (vals := []) (cells := [vi 0, vu 0, vi 0, Value.slice none 0 0, vi 0, Value.slice none 0 0]) (fe_ z) (by kernel_rfl)) z (wY (ym z) z ?_))))
  have bq := V.st e z
  refine WL.store (v := ag [vi 0, vu 0, vi 0, Value.slice none 0 0, vi 0, Value.slice none 0 0]) (cells' := [vi 0, vu 0, vi 0, Value.slice none 0 0, vi 0, Value.slice none 0 0]) ty30 z z bq z (le_ z) z z ?_
  intro br az bs
  refine wY (ya z) z (nl (th (rt (At.thenR ?_))))
  obtain ⟨rfl, rfl⟩ := tup2 h
  have bt : Stp [12] (Lg.O0 A) w ac br := (tr_ (su_ p z) (tr_ (su_ o z) (tr_ (su_ e z) (su_ az z))))
  exact At.res (.inl z) z (.cell z (bs.runAg 0 [vi 0, vu 0, vi 0, Value.slice none 0 0, vi 0, Value.slice none 0 0] ty30 z z z) (.tmp z .nil)) ⟨Value.slice none 0 0, Value.slice none 0 0, z, (se_ bt z z), (Or.inl ⟨z, z⟩), (Or.inl ⟨z, z⟩)⟩
 ·refine WC.condF' z W (sk (th (sq (sq (rg (wY (ya z) z (nl (th (WC.block ?_)))))))))
  obtain ⟨bh, h, au⟩ := flow1 h
  obtain ⟨bi, h⟩ := loop_some h
  refine WC.joinB 0 (σ := Own) (fun x w' => bh = .go () ∧ Stp [] ac ar x w') (fun x => [(4, pt ab 0)]) ?_ ?_
  ·refine WC.loop (σ := (Int × Own)) (fun x k w' => loopN k (hist_Fit_lp1 a0 a1) x.1 = some bh ∧ Stp [] ac ar x.2 w') (fun x => [(1, vi a1), (2, pt bg 0), (4, pt ab 0), (7, vi x.1)]) (0, ac) bi (.cons z (.cons z (.cons z (.cons z .nil)))) ⟨h, (sr_ _ _ _)⟩ ?_
   rintro ⟨H, av⟩ bi b1 ⟨h, m⟩
   obtain ⟨bQ, ca, rfl, h, X⟩ := rnd1 h
   unfold hist_Fit_lp1 at h
   try dsimp only at h m
   refine (show WC _ _ _ _ [(1, vi a1), (2, pt bg 0), (4, pt ab 0), (7, vi H)] _ from ?_)
   refine sq (sq (rg (wY (ym z) z (wY (yf fo30_0 z) z ?_))))
   have bu := ao.st e z
   have I := bu.st m z
   refine wY (yl ty3 z z (I.cell 0 _ z)) z (wY (Y.sub_i z z) z (wY (Y.leq_i z z) z (nl (th ?_))))
   rcases cnd h with ⟨Z, h⟩ | ⟨Z, h⟩
   ·refine WC.condT' z Z (sk (th (sq (WC.block (sq (WC.drawH [] [0, 1, 2, 3, 4, 5, 6, 7, 8, 9, 10, 11, 12] av 13 fmix z (by kernel_rfl) ?_))))))
    intro b2 n
    refine WD.y 0 z (by kernel_rfl) (fun _ _ _ => yf fo30_2 z) z (WD.y 1 z (by kernel_rfl) (fun b3 cb aA => have bw := I.st n z; have bx := bw.st aA z; yL ty28 z z (bx.cells 2 [vi a0.Pos.Offset, (Value.slice q r t)] z) z) z (WD.y 2 z (by kernel_rfl) (fun _ _ _ => ym z) z (WD.y 3 z (by kernel_rfl) (fun _ _ _ => Y.conv_iu ty3.u ty92.u z) z (WD.y 5 z (by kernel_rfl) (fun _ _ _ => yf fo30_3 z) z (WD.y 6 z (by kernel_rfl) (fun b4 cc aC => have bz := I.st n z; have bA := bz.st aC z; yL ty28 z z (bA.cells 4 [vi a0.Neg.Offset, (Value.slice C D E)] z) z) z (WD.y 7 z (by kernel_rfl) (fun _ _ _ => ym z) z (WD.y 8 z (by kernel_rfl) (fun _ _ _ => Y.conv_iu ty3.u ty92.u z) z (WD.y 11 z (by kernel_rfl) (fun _ _ _ => ym z) z (WD.heavy 4 z (by kernel_rfl) ?_)))))))))
    have aD := ap.i e z z
    have aE := aD.i m z z
    have ad := aE.i n z z
    obtain ⟨b5, aF, h⟩ := bnd h
    refine WL.call (vals := [ag [vi a0.Pos.Offset, (Value.slice q r t)], vu (toU64 H)]) kok73 z z (c_hist_span (A := fun _ => True) (a0 := a0.Pos) (Sl.all ad) aF) ?_
    rintro bS bT ⟨rfl, aG⟩
    obtain ⟨bB, bG, bH, j⟩ := adoptE av (fun k => 1) aG
    refine nl (At.dq (su_ j z) (WD.heavy 9 z (by kernel_rfl) ?_))
    have aH := aq.i e z z
    have aI := aH.i m z z
    have aJ := aI.i n z z
    have ae := aJ.i j z z
    obtain ⟨b6, aK, h⟩ := bnd h
    refine WL.call (vals := [ag [vi a0.Neg.Offset, (Value.slice C D E)], vu (toU64 H)]) kok73 z z (c_hist_span (A := fun _ => True) (a0 := a0.Neg) (Sl.all ae) aK) ?_
    rintro bU bW ⟨rfl, aL⟩
    obtain ⟨aw, bI, bJ, l⟩ := adoptE bB (fun k => 1) aL
    refine nl (At.dq (su_ l z) (WD.y 10 z (by kernel_rfl) (fun _ _ _ => Y.max_i z z) z (WD.y 12 z (by kernel_rfl) (fun _ _ _ => Y.leq_i z z) z (WD.done_ (by kernel_rfl) (th ?_)))))
    rcases cnd h with ⟨J, h⟩ | ⟨J, h⟩
    ·refine WC.condT' z J (sq (rg ?_))
     have aM := I.st n z
     have aN := aM.st j z
     have aO := aN.st l z
     refine wY (yL ty30 z z (aO.cells 0 [vi a0.Scale, vu a0.Zero, vi a0.Pos.Offset, (Value.slice q r t), vi a0.Neg.Offset, (Value.slice C D E)] z) z) z (wY (ym z) z ?_)
     have aP := ad.i j z z
     have aQ := aP.i l z z
     have aR := ae.i l z z
     obtain ⟨⟨d, b7⟩, aS, h⟩ := bnd h
     refine WL.call (vals := [ag [vi a0.Scale, vu a0.Zero, vi a0.Pos.Offset, (Value.slice q r t), vi a0.Neg.Offset, (Value.slice C D E)], vi H]) kok31 z z (c_hist_Down (A := fun _ => True) (a0 := a0) (Sl.all aQ) (Sl.all aR) aS) ?_
     rintro bX af ⟨bC, bD, rfl, aT, bE, bF⟩
     obtain ⟨aa, bK, G, U⟩ := adoptE aw (fun k => 1) aT
     have ah : Sl Rep.u af (frs aa) bC d.Pos.Counts := Sl.adoptF bE (fun k hk => ⟨hk, z⟩) G
     have ai : Sl Rep.u af (frs aa) bD d.Neg.Counts := Sl.adoptF bF (fun k hk => ⟨hk, z⟩) G
     refine wY (yx z z) z (wY (yx z z) z ?_)
     have aU := h
     obtain ⟨K, L, M, rfl⟩ := ah.shape
     have h := aU
     have aW := h
     obtain ⟨P, Q, S, rfl⟩ := ai.shape
     have h := aW
     have aX := V.st e z
     have aY := aX.st m z
     have aZ := aY.st n z
     have a2 := aZ.st j z
     have a3 := a2.st l z
     have a4 := a3.st U z
     refine WL.store (v := ag [vi d.Scale, vu d.Zero, vi d.Pos.Offset, (Value.slice K L M), vi d.Neg.Offset, (Value.slice P Q S)]) (cells' := [vi d.Scale, vu d.Zero, vi d.Pos.Offset, (Value.slice K L M), vi d.Neg.Offset, (Value.slice P Q S)]) ty30 z z a4 z (le_ z) z z ?_
     intro a5 F a6
     refine wY (ya z) z (nl (th (rt (At.inBlockR (At.thenR (At.loopR ?_))))))
     have h := outr1 h X au
     refine At.joinBR (At.inBlockR (At.thenR ?_))
     obtain ⟨rfl, rfl⟩ := tup2 h
     have T : Stp [12] (Lg.O0 A) w aa a5 := (tr_ (su_ p z) (tr_ (su_ o z) (tr_ (su_ e z) (tr_ (su_ m z) (tr_ (su_ n z) (tr_ (su_ j z) (tr_ (su_ l z) (tr_ (su_ U z) (su_ F z)))))))))
     have a7 := ah.f F z
     have a8 := ai.f F z
     exact At.res (.inl z) z (.cell z (a6.runAg 0 [vi d.Scale, vu d.Zero, vi d.Pos.Offset, (Value.slice K L M), vi d.Neg.Offset, (Value.slice P Q S)] ty30 z z z) (.tmp z .nil)) ⟨(Value.slice K L M), (Value.slice P Q S), z, (se_ T z z), (Sl.outF a7 T low0), (Sl.outF a8 T low0)⟩
    ·refine WC.condF' z J (sk (At.inBlock (th (rg (wY (ym z) z (wY (Y.add_i z z) z ?_))))))
     obtain ⟨a9, ax, h⟩ := lt1 h
     refine WL.yE (ya z) (congrArg vi ax.symm) z (nl ?_)
     exact At.round (a9, aw) bQ (Nat.lt_succ_self _) ⟨next1 h X, (tr_ (su_ m z) (tr_ (su_ n z) (tr_ (su_ j z) (su_ l z))))⟩ (.cons z (.cons z (.cons z (.cons z .nil))))
   ·refine WC.condF' z Z (WC.exit (At.thenX (At.loopX ?_)))
    exact At.hitB (σ := Own) av ⟨brk1 h X, (su_ m z)⟩ (.cons z .nil)
  ·rintro bR b8 ⟨rfl, aj⟩
   replace h := flowK_go au
   refine (show At _ _ _ [(4, pt ab 0)] _ from ?_)
   refine At.inBlockHit (th (sq (rg (wY (yb (vals := []) (cells := [vi 0, vu 0, vi 0, Value.slice none 0 0, vi 0, Value.slice none 0 0]) (fe_ z) (by kernel_rfl)) z ?_))))
   have ba := V.st e z
   have bb := ba.st aj z
   refine WL.store (v := ag [vi 0, vu 0, vi 0, Value.slice none 0 0, vi 0, Value.slice none 0 0]) (cells' := [vi 0, vu 0, vi 0, Value.slice none 0 0, vi 0, Value.slice none 0 0]) ty30 z z bb z (le_ z) z z ?_
   intro bc ay bd
   refine wY (ya z) z (nl (th (rt ?_)))
   obtain ⟨rfl, rfl⟩ := tup2 h
   have bf : Stp [12] (Lg.O0 A) w bR bc := (tr_ (su_ p z) (tr_ (su_ o z) (tr_ (su_ e z) (tr_ (su_ aj z) (su_ ay z)))))
   exact At.res (.inl z) z (.cell z (bd.runAg 0 [vi 0, vu 0, vi 0, Value.slice none 0 0, vi 0, Value.slice none 0 0] ty30 z z z) (.tmp z .nil)) ⟨Value.slice none 0 0, Value.slice none 0 0, z, (se_ bf z z), (Or.inl ⟨z, z⟩), (Or.inl ⟨z, z⟩)⟩
theorem c_tocum_check {A : Nat → Prop} {v0_9 : Value} {v0_11 : Value} {a0 : api_State} {v1_1 : Value} {v1_13 : Value} {v1_15 : Value} {a1 : api_Point} {w : World} (hs0_9 : Sl Rep.u w A v0_9 a0.Hist.Pos.Counts) (hs0_11 : Sl Rep.u w A v0_11 a0.Hist.Neg.Counts) (hs1_1 : Sl rep_api_Pair w A v1_1 a1.Attrs) (hs1_13 : Sl Rep.u w A v1_13 a1.Hist.Pos.Counts) (hs1_15 : Sl Rep.u w A v1_15 a1.Hist.Neg.Counts) {r0 : Int} (h : tocum_check a0 a1 = some r0) : Rets Try.prog 44 [ag [vB a0.Some, vi a0.Start, vi a0.Time, vi a0.Int_, vu a0.Re, vu a0.Im, vi a0.Hist.Scale, vu a0.Hist.Zero, vi a0.Hist.Pos.Offset, v0_9, vi a0.Hist.Neg.Offset, v0_11], ag [vs a1.Name, v1_1, vi a1.Kind, vi a1.Temp, vB a1.Mono, vi a1.Start, vi a1.Time, vi a1.Int_, vu a1.Re, vu a1.Im, vi a1.Hist.Scale, vu a1.Hist.Zero, vi a1.Hist.Pos.Offset, v1_13, vi a1.Hist.Neg.Offset, v1_15, vi a1.Flags]] w (fun v w' => v = vi r0 ∧ Ext w w') := by
 unfold tocum_check at h
 refine Rets.enter Try.func44 z z ?_
 have r : Sl Rep.u w (imm (Lg.O0 A)) v0_9 a0.Hist.Pos.Counts := (Sl.start hs0_9)
 have t : Sl Rep.u w (imm (Lg.O0 A)) v0_11 a0.Hist.Neg.Counts := (Sl.start hs0_11)
 have C : Sl rep_api_Pair w (imm (Lg.O0 A)) v1_1 a1.Attrs := (Sl.start hs1_1)
 have D : Sl Rep.u w (imm (Lg.O0 A)) v1_13 a1.Hist.Pos.Counts := (Sl.start hs1_13)
 have E : Sl Rep.u w (imm (Lg.O0 A)) v1_15 a1.Hist.Neg.Counts := (Sl.start hs1_15)
 refine (show WC _ _ _ _ [(0, ag [vB a0.Some, vi a0.Start, vi a0.Time, vi a0.Int_, vu a0.Re, vu a0.Im, vi a0.Hist.Scale, vu a0.Hist.Zero, vi a0.Hist.Pos.Offset, v0_9, vi a0.Hist.Neg.Offset, v0_11]), (1, ag [vs a1.Name, v1_1, vi a1.Kind, vi a1.Temp, vB a1.Mono, vi a1.Start, vi a1.Time, vi a1.Int_, vu a1.Re, vu a1.Im, vi a1.Hist.Scale, vu a1.Hist.Zero, vi a1.Hist.Pos.Offset, v1_13, vi a1.Hist.Neg.Offset, v1_15, vi a1.Flags])] _ from ?_)
 refine sq (rg ?_)
 have F := h
 obtain ⟨Z, aa, ab, rfl⟩ := r.shape
 have h := F
 have G := h
 obtain ⟨ac, ad, ae, rfl⟩ := t.shape
 have h := G
 refine WL.box (O := (Lg.O0 A)) 11 [vB a0.Some, vi a0.Start, vi a0.Time, vi a0.Int_, vu a0.Re, vu a0.Im, vi a0.Hist.Scale, vu a0.Hist.Zero, vi a0.Hist.Pos.Offset, (Value.slice Z aa ab), vi a0.Hist.Neg.Offset, (Value.slice ac ad ae)] z z z ?_
 intro ar af aq d H
 have I := C.i d z z
 have J := h
 obtain ⟨ah, ai, aj, rfl⟩ := I.shape
 have h := J
 have K := D.i d z z
 have L := h
 obtain ⟨ak, al, am, rfl⟩ := K.shape
 have h := L
 have M := E.i d z z
 have P := h
 obtain ⟨an, ao, ap, rfl⟩ := M.shape
 have h := P
 refine WL.box (O := af) 12 [vs a1.Name, (Value.slice ah ai aj), vi a1.Kind, vi a1.Temp, vB a1.Mono, vi a1.Start, vi a1.Time, vi a1.Int_, vu a1.Re, vu a1.Im, vi a1.Hist.Scale, vu a1.Hist.Zero, vi a1.Hist.Pos.Offset, (Value.slice ak al am), vi a1.Hist.Neg.Offset, (Value.slice an ao ap), vi a1.Flags] z z z ?_
 intro au p j e q
 refine wY (ya z) z (nl (th (sq (WC.block (sq (rg (wY (yf fo32_0 z) z ?_)))))))
 have l := H.st e z
 refine wY (yl ty4 z z (l.cell 0 _ z)) z (wY (Y.not z) z ?_)
 obtain ⟨av, Q, h⟩ := lt1 h
 refine WL.yE (ya z) (congrArg vB Q.symm) z (nl (th ?_))
 rcases cnd h with ⟨m, h⟩ | ⟨m, h⟩
 ·refine WC.condT' z m (sk (At.inBlock (th (sq (rg (wY (ya z) z (nl (th (rt ?_)))))))))
  obtain rfl := some1 h
  have S : Stp [] (Lg.O0 A) w p j := (tr_ (su_ d z) (su_ e z))
  exact At.res (.inl z) z (.tmp z .nil) ⟨z, (se_ S z z)⟩
 ·refine WC.condF' z m (sq (rg (wY (yf fo37_6 z) z (wY (yl ty3 z z (q.cell 6 _ z)) z (wY (yf fo32_2 z) z (wY (yl ty3 z z (l.cell 2 _ z)) z (wY (Y.leq_i z z) z ?_)))))))
  obtain ⟨aw, T, h⟩ := lt1 h
  refine WL.yE (ya z) (congrArg vB T.symm) z (nl (th ?_))
  rcases cnd h with ⟨n, h⟩ | ⟨n, h⟩
  ·refine WC.condT' z n (sq (rg (wY (ya z) z (nl (th (rt (At.inBlockR (At.thenR ?_))))))))
   obtain rfl := some1 h
   have U : Stp [] (Lg.O0 A) w p j := (tr_ (su_ d z) (su_ e z))
   exact At.res (.inl z) z (.tmp z .nil) ⟨z, (se_ U z z)⟩
  ·refine WC.condF' z n (sq (rg (wY (yf fo37_5 z) z (wY (yl ty3 z z (q.cell 5 _ z)) z (wY (yf fo32_2 z) z (wY (yl ty3 z z (l.cell 2 _ z)) z (wY (Y.lss_i z z) z ?_)))))))
   obtain ⟨ax, V, h⟩ := lt1 h
   refine WL.yE (ya z) (congrArg vB V.symm) z (nl (th ?_))
   rcases cnd h with ⟨o, h⟩ | ⟨o, h⟩
   ·refine WC.condT' z o (sq (rg (wY (ya z) z (nl (th (rt (At.inBlockR (At.thenR ?_))))))))
    obtain rfl := some1 h
    have W : Stp [] (Lg.O0 A) w p j := (tr_ (su_ d z) (su_ e z))
    exact At.res (.inl z) z (.tmp z .nil) ⟨z, (se_ W z z)⟩
   ·refine WC.condF' z o (sk (At.inBlock (th (sq (rg (wY (ya z) z (nl (th (rt ?_)))))))))
    obtain rfl := some1 h
    have X : Stp [] (Lg.O0 A) w p j := (tr_ (su_ d z) (su_ e z))
    exact At.res (.inl z) z (.tmp z .nil) ⟨z, (se_ X z z)⟩
theorem c_fold_Level {A : Nat → Prop} {v0_3 : Value} {v0_5 : Value} {a0 : api_Hist} {v1_3 : Value} {v1_5 : Value} {a1 : api_Hist} {w : World} (hs0_3 : Sl Rep.u w A v0_3 a0.Pos.Counts) (hs0_5 : Sl Rep.u w A v0_5 a0.Neg.Counts) (hs1_3 : Sl Rep.u w A v1_3 a1.Pos.Counts) (hs1_5 : Sl Rep.u w A v1_5 a1.Neg.Counts) {r0 : api_Hist} {r1 : api_Hist} {r2 : Int} (h : fold_Level a0 a1 = some (r0, r1, r2)) : Rets Try.prog 52 [ag [vi a0.Scale, vu a0.Zero, vi a0.Pos.Offset, v0_3, vi a0.Neg.Offset, v0_5], ag [vi a1.Scale, vu a1.Zero, vi a1.Pos.Offset, v1_3, vi a1.Neg.Offset, v1_5]] w (fun v w' => ∃ (a9 : Value) (ba : Value) (bb : Value) (bc : Value), v = Value.tuple (List.toArray [ag [vi r0.Scale, vu r0.Zero, vi r0.Pos.Offset, a9, vi r0.Neg.Offset, ba], ag [vi r1.Scale, vu r1.Zero, vi r1.Pos.Offset, bb, vi r1.Neg.Offset, bc], vi r2]) ∧ Ext w w' ∧ Sl Rep.u w' (fun k => w.heap.size ≤ k) a9 r0.Pos.Counts ∧ Sl Rep.u w' (fun k => w.heap.size ≤ k) ba r0.Neg.Counts ∧ Sl Rep.u w' (fun k => w.heap.size ≤ k) bb r1.Pos.Counts ∧ Sl Rep.u w' (fun k => w.heap.size ≤ k) bc r1.Neg.Counts) := by
 unfold fold_Level at h
 refine Rets.enter Try.func52 z z ?_
 have aL : Sl Rep.u w (imm (Lg.O0 A)) v0_3 a0.Pos.Counts := (Sl.start hs0_3)
 have aM : Sl Rep.u w (imm (Lg.O0 A)) v0_5 a0.Neg.Counts := (Sl.start hs0_5)
 have c5 : Sl Rep.u w (imm (Lg.O0 A)) v1_3 a1.Pos.Counts := (Sl.start hs1_3)
 have c6 : Sl Rep.u w (imm (Lg.O0 A)) v1_5 a1.Neg.Counts := (Sl.start hs1_5)
 refine (show WC _ _ _ _ [(0, ag [vi a0.Scale, vu a0.Zero, vi a0.Pos.Offset, v0_3, vi a0.Neg.Offset, v0_5]), (1, ag [vi a1.Scale, vu a1.Zero, vi a1.Pos.Offset, v1_3, vi a1.Neg.Offset, v1_5])] _ from ?_)
 refine sq (rg ?_)
 have c7 := h
 obtain ⟨J, K, L, rfl⟩ := aL.shape
 have h := c7
 have c8 := h
 obtain ⟨M, P, Q, rfl⟩ := aM.shape
 have h := c8
 refine WL.box (O := (Lg.O0 A)) 11 [vi a0.Scale, vu a0.Zero, vi a0.Pos.Offset, (Value.slice J K L), vi a0.Neg.Offset, (Value.slice M P Q)] z z z ?_
 intro ap dQ ea S c9
 have aN := c5.i S z z
 have da := h
 obtain ⟨r, t, C, rfl⟩ := aN.shape
 have h := da
 have aO := c6.i S z z
 have db := h
 obtain ⟨D, E, F, rfl⟩ := aO.shape
 have h := db
 refine WL.box (O := dQ) 12 [vi a1.Scale, vu a1.Zero, vi a1.Pos.Offset, (Value.slice r t C), vi a1.Neg.Offset, (Value.slice D E F)] z z z ?_
 intro aq dR eb n dc
 refine WL.alloc (O := dR) 13 [vi 0, vu 0, vi 0, Value.slice none 0 0, vi 0, Value.slice none 0 0] ty30 z z ?_
 intro ar dS ec m bd
 refine WL.alloc (O := dS) 14 [vi 0, vu 0, vi 0, Value.slice none 0 0, vi 0, Value.slice none 0 0] ty30 z z ?_
 intro au aT aP j bf
 refine wY (ya z) z (nl (th (sq (sq (rg ?_)))))
 have dd := c9.st n z
 have de := dd.st m z
 have bg := de.st j z
 refine wY (yL ty30 z z (bg.cells 0 [vi a0.Scale, vu a0.Zero, vi a0.Pos.Offset, (Value.slice J K L), vi a0.Neg.Offset, (Value.slice M P Q)] z) z) z ?_
 have df := dc.st m z
 have bh := df.st j z
 refine wY (yL ty30 z z (bh.cells 0 [vi a1.Scale, vu a1.Zero, vi a1.Pos.Offset, (Value.slice r t C), vi a1.Neg.Offset, (Value.slice D E F)] z) z) z (wY (yb (vals := [(0, ag [vi a0.Scale, vu a0.Zero, vi a0.Pos.Offset, (Value.slice J K L), vi a0.Neg.Offset, (Value.slice M P Q)]), (1, ag [vi a1.Scale, vu a1.Zero, vi a1.Pos.Offset, (Value.slice r t C), vi a1.Neg.Offset, (Value.slice D E F)])]) (cells := [vi a0.Scale, vu a0.Zero, vi a0.Pos.Offset, (Value.slice J K L), vi a0.Neg.Offset, (Value.slice M P Q), vi a1.Scale, vu a1.Zero, vi a1.Pos.Offset, (Value.slice r t C), vi a1.Neg.Offset, (Value.slice D E F)]) (fe_ z) (by kernel_rfl)) z (wY (ym z) z (nl (th ?_))))
 obtain ⟨dT, h, bi⟩ := flow1 h
 refine WC.join (σ := Own) (fun x w' => dT = .go () ∧ Stp [15] aT aP x w') (fun x => [(2, pt ap 0), (3, pt aq 0), (4, pt ar 0), (5, pt au 0)]) ?_ ?_
 ·refine WC.block ?_
  obtain ⟨c2, h, bj⟩ := flow1 h
  obtain ⟨c3, h⟩ := loop_some h
  refine WC.joinB 0 (σ := Own) (fun x w' => c2 = .go () ∧ Stp [15] aT aP x w') (fun x => [(2, pt ap 0), (3, pt aq 0), (4, pt ar 0), (5, pt au 0)]) ?_ ?_
  ·refine WC.loop (σ := (Int × Own)) (fun x k w' => loopN k (fold_Level_lp1 a0 a1) x.1 = some c2 ∧ Stp [15] aT aP x.2 w') (fun x => [(2, pt ap 0), (3, pt aq 0), (4, pt ar 0), (5, pt au 0), (13, ag [vi a0.Scale, vu a0.Zero, vi a0.Pos.Offset, (Value.slice J K L), vi a0.Neg.Offset, (Value.slice M P Q), vi a1.Scale, vu a1.Zero, vi a1.Pos.Offset, (Value.slice r t C), vi a1.Neg.Offset, (Value.slice D E F)]), (14, vi x.1)]) (0, aT) c3 (.cons z (.cons z (.cons z (.cons z (.cons z (.cons z .nil)))))) ⟨h, (sr_ _ _ _)⟩ ?_
   rintro ⟨c4, bk⟩ c3 dg ⟨h, o⟩
   obtain ⟨dU, em, rfl, h, aQ⟩ := rnd1 h
   unfold fold_Level_lp1 at h
   try dsimp only at h o
   refine (show WC _ _ _ _ [(2, pt ap 0), (3, pt aq 0), (4, pt ar 0), (5, pt au 0), (13, ag [vi a0.Scale, vu a0.Zero, vi a0.Pos.Offset, (Value.slice J K L), vi a0.Neg.Offset, (Value.slice M P Q), vi a1.Scale, vu a1.Zero, vi a1.Pos.Offset, (Value.slice r t C), vi a1.Neg.Offset, (Value.slice D E F)]), (14, vi c4)] _ from ?_)
   refine sq (rg (wY (Y.lss_i z z) z (nl (th (sq ?_)))))
   rcases cnd h with ⟨aR, h⟩ | ⟨aR, h⟩
   ·refine WC.condT' z aR (sk (th (sq (WC.block (sq (rg ?_))))))
    have dh := aL.i S z z
    have di := dh.i n z z
    have dj := di.i m z z
    have dk := dj.i j z z
    have dl := dk.i o z z
    have dm := aM.i S z z
    have dn := dm.i n z z
    have dp := dn.i m z z
    have dr := dp.i j z z
    have ds := dr.i o z z
    have dt := aN.i n z z
    have du := dt.i m z z
    have dw := du.i j z z
    have dx := dw.i o z z
    have dy := aO.i n z z
    have dz := dy.i m z z
    have dA := dz.i j z z
    have dB := dA.i o z z
    obtain ⟨l, bl, h⟩ := bnd h
    obtain ⟨ed, ax, bo⟩ := arrAt (R := rep_api_Hist) (w := dg) (A := imm bk) (cells := [vi a0.Scale, vu a0.Zero, vi a0.Pos.Offset, (Value.slice J K L), vi a0.Neg.Offset, (Value.slice M P Q), vi a1.Scale, vu a1.Zero, vi a1.Pos.Offset, (Value.slice r t C), vi a1.Neg.Offset, (Value.slice D E F)]) (xs := [a0, a1]) ⟨[vi a0.Scale, vu a0.Zero, vi a0.Pos.Offset, (Value.slice J K L), vi a0.Neg.Offset, (Value.slice M P Q)], [vi a1.Scale, vu a1.Zero, vi a1.Pos.Offset, (Value.slice r t C), vi a1.Neg.Offset, (Value.slice D E F)], rfl, ⟨[vi a0.Scale], [vu a0.Zero, vi a0.Pos.Offset, (Value.slice J K L), vi a0.Neg.Offset, (Value.slice M P Q)], rfl, rfl, ⟨[vu a0.Zero], [vi a0.Pos.Offset, (Value.slice J K L), vi a0.Neg.Offset, (Value.slice M P Q)], rfl, rfl, ⟨[vi a0.Pos.Offset, (Value.slice J K L)], [vi a0.Neg.Offset, (Value.slice M P Q)], rfl, ⟨[vi a0.Pos.Offset], [(Value.slice J K L)], rfl, rfl, ⟨_, rfl, dl⟩⟩, ⟨[vi a0.Neg.Offset], [(Value.slice M P Q)], rfl, rfl, ⟨_, rfl, ds⟩⟩⟩⟩⟩, ⟨[vi a1.Scale, vu a1.Zero, vi a1.Pos.Offset, (Value.slice r t C), vi a1.Neg.Offset, (Value.slice D E F)], [], rfl, ⟨[vi a1.Scale], [vu a1.Zero, vi a1.Pos.Offset, (Value.slice r t C), vi a1.Neg.Offset, (Value.slice D E F)], rfl, rfl, ⟨[vu a1.Zero], [vi a1.Pos.Offset, (Value.slice r t C), vi a1.Neg.Offset, (Value.slice D E F)], rfl, rfl, ⟨[vi a1.Pos.Offset, (Value.slice r t C)], [vi a1.Neg.Offset, (Value.slice D E F)], rfl, ⟨[vi a1.Pos.Offset], [(Value.slice r t C)], rfl, rfl, ⟨_, rfl, dx⟩⟩, ⟨[vi a1.Neg.Offset], [(Value.slice D E F)], rfl, rfl, ⟨_, rfl, dB⟩⟩⟩⟩⟩, rfl⟩⟩ bl
    obtain ⟨_, _, rfl, rfl, ⟨_, _, rfl, rfl, ⟨_, _, rfl, ⟨_, _, rfl, rfl, ⟨dV, rfl, bp⟩⟩, ⟨_, _, rfl, rfl, ⟨dC, rfl, bq⟩⟩⟩⟩⟩ := bo
    replace ax : _ = [vi l.Scale, vu l.Zero, vi l.Pos.Offset, dV, vi l.Neg.Offset, dC] := ax
    refine wY (Y.indexArrAg ty118 ty30 z z ax bl) z (WL.alloc (O := bk) 15 [vi 0, vu 0, vi 0, Value.slice none 0 0, vi 0, Value.slice none 0 0] ty30 z z ?_)
    intro ee dD dY T br
    have aU := bp.i T z z
    have bs := h
    obtain ⟨ay, az, aA, rfl⟩ := aU.shape
    have h := bs
    have aW := bq.i T z z
    have bt := h
    obtain ⟨aC, aD, aE, rfl⟩ := aW.shape
    have h := bt
    refine WL.store (v := ag [vi l.Scale, vu l.Zero, vi l.Pos.Offset, (Value.slice ay az aA), vi l.Neg.Offset, (Value.slice aC aD aE)]) (cells' := [vi l.Scale, vu l.Zero, vi l.Pos.Offset, (Value.slice ay az aA), vi l.Neg.Offset, (Value.slice aC aD aE)]) ty30 z z br z (le_ z) z z ?_
    intro dZ U bu
    refine nl (th (sq (rg (wY (yL ty30 z z (bu.cells 0 [vi l.Scale, vu l.Zero, vi l.Pos.Offset, (Value.slice ay az aA), vi l.Neg.Offset, (Value.slice aC aD aE)] z) z) z ?_))))
    have bw := aU.i U z z
    have bx := aW.i U z z
    obtain ⟨ef, bz, h⟩ := bnd h
    refine WL.call (vals := [ag [vi l.Scale, vu l.Zero, vi l.Pos.Offset, (Value.slice ay az aA), vi l.Neg.Offset, (Value.slice aC aD aE)]]) kok28 z z (c_hist_Check (A := fun _ => True) (a0 := l) (Sl.all bw) (Sl.all bx) bz) ?_
    rintro d0 d1 ⟨rfl, bA⟩
    obtain ⟨bm, dM, dN, am⟩ := adoptE dD (fun k => 1) bA
    refine wY (ya z) z (nl (th (sq (rg (wY (ym z) z (wY (Y.neq_i z z) z (nl (th ?_))))))))
    rcases cnd h with ⟨aF, h⟩ | ⟨aF, h⟩
    ·refine WC.condT' z aF (sq (rg (wY (yb (vals := []) (cells := [vi 0, vu 0, vi 0, Value.slice none 0 0, vi 0, Value.slice none 0 0]) (fe_ z) (by kernel_rfl)) z (wY (yb (vals := []) (cells := [vi 0, vu 0, vi 0, Value.slice none 0 0, vi 0, Value.slice none 0 0]) (fe_ z) (by kernel_rfl)) z (wY (ym z) z ?_)))))
     have bB := bd.st j z
     have bC := bB.st o z
     have bD := bC.st T z
     have bE := bD.st U z
     have bF := bE.st am z
     refine WL.store (v := ag [vi 0, vu 0, vi 0, Value.slice none 0 0, vi 0, Value.slice none 0 0]) (cells' := [vi 0, vu 0, vi 0, Value.slice none 0 0, vi 0, Value.slice none 0 0]) ty30 z z bF z (le_ z) z z ?_
     intro d2 aI bG
     have bH := bf.st o z
     have bI := bH.st T z
     have bJ := bI.st U z
     have bK := bJ.st am z
     have bL := bK.st aI z
     refine WL.store (v := ag [vi 0, vu 0, vi 0, Value.slice none 0 0, vi 0, Value.slice none 0 0]) (cells' := [vi 0, vu 0, vi 0, Value.slice none 0 0, vi 0, Value.slice none 0 0]) ty30 z z bL z (le_ z) z z ?_
     intro bM aJ bO
     refine wY (ya z) z (nl (th (rt (At.inBlockR (At.thenR (At.loopR ?_))))))
     have h := outr1 h aQ bj
     refine At.joinBR (At.inBlockR ?_)
     have h := outs1 h bi
     refine At.joinR (At.thenR ?_)
     obtain ⟨rfl, rfl, rfl⟩ := tup3 h
     have bP : Stp [13, 14, 15] (Lg.O0 A) w bm bM := (tr_ (su_ S z) (tr_ (su_ n z) (tr_ (su_ m z) (tr_ (su_ j z) (tr_ (su_ o z) (tr_ (su_ T z) (tr_ (su_ U z) (tr_ (su_ am z) (tr_ (su_ aI z) (su_ aJ z))))))))))
     have bQ := bG.st aJ z
     exact At.res (.inl z) z (.cell z (bQ.runAg 0 [vi 0, vu 0, vi 0, Value.slice none 0 0, vi 0, Value.slice none 0 0] ty30 z z z) (.cell z (bO.runAg 0 [vi 0, vu 0, vi 0, Value.slice none 0 0, vi 0, Value.slice none 0 0] ty30 z z z) (.tmp z .nil))) ⟨Value.slice none 0 0, Value.slice none 0 0, Value.slice none 0 0, Value.slice none 0 0, z, (se_ bP z z), (Or.inl ⟨z, z⟩), (Or.inl ⟨z, z⟩), (Or.inl ⟨z, z⟩), (Or.inl ⟨z, z⟩)⟩
    ·refine WC.condF' z aF (sk (At.inBlock (th (rg (wY (Y.add_i z z) z (wY (ym z) z (nl ?_)))))))
     exact At.round (w64 (c4 + 1), bm) dU (Nat.lt_succ_self _) ⟨next1 h aQ, (tr_ (su_ o z) (tr_ (su_ T z) (tr_ (su_ U z) (su_ am z))))⟩ (.cons z (.cons z (.cons z (.cons z (.cons z (.cons z .nil))))))
   ·refine WC.condF' z aR (WC.exit (At.thenX (At.loopX ?_)))
    exact At.hitB (σ := Own) bk ⟨brk1 h aQ, (su_ o z)⟩ (.cons z (.cons z (.cons z (.cons z .nil))))
  ·rintro dW eg ⟨rfl, bR⟩
   replace h := flowK_go bj
   refine (show At _ _ _ [(2, pt ap 0), (3, pt aq 0), (4, pt ar 0), (5, pt au 0)] _ from ?_)
   refine At.inBlockHit ?_
   exact At.join (σ := Own) dW ⟨go2 h, (su_ bR z)⟩ (.cons z (.cons z (.cons z (.cons z .nil))))
 ·rintro dX eh ⟨rfl, q⟩
  replace h := flowK_go bi
  refine (show At _ _ _ [(2, pt ap 0), (3, pt aq 0), (4, pt ar 0), (5, pt au 0)] _ from ?_)
  refine th (sq (rg (wY (yf fo30_0 z) z ?_)))
  have aG := bg.st q z
  refine wY (yl ty3 z z (aG.cell 0 _ z)) z (wY (yf fo30_0 z) z ?_)
  have aX := bh.st q z
  refine wY (yl ty3 z z (aX.cell 0 _ z)) z (wY (Y.min_i z z) z ?_)
  obtain ⟨ao, aK, h⟩ := lt1 h
  refine WL.yE (ya z) (congrArg vi aK.symm) z (nl (th (sq (rg (wY (yL ty30 z z (aG.cells 0 [vi a0.Scale, vu a0.Zero, vi a0.Pos.Offset, (Value.slice J K L), vi a0.Neg.Offset, (Value.slice M P Q)] z) z) z (wY (yf fo30_0 z) z (wY (yl ty3 z z (aG.cell 0 _ z)) z (wY (ym z) z (wY (Y.sub_i z z) z ?_)))))))))
  have bS := aL.i S z z
  have bT := bS.i n z z
  have bU := bT.i m z z
  have bW := bU.i j z z
  have bX := bW.i q z z
  have bY := aM.i S z z
  have bZ := bY.i n z z
  have b0 := bZ.i m z z
  have b1 := b0.i j z z
  have b2 := b1.i q z z
  obtain ⟨⟨d, ei⟩, b3, h⟩ := bnd h
  refine WL.call (vals := [ag [vi a0.Scale, vu a0.Zero, vi a0.Pos.Offset, (Value.slice J K L), vi a0.Neg.Offset, (Value.slice M P Q)], vi (w64 (a0.Scale - ao))]) kok31 z z (c_hist_Down (A := fun _ => True) (a0 := a0) (Sl.all bX) (Sl.all b2) b3) ?_
  rintro d3 aY ⟨dE, dF, rfl, b4, dG, dH⟩
  obtain ⟨aS, dO, av, V⟩ := adoptE dX (fun k => 1) b4
  have aZ : Sl Rep.u aY (frs aS) dE d.Pos.Counts := Sl.adoptF dG (fun k hk => ⟨hk, z⟩) av
  have a2 : Sl Rep.u aY (frs aS) dF d.Neg.Counts := Sl.adoptF dH (fun k hk => ⟨hk, z⟩) av
  refine wY (ym z) z (wY (yx z z) z (wY (yx z z) z ?_))
  have b5 := h
  obtain ⟨Z, aa, ab, rfl⟩ := aZ.shape
  have h := b5
  have b6 := h
  obtain ⟨ac, ad, ae, rfl⟩ := a2.shape
  have h := b6
  have b7 := bd.st j z
  have b8 := b7.st q z
  have b9 := b8.st V z
  refine WL.store (v := ag [vi d.Scale, vu d.Zero, vi d.Pos.Offset, (Value.slice Z aa ab), vi d.Neg.Offset, (Value.slice ac ad ae)]) (cells' := [vi d.Scale, vu d.Zero, vi d.Pos.Offset, (Value.slice Z aa ab), vi d.Neg.Offset, (Value.slice ac ad ae)]) ty30 z z b9 z (le_ z) z z ?_
  intro d4 G ca
  refine nl (th (sq (rg ?_)))
  have cb := aX.st V z
  have a3 := cb.st G z
  refine wY (yL ty30 z z (a3.cells 0 [vi a1.Scale, vu a1.Zero, vi a1.Pos.Offset, (Value.slice r t C), vi a1.Neg.Offset, (Value.slice D E F)] z) z) z (wY (yf fo30_0 z) z (wY (yl ty3 z z (a3.cell 0 _ z)) z (wY (ym z) z (wY (Y.sub_i z z) z ?_))))
  have cc := aN.i n z z
  have cd := cc.i m z z
  have ce := cd.i j z z
  have cf := ce.i q z z
  have cg := cf.i V z z
  have ch := cg.i G z z
  have ci := aO.i n z z
  have cj := ci.i m z z
  have ck := cj.i j z z
  have cl := ck.i q z z
  have cm := cl.i V z z
  have cn := cm.i G z z
  obtain ⟨⟨e, ej⟩, co, h⟩ := bnd h
  refine WL.call (vals := [ag [vi a1.Scale, vu a1.Zero, vi a1.Pos.Offset, (Value.slice r t C), vi a1.Neg.Offset, (Value.slice D E F)], vi (w64 (a1.Scale - ao))]) kok31 z z (c_hist_Down (A := fun _ => True) (a0 := a1) (Sl.all ch) (Sl.all cn) co) ?_
  rintro d5 a4 ⟨dI, dJ, rfl, cp, dK, dL⟩
  obtain ⟨aH, dP, aw, X⟩ := adoptE aS (fun k => 1) cp
  have a5 : Sl Rep.u a4 (frs aH) dI e.Pos.Counts := Sl.adoptF dK (fun k hk => ⟨hk, z⟩) aw
  have a6 : Sl Rep.u a4 (frs aH) dJ e.Neg.Counts := Sl.adoptF dL (fun k hk => ⟨hk, z⟩) aw
  refine wY (ym z) z (wY (yx z z) z (wY (yx z z) z ?_))
  have cq := h
  obtain ⟨af, ah, ai, rfl⟩ := a5.shape
  have h := cq
  have cr := h
  obtain ⟨aj, ak, al, rfl⟩ := a6.shape
  have h := cr
  have cs := bf.st q z
  have ct := cs.st V z
  have cu := ct.st G z
  have cw := cu.st X z
  refine WL.store (v := ag [vi e.Scale, vu e.Zero, vi e.Pos.Offset, (Value.slice af ah ai), vi e.Neg.Offset, (Value.slice aj ak al)]) (cells' := [vi e.Scale, vu e.Zero, vi e.Pos.Offset, (Value.slice af ah ai), vi e.Neg.Offset, (Value.slice aj ak al)]) ty30 z z cw z (le_ z) z z ?_
  intro d6 W a7
  refine nl (th (sq (WC.drawH [13] [0, 1, 2] aH 5 fmix z (by kernel_rfl) ?_)))
  intro d7 p
  refine WD.y 1 z (by kernel_rfl) (fun d8 ek bn => have cx := a7.st p z; have cy := cx.st bn z; yL ty30 z z (cy.cells 0 [vi e.Scale, vu e.Zero, vi e.Pos.Offset, (Value.slice af ah ai), vi e.Neg.Offset, (Value.slice aj ak al)] z) z) z (WD.heavy 0 z (by kernel_rfl) ?_)
  have cz := ca.st X z
  have cA := cz.st W z
  have a8 := cA.st p z
  refine wY (yL ty30 z z (a8.cells 0 [vi d.Scale, vu d.Zero, vi d.Pos.Offset, (Value.slice Z aa ab), vi d.Neg.Offset, (Value.slice ac ad ae)] z) z) z (nl (At.dq (sr_ _ _ _) (WD.heavy 2 z (by kernel_rfl) (WL.store (v := ag [vi d.Scale, vu d.Zero, vi d.Pos.Offset, (Value.slice Z aa ab), vi d.Neg.Offset, (Value.slice ac ad ae)]) (cells' := [vi d.Scale, vu d.Zero, vi d.Pos.Offset, (Value.slice Z aa ab), vi d.Neg.Offset, (Value.slice ac ad ae)]) ty30 z z a8 z (le_ z) z z ?_))))
  intro d9 H cC
  refine nl (At.dq (su_ H z) (WD.phase [14] [0, 1, 2, 3, 4] (by kernel_rfl) (by kernel_rfl) (WD.heavy 3 z (by kernel_rfl) ?_)))
  have cD := a7.st p z
  have cE := cD.st H z
  refine WL.store (v := ag [vi e.Scale, vu e.Zero, vi e.Pos.Offset, (Value.slice af ah ai), vi e.Neg.Offset, (Value.slice aj ak al)]) (cells' := [vi e.Scale, vu e.Zero, vi e.Pos.Offset, (Value.slice af ah ai), vi e.Neg.Offset, (Value.slice aj ak al)]) ty30 z z cE z (le_ z) z z ?_
  intro cF I cG
  refine nl (At.dq (su_ I z) (WD.y 4 z (by kernel_rfl) (fun _ _ _ => ya z) z (WD.done_ (by kernel_rfl) (th (rt ?_)))))
  obtain ⟨rfl, rfl, rfl⟩ := tup3 h
  have an : Stp [13, 14, 15] (Lg.O0 A) w aH cF := (tr_ (su_ S z) (tr_ (su_ n z) (tr_ (su_ m z) (tr_ (su_ j z) (tr_ (su_ q z) (tr_ (su_ V z) (tr_ (su_ G z) (tr_ (su_ X z) (tr_ (su_ W z) (tr_ (su_ p z) (tr_ (su_ H z) (su_ I z))))))))))))
  have cH := aZ.f G z
  have cI := cH.f X z
  have cJ := cI.f W z
  have cK := cJ.f p z
  have cL := cK.f H z
  have cM := cL.f I z
  have cN := a2.f G z
  have cO := cN.f X z
  have cP := cO.f W z
  have cQ := cP.f p z
  have cR := cQ.f H z
  have cS := cR.f I z
  have cT := a5.f W z
  have cU := cT.f p z
  have cV := cU.f H z
  have cW := cV.f I z
  have cX := a6.f W z
  have cY := cX.f p z
  have cZ := cY.f H z
  have c0 := cZ.f I z
  have c1 := cC.st I z
  exact At.res (.inl z) z (.cell z (c1.runAg 0 [vi d.Scale, vu d.Zero, vi d.Pos.Offset, (Value.slice Z aa ab), vi d.Neg.Offset, (Value.slice ac ad ae)] ty30 z z z) (.cell z (cG.runAg 0 [vi e.Scale, vu e.Zero, vi e.Pos.Offset, (Value.slice af ah ai), vi e.Neg.Offset, (Value.slice aj ak al)] ty30 z z z) (.tmp z .nil))) ⟨(Value.slice Z aa ab), (Value.slice ac ad ae), (Value.slice af ah ai), (Value.slice aj ak al), z, (se_ an z z), (Sl.outF cM an low0), (Sl.outF cS an low0), (Sl.outF cW an low0), (Sl.outF c0 an low0)⟩
theorem c_fold_ends {A : Nat → Prop} {v0_1 : Value} {a0 : api_Side} {w : World} (hs0_1 : Sl Rep.u w A v0_1 a0.Counts) {r0 : Int} {r1 : Int} (h : fold_ends a0 = some (r0, r1)) : Rets Try.prog 87 [ag [vi a0.Offset, v0_1]] w (fun v w' => v = tp [vi r0, vi r1] ∧ Ext w w') := by
 unfold fold_ends at h
 refine Rets.enter Try.func87 z z ?_
 have l : Sl Rep.u w (imm (Lg.O0 A)) v0_1 a0.Counts := (Sl.start hs0_1)
 refine (show WC _ _ _ _ [(0, ag [vi a0.Offset, v0_1])] _ from ?_)
 refine sq (rg ?_)
 have o := h
 obtain ⟨D, E, F, rfl⟩ := l.shape
 have h := o
 refine WL.box (O := (Lg.O0 A)) 11 [vi a0.Offset, (Value.slice D E F)] z z z ?_
 intro I n G j p
 refine wY (ya z) z (wY (ya z) z (nl (th (sq (WC.draw 9 n fmix (by kernel_rfl) ?_)))))
 intro q d
 refine WS.y (yf fo28_0 z) z ?_
 have e := p.st d z
 refine WS.y (yl ty3 z z (e.cell 0 _ z)) z (WS.y (yf fo28_0 z) z (WS.y (yl ty3 z z (e.cell 0 _ z)) z (WS.y (yf fo28_1 z) z (WS.y (yl ty26 z z (e.cell 1 _ z)) z ?_))))
 have r := l.i j z z
 have t := r.i d z z
 refine WS.y (Y.len ty26 z t) z (WS.y (Y.add_i z z) z (WS.y (ya z) z (WS.tail ?_)))
 obtain ⟨H, m, h⟩ := lt1 h
 refine WL.yE (ya z) (congrArg vi m.symm) z (nl (th (rt ?_)))
 obtain ⟨rfl, rfl⟩ := tup2 h
 have C : Stp [] (Lg.O0 A) w n q := (tr_ (su_ j z) (su_ d z))
 exact At.res (.inl z) z (.tmp z (.tmp z .nil)) ⟨z, (se_ C z z)⟩
theorem c_fold_cover {A : Nat → Prop} {v0_1 : Value} {a0 : api_Side} {v1_1 : Value} {a1 : api_Side} {w : World} (hs0_1 : Sl Rep.u w A v0_1 a0.Counts) (hs1_1 : Sl Rep.u w A v1_1 a1.Counts) {r0 : Int} {r1 : Int} (h : fold_cover a0 a1 = some (r0, r1)) : Rets Try.prog 61 [ag [vi a0.Offset, v0_1], ag [vi a1.Offset, v1_1]] w (fun v w' => v = tp [vi r0, vi r1] ∧ Ext w w') := by
 unfold fold_cover at h
 refine Rets.enter Try.func61 z z ?_
 have E : Sl Rep.u w (imm (Lg.O0 A)) v0_1 a0.Counts := (Sl.start hs0_1)
 have W : Sl Rep.u w (imm (Lg.O0 A)) v1_1 a1.Counts := (Sl.start hs1_1)
 refine (show WC _ _ _ _ [(0, ag [vi a0.Offset, v0_1]), (1, ag [vi a1.Offset, v1_1])] _ from ?_)
 refine sq (rg ?_)
 have X := h
 obtain ⟨F, G, H, rfl⟩ := E.shape
 have h := X
 refine WL.box (O := (Lg.O0 A)) 11 [vi a0.Offset, (Value.slice F G H)] z z z ?_
 intro aM au aE e Z
 have o := W.i e z z
 have aa := h
 obtain ⟨I, J, K, rfl⟩ := o.shape
 have h := aa
 refine WL.box (O := au) 12 [vi a1.Offset, (Value.slice I J K)] z z z ?_
 intro aN n aF d p
 refine wY (ya z) z (wY (ya z) z (nl (th (sq (sq (rg (wY (yf fo28_1 z) z ?_)))))))
 have q := Z.st d z
 refine wY (yl ty26 z z (q.cell 1 _ z)) z ?_
 have ab := E.i e z z
 have r := ab.i d z z
 refine wY (Y.len ty26 z r) z (wY (Y.eql_i z z) z (nl (th ?_)))
 rcases cnd h with ⟨t, h⟩ | ⟨t, h⟩
 ·refine WC.condT' z t (sq (WC.draw 6 n fmix (by kernel_rfl) ?_))
  intro ac j
  refine WS.y (yf fo28_0 z) z ?_
  have L := p.st j z
  refine WS.y (yl ty3 z z (L.cell 0 _ z)) z (WS.y (yf fo28_1 z) z (WS.y (yl ty26 z z (L.cell 1 _ z)) z ?_))
  have ad := o.i d z z
  have ae := ad.i j z z
  refine WS.y (Y.len ty26 z ae) z (WS.y (ya z) z (WS.tail ?_))
  obtain ⟨aG, S, h⟩ := lt1 h
  refine WL.yE (ya z) (congrArg vi S.symm) z (nl (th (rt (At.thenR ?_))))
  obtain ⟨rfl, rfl⟩ := tup2 h
  have af : Stp [] (Lg.O0 A) w n ac := (tr_ (su_ e z) (tr_ (su_ d z) (su_ j z)))
  exact At.res (.inl z) z (.tmp z (.tmp z .nil)) ⟨z, (se_ af z z)⟩
 ·refine WC.condF' z t (sk (th (sq (sq (rg (wY (yf fo28_1 z) z (wY (yl ty26 z z (p.cell 1 _ z)) z ?_)))))))
  have M := o.i d z z
  refine wY (Y.len ty26 z M) z (wY (Y.eql_i z z) z (nl (th ?_)))
  rcases cnd h with ⟨C, h⟩ | ⟨C, h⟩
  ·refine WC.condT' z C (sq (WC.draw 6 n fmix (by kernel_rfl) ?_))
   intro ah l
   refine WS.y (yf fo28_0 z) z ?_
   have P := q.st l z
   refine WS.y (yl ty3 z z (P.cell 0 _ z)) z (WS.y (yf fo28_1 z) z (WS.y (yl ty26 z z (P.cell 1 _ z)) z ?_))
   have ai := r.i l z z
   refine WS.y (Y.len ty26 z ai) z (WS.y (ya z) z (WS.tail ?_))
   obtain ⟨aH, T, h⟩ := lt1 h
   refine WL.yE (ya z) (congrArg vi T.symm) z (nl (th (rt (At.thenR ?_))))
   obtain ⟨rfl, rfl⟩ := tup2 h
   have aj : Stp [] (Lg.O0 A) w n ah := (tr_ (su_ e z) (tr_ (su_ d z) (su_ l z)))
   exact At.res (.inl z) z (.tmp z (.tmp z .nil)) ⟨z, (se_ aj z z)⟩
  ·refine WC.condF' z C (sk (th (sq (rg (wY (yL ty28 z z (q.cells 0 [vi a0.Offset, (Value.slice F G H)] z) z) z ?_)))))
   obtain ⟨⟨aO, aP⟩, ak, h⟩ := bnd h
   refine WL.call (vals := [ag [vi a0.Offset, (Value.slice F G H)]]) kok87 z z (c_fold_ends (A := fun _ => True) (a0 := a0) (Sl.all r) ak) ?_
   rintro aI aJ ⟨rfl, al⟩
   obtain ⟨av, aw, ax, m⟩ := adoptE n (fun k => 1) al
   refine wY (ym z) z (wY (yx z z) z (wY (yx z z) z (wY (ya z) z (wY (ya z) z (nl (th (sq (rg ?_))))))))
   have am := p.st m z
   refine wY (yL ty28 z z (am.cells 0 [vi a1.Offset, (Value.slice I J K)] z) z) z ?_
   have an := M.i m z z
   obtain ⟨⟨aQ, aR⟩, ao, h⟩ := bnd h
   refine WL.call (vals := [ag [vi a1.Offset, (Value.slice I J K)]]) kok87 z z (c_fold_ends (A := fun _ => True) (a0 := a1) (Sl.all an) ao) ?_
   rintro aK ap ⟨rfl, aq⟩
   obtain ⟨ay, az, aA, U⟩ := adoptE av (fun k => 1) aq
   refine wY (ym z) z (wY (yx z z) z (wY (yx z z) z (wY (ya z) z (wY (ya z) z (nl (th (sq (rg (wY (ym z) z ?_)))))))))
   refine wY (ym z) z (wY (Y.min_i z z) z (wY (ym z) z (wY (ym z) z (wY (Y.max_i z z) z ?_))))
   obtain ⟨aC, D, h⟩ := lt1 h
   refine WL.yE (ya z) (congrArg vi D.symm) z ?_
   obtain ⟨aD, Q, h⟩ := lt1 h
   refine WL.yE (ya z) (congrArg vi Q.symm) z (nl (th (sq (rg (wY (ym z) z (wY (ym z) z (wY (ym z) z (wY (Y.sub_i z z) z (wY (ya z) z ?_)))))))))
   obtain ⟨aL, V, h⟩ := lt1 h
   refine WL.yE (ya z) (congrArg vi V.symm) z (nl (th (rt ?_)))
   obtain ⟨rfl, rfl⟩ := tup2 h
   have ar : Stp [] (Lg.O0 A) w ay ap := (tr_ (su_ e z) (tr_ (su_ d z) (tr_ (su_ m z) (su_ U z))))
   exact At.res (.inl z) z (.tmp z (.tmp z .nil)) ⟨z, (se_ ar z z)⟩
theorem c_hist_At {A : Nat → Prop} {v0_1 : Value} {a0 : api_Side} {a1 : Int} {w : World} (hs0_1 : Sl Rep.u w A v0_1 a0.Counts) {r0 : UInt64} (h : hist_At a0 a1 = some r0) : Rets Try.prog 62 [ag [vi a0.Offset, v0_1], vi a1] w (fun v w' => v = vu r0 ∧ Ext w w') := by
 unfold hist_At at h
 refine Rets.enter Try.func62 z z ?_
 have j : Sl Rep.u w (imm (Lg.O0 A)) v0_1 a0.Counts := (Sl.start hs0_1)
 refine (show WC _ _ _ _ [(0, ag [vi a0.Offset, v0_1]), (1, vi a1)] _ from ?_)
 refine sq (rg ?_)
 have C := h
 obtain ⟨M, P, Q, rfl⟩ := j.shape
 have h := C
 refine WL.box (O := (Lg.O0 A)) 11 [vi a0.Offset, (Value.slice M P Q)] z z z ?_
 intro r t l d e
 refine wY (ya (v := vu 0) z) z (nl (th (sq (sq (rg (wY (ym z) z (wY (yf fo28_0 z) z (wY (yl ty3 z z (e.cell 0 _ z)) z (wY (Y.lss_i z z) z ?_)))))))))
 refine wY (ym z) z ?_
 refine WL.cut 12 (σ := Unit) (fun _ w' => l = w') (fun _ => [(1, vi a1), (2, pt r 0), (21, vB ((decide (a1 < a0.Offset)) || (decide (toU64 (a0.Counts.length : Int) ≤ ((toU64 a1) - (toU64 a0.Offset))))))]) ?_ ?_
 ·refine WL.part 9 z (fun m => ?_) (fun m => ?_)
  ·refine WL.gS z z z z (WL.gS z z z z (WL.gS z z z z (WL.gS z z z z (WL.gS z z z z (WL.gS z z z z (WL.gS z z z z (WL.gS z z z z (WL.gS z z z z (WL.gS z z z z ?_)))))))))
   refine WL.gS z z z z (wY (Y.pick (b := true) z z) z (WL.ren (v' := vB ((decide (a1 < a0.Offset)) || (decide (toU64 (a0.Counts.length : Int) ≤ ((toU64 a1) - (toU64 a0.Offset)))))) 21 z (congrArg vB (orT m)) ?_))
   exact nl (At.join () z (.cons z (.cons z (.cons z .nil))))
  ·refine ug z z (wY (ym z) z (ug z z (wY (Y.conv_iu ty3.u ty25.u z) z (ug z z (wY (yf fo28_0 z) z (ug z z (wY (yl ty3 z z (e.cell 0 _ z)) z (ug z z (wY (Y.conv_iu ty3.u ty25.u z) z ?_)))))))))
   refine ug z z (wY (Y.sub_u z z) z (ug z z (wY (yf fo28_1 z) z (ug z z (wY (yl ty26 z z (e.cell 1 _ z)) z (ug z z ?_))))))
   have D := j.i d z z
   refine wY (Y.len ty26 z D) z (ug z z (wY (Y.conv_iu ty3.u ty25.u z) z (ug z z (wY (Y.geq_u z z) z (wY (Y.pick (b := false) z z) z (WL.ren (v' := vB ((decide (a1 < a0.Offset)) || (decide (toU64 (a0.Counts.length : Int) ≤ ((toU64 a1) - (toU64 a0.Offset)))))) 21 z (congrArg vB (orF m)) ?_))))))
   exact nl (At.join () z (.cons z (.cons z (.cons z .nil))))
 ·rintro _ _ rfl
  refine (show WL _ _ _ _ _ [(1, vi a1), (2, pt r 0), (21, vB ((decide (a1 < a0.Offset)) || (decide (toU64 (a0.Counts.length : Int) ≤ ((toU64 a1) - (toU64 a0.Offset))))))] _ from ?_)
  refine nl (th ?_)
  rcases cnd h with ⟨n, h⟩ | ⟨n, h⟩
  ·refine WC.condT' z n (sq (rg (wY (ya (v := vu 0) z) z (nl (th (rt (At.thenR ?_)))))))
   obtain rfl := some1 h
   have E : Stp [] (Lg.O0 A) w t l := (su_ d z)
   exact At.res (.inl z) z (.tmp z .nil) ⟨z, (se_ E z z)⟩
  ·refine WC.condF' z n (sk (th (sq (rg (wY (yf fo28_1 z) z (wY (yl ty26 z z (e.cell 1 _ z)) z (wY (ym z) z (wY (yf fo28_0 z) z (wY (yl ty3 z z (e.cell 0 _ z)) z ?_)))))))))
   refine wY (Y.sub_i z z) z ?_
   obtain ⟨S, F, h⟩ := bnd h
   have G := j.i d z z
   obtain ⟨W, T, U, V, H, I, J, o, p, K⟩ := Sl.at2 G F
   obtain rfl := p
   replace o : CellsAt _ _ _ [vu S] := o
   have q := CAt.imm o K
   refine wY (Y.indexAddr ty26 ty25 z H z I J) z (wY (yl ty25 z z q.at_) z (wY (ya z) z (nl (th (rt ?_)))))
   obtain rfl := some1 h
   have L : Stp [] (Lg.O0 A) w t l := (su_ d z)
   exact At.res (.inl z) z (.tmp z .nil) ⟨z, (se_ L z z)⟩
end Go.Lg
