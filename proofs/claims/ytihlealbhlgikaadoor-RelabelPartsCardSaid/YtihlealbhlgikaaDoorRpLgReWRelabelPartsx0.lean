/- The walks of RelabelParts and of what it calls, printed by gen.py. -/
import Derived.Test.YtihlealbhlgikaaDoorRpLgPart0
import Derived.Test.YtihlealbhlgikaaDoorRpLgPart1
import Derived.Test.YtihlealbhlgikaaDoorProg
set_option linter.unusedVariables false
namespace Go.Lg
open Go Go.Proofs
set_option maxRecDepth 100000
set_option maxHeartbeats 4000000
abbrev cp (p : api_Point) (a b c : Value) : List Value := [vs p.Name, a, vi p.Kind, vi p.Temp, .bool p.Mono, vi p.Start, vi p.Time, vi p.Int_, vu p.Re, vu p.Im, vi p.Hist.Scale, vu p.Hist.Zero, vi p.Hist.Pos.Offset, b, vi p.Hist.Neg.Offset, c, vi p.Flags]
abbrev hl (h : api_Hist) (a b : Value) : List Value := [vi h.Scale, vu h.Zero, vi h.Pos.Offset, a, vi h.Neg.Offset, b]
abbrev hzr : List Value := [vi 0, vu 0, vi 0, sn, vi 0, sn]
theorem fmix : Tryd.prog.follows .mixedOrders = true := by kernel_rfl
theorem ty3 : TyOk Tryd.prog 3 (.int .i64) 1 8 (.int .i64 0) := tyOk Tryd.underlying3 (by kernel_rfl)
theorem ty4 : TyOk Tryd.prog 4 .bool 1 1 (.bool false) := tyOk Tryd.underlying4 (by kernel_rfl)
theorem ty5 : TyOk Tryd.prog 5 (.int .u8) 1 1 (.int .u8 0) := tyOk Tryd.underlying5 (by kernel_rfl)
theorem ty9 : TyOk Tryd.prog 9 .string 1 16 (.string ⟨#[]⟩) := tyOk Tryd.underlying9 (by kernel_rfl)
theorem ty22 : TyOk Tryd.prog 22 (.slice 28) 1 24 (.slice none 0 0) := tyOk Tryd.underlying22 (by kernel_rfl)
theorem ty25 : TyOk Tryd.prog 25 (.int .i64) 1 8 (.int .i64 0) := tyOk Tryd.underlying25 (by kernel_rfl)
theorem ty28 : TyOk Tryd.prog 28 (.struct #[(Field.mk "Kind" 3 0 false "" "" 0), (Field.mk "Key" 9 1 false "" "" 8), (Field.mk "Glob" 9 2 false "" "" 24), (Field.mk "To" 9 3 false "" "" 40), (Field.mk "Val" 9 4 false "" "" 56)]) 5 72 (.agg #[(.int .i64 0), (.string ⟨#[]⟩), (.string ⟨#[]⟩), (.string ⟨#[]⟩), (.string ⟨#[]⟩)]) := tyOk Tryd.underlying28 (by kernel_rfl)
theorem ty29 : TyOk Tryd.prog 29 (.pointer 71) 1 8 (.pointer none) := tyOk Tryd.underlying29 (by kernel_rfl)
theorem ty33 : TyOk Tryd.prog 33 (.slice 59) 1 24 (.slice none 0 0) := tyOk Tryd.underlying33 (by kernel_rfl)
theorem ty34 : TyOk Tryd.prog 34 (.int .u64) 1 8 (.int .u64 0) := tyOk Tryd.underlying34 (by kernel_rfl)
theorem ty35 : TyOk Tryd.prog 35 (.slice 34) 1 24 (.slice none 0 0) := tyOk Tryd.underlying35 (by kernel_rfl)
theorem ty37 : TyOk Tryd.prog 37 (.struct #[(Field.mk "Offset" 3 0 false "" "" 0), (Field.mk "Counts" 35 1 false "" "" 8)]) 2 32 (.agg #[(.int .i64 0), (.slice none 0 0)]) := tyOk Tryd.underlying37 (by kernel_rfl)
theorem ty39 : TyOk Tryd.prog 39 (.struct #[(Field.mk "Scale" 3 0 false "" "" 0), (Field.mk "Zero" 34 1 false "" "" 8), (Field.mk "Pos" 37 2 false "" "" 16), (Field.mk "Neg" 37 4 false "" "" 48)]) 6 80 (.agg #[(.int .i64 0), (.int .u64 0), (.int .i64 0), (.slice none 0 0), (.int .i64 0), (.slice none 0 0)]) := tyOk Tryd.underlying39 (by kernel_rfl)
theorem ty41 : TyOk Tryd.prog 41 (.struct #[(Field.mk "Name" 9 0 false "" "" 0), (Field.mk "Attrs" 33 1 false "" "" 16), (Field.mk "Kind" 3 2 false "" "" 40), (Field.mk "Temp" 3 3 false "" "" 48), (Field.mk "Mono" 4 4 false "" "" 56), (Field.mk "Start" 3 5 false "" "" 64), (Field.mk "Time" 3 6 false "" "" 72), (Field.mk "Int" 3 7 false "" "" 80), (Field.mk "Re" 34 8 false "" "" 88), (Field.mk "Im" 34 9 false "" "" 96), (Field.mk "Hist" 39 10 false "" "" 104), (Field.mk "Flags" 3 16 false "" "" 184)]) 17 192 (.agg #[(.string ⟨#[]⟩), (.slice none 0 0), (.int .i64 0), (.int .i64 0), (.bool false), (.int .i64 0), (.int .i64 0), (.int .i64 0), (.int .u64 0), (.int .u64 0), (.int .i64 0), (.int .u64 0), (.int .i64 0), (.slice none 0 0), (.int .i64 0), (.slice none 0 0), (.int .i64 0)]) := tyOk Tryd.underlying41 (by kernel_rfl)
theorem ty59 : TyOk Tryd.prog 59 (.struct #[(Field.mk "Key" 9 0 false "" "" 0), (Field.mk "Val" 9 1 false "" "" 16)]) 2 32 (.agg #[(.string ⟨#[]⟩), (.string ⟨#[]⟩)]) := tyOk Tryd.underlying59 (by kernel_rfl)
theorem ty66 : TyOk Tryd.prog 66 (.pointer 96) 1 8 (.pointer none) := tyOk Tryd.underlying66 (by kernel_rfl)
theorem ty69 : TyOk Tryd.prog 69 (.slice 73) 1 24 (.slice none 0 0) := tyOk Tryd.underlying69 (by kernel_rfl)
theorem ty73 : TyOk Tryd.prog 73 (.struct #[(Field.mk "Rule" 28 0 true "" "" 0), (Field.mk "g" 66 5 false "" "limnograph/relabel" 72)]) 6 80 (.agg #[(.int .i64 0), (.string ⟨#[]⟩), (.string ⟨#[]⟩), (.string ⟨#[]⟩), (.string ⟨#[]⟩), (.pointer none)]) := tyOk Tryd.underlying73 (by kernel_rfl)
theorem ty94 : TyOk Tryd.prog 94 (.slice 100) 1 24 (.slice none 0 0) := tyOk Tryd.underlying94 (by kernel_rfl)
theorem ty98 : TyOk Tryd.prog 98 (.array 4 34) 4 32 (.agg #[(.int .u64 0), (.int .u64 0), (.int .u64 0), (.int .u64 0)]) := tyOk Tryd.underlying98 (by kernel_rfl)
theorem ty100 : TyOk Tryd.prog 100 (.struct #[(Field.mk "kind" 3 0 false "" "limnograph/glob" 0), (Field.mk "set" 98 1 false "" "limnograph/glob" 8), (Field.mk "plain" 4 5 false "" "limnograph/glob" 40), (Field.mk "c" 5 6 false "" "limnograph/glob" 41)]) 7 48 (.agg #[(.int .i64 0), (.int .u64 0), (.int .u64 0), (.int .u64 0), (.int .u64 0), (.bool false), (.int .u8 0)]) := tyOk Tryd.underlying100 (by kernel_rfl)
theorem ty102 : TyOk Tryd.prog 102 (.struct #[(Field.mk "at" 3 0 false "" "limnograph/glob" 0), (Field.mk "e" 25 1 false "" "limnograph/glob" 8)]) 2 16 (.agg #[(.int .i64 0), (.int .i64 0)]) := tyOk Tryd.underlying102 (by kernel_rfl)
theorem ty125 : TyOk Tryd.prog 125 (.array 2 37) 4 64 (.agg #[(.int .i64 0), (.slice none 0 0), (.int .i64 0), (.slice none 0 0)]) := tyOk Tryd.underlying125 (by kernel_rfl)
theorem ty137 : TyOk Tryd.prog 137 (.slice 5) 1 24 (.slice none 0 0) := tyOk Tryd.underlying137 (by kernel_rfl)
theorem ty143 : TyOk Tryd.prog 143 (.int .u64) 1 8 (.int .u64 0) := tyOk Tryd.underlying143 (by kernel_rfl)
theorem fo28_0 : FieldOk Tryd.prog 28 0 0 := fieldOk Tryd.underlying28 rfl rfl (by kernel_rfl)
theorem fo28_1 : FieldOk Tryd.prog 28 1 1 := fieldOk Tryd.underlying28 rfl rfl (by kernel_rfl)
theorem fo28_2 : FieldOk Tryd.prog 28 2 2 := fieldOk Tryd.underlying28 rfl rfl (by kernel_rfl)
theorem fo28_3 : FieldOk Tryd.prog 28 3 3 := fieldOk Tryd.underlying28 rfl rfl (by kernel_rfl)
theorem fo28_4 : FieldOk Tryd.prog 28 4 4 := fieldOk Tryd.underlying28 rfl rfl (by kernel_rfl)
theorem fo37_0 : FieldOk Tryd.prog 37 0 0 := fieldOk Tryd.underlying37 rfl rfl (by kernel_rfl)
theorem fo37_1 : FieldOk Tryd.prog 37 1 1 := fieldOk Tryd.underlying37 rfl rfl (by kernel_rfl)
theorem fo39_0 : FieldOk Tryd.prog 39 0 0 := fieldOk Tryd.underlying39 rfl rfl (by kernel_rfl)
theorem fo39_1 : FieldOk Tryd.prog 39 1 1 := fieldOk Tryd.underlying39 rfl rfl (by kernel_rfl)
theorem fo39_2 : FieldOk Tryd.prog 39 2 2 := fieldOk Tryd.underlying39 rfl rfl (by kernel_rfl)
theorem fo39_3 : FieldOk Tryd.prog 39 3 4 := fieldOk Tryd.underlying39 rfl rfl (by kernel_rfl)
theorem fo41_0 : FieldOk Tryd.prog 41 0 0 := fieldOk Tryd.underlying41 rfl rfl (by kernel_rfl)
theorem fo41_1 : FieldOk Tryd.prog 41 1 1 := fieldOk Tryd.underlying41 rfl rfl (by kernel_rfl)
theorem fo41_2 : FieldOk Tryd.prog 41 2 2 := fieldOk Tryd.underlying41 rfl rfl (by kernel_rfl)
theorem fo41_3 : FieldOk Tryd.prog 41 3 3 := fieldOk Tryd.underlying41 rfl rfl (by kernel_rfl)
theorem fo41_4 : FieldOk Tryd.prog 41 4 4 := fieldOk Tryd.underlying41 rfl rfl (by kernel_rfl)
theorem fo41_5 : FieldOk Tryd.prog 41 5 5 := fieldOk Tryd.underlying41 rfl rfl (by kernel_rfl)
theorem fo41_6 : FieldOk Tryd.prog 41 6 6 := fieldOk Tryd.underlying41 rfl rfl (by kernel_rfl)
theorem fo41_7 : FieldOk Tryd.prog 41 7 7 := fieldOk Tryd.underlying41 rfl rfl (by kernel_rfl)
theorem fo41_8 : FieldOk Tryd.prog 41 8 8 := fieldOk Tryd.underlying41 rfl rfl (by kernel_rfl)
theorem fo41_9 : FieldOk Tryd.prog 41 9 9 := fieldOk Tryd.underlying41 rfl rfl (by kernel_rfl)
theorem fo41_10 : FieldOk Tryd.prog 41 10 10 := fieldOk Tryd.underlying41 rfl rfl (by kernel_rfl)
theorem fo41_11 : FieldOk Tryd.prog 41 11 16 := fieldOk Tryd.underlying41 rfl rfl (by kernel_rfl)
theorem fo59_0 : FieldOk Tryd.prog 59 0 0 := fieldOk Tryd.underlying59 rfl rfl (by kernel_rfl)
theorem fo59_1 : FieldOk Tryd.prog 59 1 1 := fieldOk Tryd.underlying59 rfl rfl (by kernel_rfl)
theorem fo71_0 : FieldOk Tryd.prog 71 0 0 := fieldOk Tryd.underlying71 rfl rfl (by kernel_rfl)
theorem fo73_0 : FieldOk Tryd.prog 73 0 0 := fieldOk Tryd.underlying73 rfl rfl (by kernel_rfl)
theorem fo73_1 : FieldOk Tryd.prog 73 1 5 := fieldOk Tryd.underlying73 rfl rfl (by kernel_rfl)
theorem fo96_1 : FieldOk Tryd.prog 96 1 1 := fieldOk Tryd.underlying96 rfl rfl (by kernel_rfl)
theorem fo100_0 : FieldOk Tryd.prog 100 0 0 := fieldOk Tryd.underlying100 rfl rfl (by kernel_rfl)
theorem fo100_1 : FieldOk Tryd.prog 100 1 1 := fieldOk Tryd.underlying100 rfl rfl (by kernel_rfl)
theorem fo102_0 : FieldOk Tryd.prog 102 0 0 := fieldOk Tryd.underlying102 rfl rfl (by kernel_rfl)
theorem fo102_1 : FieldOk Tryd.prog 102 1 1 := fieldOk Tryd.underlying102 rfl rfl (by kernel_rfl)
theorem agok59 : AgOk Tryd.prog 59 #[(Field.mk "Key" 9 0 false "" "" 0), (Field.mk "Val" 9 1 false "" "" 16)] := ⟨Tryd.underlying59, by kernel_rfl, by kernel_rfl⟩
theorem agok102 : AgOk Tryd.prog 102 #[(Field.mk "at" 3 0 false "" "limnograph/glob" 0), (Field.mk "e" 25 1 false "" "limnograph/glob" 8)] := ⟨Tryd.underlying102, by kernel_rfl, by kernel_rfl⟩
theorem x64_96 : X64 Tryd.prog 96 := x64 Tryd.func96 (by kernel_rfl) rfl (by kernel_rfl) (by kernel_rfl)
theorem xfrom_95 : XFrom Tryd.prog 95 := xfrom Tryd.func95 (by kernel_rfl) rfl (by kernel_rfl) (by kernel_rfl)
theorem kok7 : CallOk Tryd.prog 7 := callOk Tryd.func7 (by kernel_rfl) rfl
theorem kok8 : CallOk Tryd.prog 8 := callOk Tryd.func8 (by kernel_rfl) rfl
theorem kok10 : CallOk Tryd.prog 10 := callOk Tryd.func10 (by kernel_rfl) rfl
theorem kok11 : CallOk Tryd.prog 11 := callOk Tryd.func11 (by kernel_rfl) rfl
theorem kok12 : CallOk Tryd.prog 12 := callOk Tryd.func12 (by kernel_rfl) rfl
theorem kok13 : CallOk Tryd.prog 13 := callOk Tryd.func13 (by kernel_rfl) rfl
theorem kok14 : CallOk Tryd.prog 14 := callOk Tryd.func14 (by kernel_rfl) rfl
theorem kok16 : CallOk Tryd.prog 16 := callOk Tryd.func16 (by kernel_rfl) rfl
theorem kok17 : CallOk Tryd.prog 17 := callOk Tryd.func17 (by kernel_rfl) rfl
theorem kok20 : CallOk Tryd.prog 20 := callOk Tryd.func20 (by kernel_rfl) rfl
theorem kok21 : CallOk Tryd.prog 21 := callOk Tryd.func21 (by kernel_rfl) rfl
theorem kok22 : CallOk Tryd.prog 22 := callOk Tryd.func22 (by kernel_rfl) rfl
theorem kok26 : CallOk Tryd.prog 26 := callOk Tryd.func26 (by kernel_rfl) rfl
theorem kok27 : CallOk Tryd.prog 27 := callOk Tryd.func27 (by kernel_rfl) rfl
theorem kok28 : CallOk Tryd.prog 28 := callOk Tryd.func28 (by kernel_rfl) rfl
theorem kok29 : CallOk Tryd.prog 29 := callOk Tryd.func29 (by kernel_rfl) rfl
theorem kok30 : CallOk Tryd.prog 30 := callOk Tryd.func30 (by kernel_rfl) rfl
theorem kok31 : CallOk Tryd.prog 31 := callOk Tryd.func31 (by kernel_rfl) rfl
theorem kok32 : CallOk Tryd.prog 32 := callOk Tryd.func32 (by kernel_rfl) rfl
theorem kok33 : CallOk Tryd.prog 33 := callOk Tryd.func33 (by kernel_rfl) rfl
theorem kok34 : CallOk Tryd.prog 34 := callOk Tryd.func34 (by kernel_rfl) rfl
theorem kok43 : CallOk Tryd.prog 43 := callOk Tryd.func43 (by kernel_rfl) rfl
theorem kok44 : CallOk Tryd.prog 44 := callOk Tryd.func44 (by kernel_rfl) rfl
theorem kok48 : CallOk Tryd.prog 48 := callOk Tryd.func48 (by kernel_rfl) rfl
theorem kok49 : CallOk Tryd.prog 49 := callOk Tryd.func49 (by kernel_rfl) rfl
theorem kok50 : CallOk Tryd.prog 50 := callOk Tryd.func50 (by kernel_rfl) rfl
theorem kok51 : CallOk Tryd.prog 51 := callOk Tryd.func51 (by kernel_rfl) rfl
theorem kok52 : CallOk Tryd.prog 52 := callOk Tryd.func52 (by kernel_rfl) rfl
theorem kok53 : CallOk Tryd.prog 53 := callOk Tryd.func53 (by kernel_rfl) rfl
theorem kok54 : CallOk Tryd.prog 54 := callOk Tryd.func54 (by kernel_rfl) rfl
theorem kok55 : CallOk Tryd.prog 55 := callOk Tryd.func55 (by kernel_rfl) rfl
theorem kok56 : CallOk Tryd.prog 56 := callOk Tryd.func56 (by kernel_rfl) rfl
theorem kok57 : CallOk Tryd.prog 57 := callOk Tryd.func57 (by kernel_rfl) rfl
theorem kok58 : CallOk Tryd.prog 58 := callOk Tryd.func58 (by kernel_rfl) rfl
theorem kok59 : CallOk Tryd.prog 59 := callOk Tryd.func59 (by kernel_rfl) rfl
theorem kok60 : CallOk Tryd.prog 60 := callOk Tryd.func60 (by kernel_rfl) rfl
theorem kok61 : CallOk Tryd.prog 61 := callOk Tryd.func61 (by kernel_rfl) rfl
theorem kok66 : CallOk Tryd.prog 66 := callOk Tryd.func66 (by kernel_rfl) rfl
theorem kok69 : CallOk Tryd.prog 69 := callOk Tryd.func69 (by kernel_rfl) rfl
theorem kok70 : CallOk Tryd.prog 70 := callOk Tryd.func70 (by kernel_rfl) rfl
theorem kok71 : CallOk Tryd.prog 71 := callOk Tryd.func71 (by kernel_rfl) rfl
theorem kok72 : CallOk Tryd.prog 72 := callOk Tryd.func72 (by kernel_rfl) rfl
theorem kok73 : CallOk Tryd.prog 73 := callOk Tryd.func73 (by kernel_rfl) rfl
theorem kok74 : CallOk Tryd.prog 74 := callOk Tryd.func74 (by kernel_rfl) rfl
theorem kok75 : CallOk Tryd.prog 75 := callOk Tryd.func75 (by kernel_rfl) rfl
theorem kok76 : CallOk Tryd.prog 76 := callOk Tryd.func76 (by kernel_rfl) rfl
theorem kok77 : CallOk Tryd.prog 77 := callOk Tryd.func77 (by kernel_rfl) rfl
theorem kok78 : CallOk Tryd.prog 78 := callOk Tryd.func78 (by kernel_rfl) rfl
theorem kok79 : CallOk Tryd.prog 79 := callOk Tryd.func79 (by kernel_rfl) rfl
theorem kok80 : CallOk Tryd.prog 80 := callOk Tryd.func80 (by kernel_rfl) rfl
theorem kok81 : CallOk Tryd.prog 81 := callOk Tryd.func81 (by kernel_rfl) rfl
theorem kok82 : CallOk Tryd.prog 82 := callOk Tryd.func82 (by kernel_rfl) rfl
theorem kok83 : CallOk Tryd.prog 83 := callOk Tryd.func83 (by kernel_rfl) rfl
theorem kok84 : CallOk Tryd.prog 84 := callOk Tryd.func84 (by kernel_rfl) rfl
theorem kok85 : CallOk Tryd.prog 85 := callOk Tryd.func85 (by kernel_rfl) rfl
theorem kok86 : CallOk Tryd.prog 86 := callOk Tryd.func86 (by kernel_rfl) rfl
theorem kok87 : CallOk Tryd.prog 87 := callOk Tryd.func87 (by kernel_rfl) rfl
theorem kok88 : CallOk Tryd.prog 88 := callOk Tryd.func88 (by kernel_rfl) rfl
theorem kok90 : CallOk Tryd.prog 90 := callOk Tryd.func90 (by kernel_rfl) rfl
theorem kok91 : CallOk Tryd.prog 91 := callOk Tryd.func91 (by kernel_rfl) rfl
theorem kok92 : CallOk Tryd.prog 92 := callOk Tryd.func92 (by kernel_rfl) rfl
theorem kok93 : CallOk Tryd.prog 93 := callOk Tryd.func93 (by kernel_rfl) rfl
theorem kok94 : CallOk Tryd.prog 94 := callOk Tryd.func94 (by kernel_rfl) rfl
theorem kok97 : CallOk Tryd.prog 97 := callOk Tryd.func97 (by kernel_rfl) rfl
theorem kok98 : CallOk Tryd.prog 98 := callOk Tryd.func98 (by kernel_rfl) rfl
theorem kok99 : CallOk Tryd.prog 99 := callOk Tryd.func99 (by kernel_rfl) rfl
theorem kok100 : CallOk Tryd.prog 100 := callOk Tryd.func100 (by kernel_rfl) rfl
theorem c_glob_closed {a0 : List UInt8} {a1 : Int} {w : World} {r0 : Bool} (h : glob_closed a0 a1 = some r0) : Rets Tryd.prog 91 [vs a0, vi a1] w (fun v w' => v = vB r0 ∧ Ext w w') := by
 unfold glob_closed at h
 refine Rets.enter Tryd.func91 z z ?_
 refine (show WC _ _ _ _ [(0, vs a0), (1, vi a1)] _ from ?_)
 refine sq (rg (wY (ya z) z (nl (th (sq ?_)))))
 obtain ⟨Z, h, I⟩ := bnd h
 refine WC.join (σ := Int) (fun x w' => x = Z ∧ w = w') (fun x => [(0, vs a0), (1, vi x)]) ?_ ?_
 ·refine WC.block ?_
  obtain ⟨G, h, J⟩ := flow1 h
  obtain ⟨H, h⟩ := loop_some h
  refine WC.joinB 0 (σ := Int) (fun x w' => G = .go x ∧ w = w') (fun x => [(0, vs a0), (1, vi x)]) ?_ ?_
  ·refine WC.loop (σ := Int) (fun x k w' => loopN k (glob_closed_lp1 a0) x = some G ∧ w = w') (fun x => [(0, vs a0), (1, vi x)]) a1 H (.cons z (.cons z .nil)) ⟨h, z⟩ ?_
   rintro j H _ ⟨h, rfl⟩
   obtain ⟨aa, ah, rfl, h, t⟩ := rnd1 h
   unfold glob_closed_lp1 at h
   try dsimp only at h
   refine (show WC _ _ _ _ [(0, vs a0), (1, vi j)] _ from ?_)
   refine sq (sq (rg (wY (ym z) z (wY (ym z) z (wY (Y.len_s ty9 z) z (wY (Y.lss_i z z) z (wY (ym z) z ?_)))))))
   obtain ⟨ab, h, K⟩ := bnd h
   refine WL.cut 5 (σ := Bool) (fun x w' => x = ab ∧ w = w') (fun x => [(0, vs a0), (1, vi j), (14, vB x)]) ?_ ?_
   ·rcases cnd h with ⟨m, h⟩ | ⟨m, h⟩
    ·refine WL.ren 9 z (congrArg vB m) (ug z z (wY (ym z) z (ug z z (wY (ym z) z (ug z z ?_)))))
     obtain ⟨ac, L, h⟩ := bnd h
     refine wY (Y.index_s ty9 z z L) z (ug z z (wY (Y.neq_b (b := 93) z z) z (wY (Y.pick (b := true) z z) z ?_)))
     exact nl (At.join (σ := Bool) (!decide (ac = 93)) ⟨some1 h, z⟩ (.cons z (.cons z (.cons z .nil))))
    ·refine WL.ren 9 z (congrArg vB m) (WL.gS z z z z (WL.gS z z z z (WL.gS z z z z (WL.gS z z z z (wY (Y.pick (b := false) z z) z ?_)))))
     exact nl (At.join (σ := Bool) false ⟨some1 h, z⟩ (.cons z (.cons z (.cons z .nil))))
   ·rintro ad _ ⟨rfl, rfl⟩
    replace h := K
    try dsimp only at h
    refine (show WL _ _ _ _ _ [(0, vs a0), (1, vi j), (14, vB ad)] _ from ?_)
    refine nl (th ?_)
    rcases cnd h with ⟨o, h⟩ | ⟨o, h⟩
    ·refine WC.condT' z o (sk (th ?_))
     obtain ⟨ae, h, M⟩ := bnd h
     refine WC.join (σ := Int) (fun x w' => x = ae ∧ w = w') (fun x => [(0, vs a0), (1, vi x)]) ?_ ?_
     ·refine WC.block (sq ?_)
      obtain ⟨af, h, P⟩ := bnd h
      refine WC.join (σ := Int) (fun x w' => x = af ∧ w = w') (fun x => [(0, vs a0), (1, vi x)]) ?_ ?_
      ·refine sq (rg (wY (ym z) z (wY (ym z) z ?_)))
       obtain ⟨ai, Q, h⟩ := bnd h
       refine wY (Y.index_s ty9 z z Q) z (wY (Y.eql_b (b := 92) z z) z (nl (th ?_)))
       rcases cnd h with ⟨r, h⟩ | ⟨r, h⟩
       ·refine WC.condT' z r (rg (wY (ym z) z (wY (Y.add_i z z) z ?_)))
        obtain ⟨S, E, h⟩ := lt1 h
        refine WL.yE (ya z) (congrArg vi E.symm) z (nl ?_)
        exact At.join (σ := Int) S ⟨some1 h, z⟩ (.cons z (.cons z .nil))
       ·refine WC.condF' z r (sk ?_)
        exact At.join (σ := Int) j ⟨some1 h, z⟩ (.cons z (.cons z .nil))
      ·rintro T _ ⟨rfl, rfl⟩
       replace h := P
       try dsimp only at h
       refine (show At _ _ _ [(0, vs a0), (1, vi T)] _ from ?_)
       refine th (rg (wY (ym z) z (wY (Y.add_i z z) z ?_)))
       obtain ⟨U, F, h⟩ := lt1 h
       refine WL.yE (ya z) (congrArg vi F.symm) z (nl (At.inBlock ?_))
       exact At.join (σ := Int) U ⟨some1 h, z⟩ (.cons z (.cons z .nil))
     ·rintro C _ ⟨rfl, rfl⟩
      replace h := M
      try dsimp only at h
      refine (show At _ _ _ [(0, vs a0), (1, vi C)] _ from ?_)
      exact At.round C aa (Nat.lt_succ_self _) ⟨next1 h t, z⟩ (.cons z (.cons z .nil))
    ·refine WC.condF' z o (WC.exit (At.thenX (At.loopX ?_)))
     exact At.hitB (σ := Int) j ⟨brk1 h t, z⟩ (.cons z (.cons z .nil))
  ·rintro D _ ⟨rfl, rfl⟩
   replace h := flowK_go J
   try dsimp only at h
   refine (show At _ _ _ [(0, vs a0), (1, vi D)] _ from ?_)
   refine At.inBlockHit ?_
   exact At.join (σ := Int) D ⟨some1 h, z⟩ (.cons z (.cons z .nil))
 ·rintro V _ ⟨rfl, rfl⟩
  replace h := I
  try dsimp only at h
  refine (show At _ _ _ [(0, vs a0), (1, vi V)] _ from ?_)
  refine th (sq (rg (wY (ym z) z (wY (ym z) z (wY (Y.len_s ty9 z) z (wY (Y.lss_i z z) z ?_))))))
  obtain ⟨aj, W, h⟩ := lt1 h
  refine WL.yE (ya z) (congrArg vB W.symm) z (nl (th (rt ?_)))
  obtain rfl := some1 h
  have X : Stp [] (Lg.O0 (fun _ => False)) w (Lg.O0 (fun _ => False)) w := (sr_ _ _ _)
  exact At.res (.inl z) z (.tmp z .nil) ⟨z, (se_ X z z)⟩
theorem c_glob_member {a0 : List UInt8} {a1 : Int} {w : World} {r0 : UInt8} {r1 : Int} (h : glob_member a0 a1 = some (r0, r1)) : Rets Tryd.prog 92 [vs a0, vi a1] w (fun v w' => v = tp [vb r0, vi r1] ∧ Ext w w') := by
 unfold glob_member at h
 refine Rets.enter Tryd.func92 z z ?_
 refine (show WC _ _ _ _ [(0, vs a0), (1, vi a1)] _ from ?_)
 refine sq (rg (wY (ya (v := vb 0) z) z (wY (ya z) z (nl (th (sq (sq (rg (wY (ym z) z ?_)))))))))
 refine wY (ym z) z ?_
 obtain ⟨D, m, h⟩ := bnd h
 refine wY (Y.index_s ty9 z z m) z (wY (Y.eql_b (b := 92) z z) z (nl (th ?_)))
 rcases cnd h with ⟨j, h⟩ | ⟨j, h⟩
 ·refine WC.condT' z j (sq (rg (wY (ym z) z (wY (ym z) z (wY (Y.add_i z z) z ?_)))))
  obtain ⟨E, o, h⟩ := bnd h
  refine wY (Y.index_s ty9 z z o) z (wY (ya z) z (wY (ya z) z (nl (th (rt (At.thenR ?_))))))
  obtain ⟨rfl, rfl⟩ := tup2 h
  have r : Stp [] (Lg.O0 (fun _ => False)) w (Lg.O0 (fun _ => False)) w := (sr_ _ _ _)
  exact At.res (.inl z) z (.tmp z (.tmp z .nil)) ⟨z, (se_ r z z)⟩
 ·refine WC.condF' z j (sk (th (sq (rg (wY (ym z) z (wY (ym z) z ?_))))))
  obtain ⟨F, t, h⟩ := bnd h
  refine wY (Y.index_s ty9 z z t) z (wY (ya z) z (wY (ya z) z (nl (th (rt ?_)))))
  obtain ⟨rfl, rfl⟩ := tup2 h
  have C : Stp [] (Lg.O0 (fun _ => False)) w (Lg.O0 (fun _ => False)) w := (sr_ _ _ _)
  exact At.res (.inl z) z (.tmp z (.tmp z .nil)) ⟨z, (se_ C z z)⟩
theorem c_glob_class {A : Nat → Prop} {a0 : List UInt8} {a1 : Int} {w : World} (hG0 : CellsAt w 0 0 [vi 0, vi 0]) (hGA0 : A 0) {r0 : glob_piece} {r1 : Int} {r2 : glob_fault} (h : glob_class a0 a1 = some (r0, r1, r2)) : Rets Tryd.prog 70 [vs a0, vi a1] w (fun v w' => v = Value.tuple (List.toArray [ag [vi r0.kind, vu r0.set.a0, vu r0.set.a1, vu r0.set.a2, vu r0.set.a3, vB r0.plain, vb r0.c], vi r1, ag [vi r2.at_, vi r2.e]]) ∧ Ext w w') := by
 unfold glob_class at h
 refine Rets.enter Tryd.func70 z z ?_
 have ed : CAt [0, 1] (Lg.O0 A) w 0 0 [vi 0, vi 0] := CAt.glob hG0 (if_pos hGA0)
 refine (show WC _ _ _ _ [(0, vs a0), (1, vi a1)] _ from ?_)
 refine sq (rg (WL.alloc (O := (Lg.O0 A)) 11 [vi 0, vu 0, vu 0, vu 0, vu 0, vB false, vb 0] ty100 z z ?_))
 intro r fx gg aa an
 refine wY (ya z) z (WL.alloc (O := fx) 12 [vi 0, vi 0] ty102 z z ?_)
 intro t fy gh E ao
 refine nl (th (sq (rg (WL.alloc (O := fy) 13 [vi 0, vu 0, vu 0, vu 0, vu 0, vB false, vb 0] ty100 z z ?_))))
 intro j fz b2 o b3
 refine nl (th (sq (rg (wY (ym z) z (wY (Y.add_i z z) z ?_)))))
 obtain ⟨bq, cm, h⟩ := lt1 h
 refine WL.yE (ya z) (congrArg vi cm.symm) z (nl (th (sq (rg (wY (ym z) z (wY (ym z) z (wY (Y.len_s ty9 z) z (wY (Y.lss_i z z) z (wY (ym z) z ?_)))))))))
 obtain ⟨fA, h, ee⟩ := bnd h
 refine WL.cut 5 (σ := Bool) (fun x w' => x = fA ∧ b2 = w') (fun x => [(0, vs a0), (1, vi a1), (4, pt r 0), (6, pt t 0), (7, pt j 0), (8, vi bq), (29, vB x)]) ?_ ?_
 ·rcases cnd h with ⟨br, h⟩ | ⟨br, h⟩
  ·refine WL.ren 24 z (congrArg vB br) (ug z z (wY (ym z) z (ug z z (wY (ym z) z (ug z z ?_)))))
   obtain ⟨fB, ef, h⟩ := bnd h
   refine wY (Y.index_s ty9 z z ef) z (ug z z (wY (Y.eql_b (b := 33) z z) z (wY (Y.pick (b := true) z z) z ?_)))
   exact nl (At.join (σ := Bool) (decide (fB = 33)) ⟨some1 h, z⟩ (.cons z (.cons z (.cons z (.cons z (.cons z (.cons z (.cons z .nil))))))))
  ·refine WL.ren 24 z (congrArg vB br) (WL.gS z z z z (WL.gS z z z z (WL.gS z z z z (WL.gS z z z z (wY (Y.pick (b := false) z z) z ?_)))))
   exact nl (At.join (σ := Bool) false ⟨some1 h, z⟩ (.cons z (.cons z (.cons z (.cons z (.cons z (.cons z (.cons z .nil))))))))
 ·rintro I _ ⟨rfl, rfl⟩
  replace h := ee
  try dsimp only at h
  refine (show WL _ _ _ _ _ [(0, vs a0), (1, vi a1), (4, pt r 0), (6, pt t 0), (7, pt j 0), (8, vi bq), (29, vB I)] _ from ?_)
  refine wY (ya z) z (nl (th (sq ?_)))
  obtain ⟨fC, h, eg⟩ := bnd h
  refine WC.join (σ := Int) (fun x w' => x = fC ∧ b2 = w') (fun x => [(0, vs a0), (1, vi a1), (4, pt r 0), (6, pt t 0), (7, pt j 0), (8, vi x), (9, vB I)]) ?_ ?_
  ·refine sq (rg (wY (ym z) z (nl (th ?_))))
   rcases cnd h with ⟨bs, h⟩ | ⟨bs, h⟩
   ·refine WC.condT' z bs (rg (wY (ym z) z (wY (Y.add_i z z) z ?_)))
    obtain ⟨eh, cn, h⟩ := lt1 h
    refine WL.yE (ya z) (congrArg vi cn.symm) z (nl ?_)
    exact At.join (σ := Int) eh ⟨some1 h, z⟩ (.cons z (.cons z (.cons z (.cons z (.cons z (.cons z (.cons z .nil)))))))
   ·refine WC.condF' z bs (sk ?_)
    exact At.join (σ := Int) bq ⟨some1 h, z⟩ (.cons z (.cons z (.cons z (.cons z (.cons z (.cons z (.cons z .nil)))))))
  ·rintro D _ ⟨rfl, rfl⟩
   replace h := eg
   try dsimp only at h
   refine (show At _ _ _ [(0, vs a0), (1, vi a1), (4, pt r 0), (6, pt t 0), (7, pt j 0), (8, vi D), (9, vB I)] _ from ?_)
   refine th (sq (rg (wY (ym z) z (wY (ya z) z (nl (th (sq (sq (rg ?_)))))))))
   refine wY (ym z) z (wY (ym z) z ?_)
   obtain ⟨gE, ei, h⟩ := bnd h
   refine WL.call (vals := [vs a0, vi D]) kok91 z z (c_glob_closed ei) ?_
   rintro gi bt ⟨rfl, ej⟩
   obtain ⟨a9, fD, fF, m⟩ := adoptE fz (fun k => 1) ej
   refine wY (Y.not z) z (nl (th ?_))
   rcases cnd h with ⟨bu, h⟩ | ⟨bu, h⟩
   ·refine WC.condT' z bu (sq (rg ?_))
    have ek := b3.st m z
    refine wY (yL ty100 z z (ek.cells 0 [vi 0, vu 0, vu 0, vu 0, vu 0, vB false, vb 0] z) z) z (wY (ym z) z (wY (yb (vals := [(0, vi a1), (1, vi 2)]) (cells := [vi a1, vi 2]) (fe_ z) (by kernel_rfl)) z ?_))
    have eo := ((an.st E z).st o z).st m z
    refine WL.store (v := ag [vi 0, vu 0, vu 0, vu 0, vu 0, vB false, vb 0]) (cells' := [vi 0, vu 0, vu 0, vu 0, vu 0, vB false, vb 0]) ty100 z z eo z (le_ z) z z ?_
    intro gj bB ep
    refine wY (ya z) z ?_
    have et := ((ao.st o z).st m z).st bB z
    refine WL.store (v := ag [vi a1, vi 2]) (cells' := [vi a1, vi 2]) ty102 z z et z (le_ z) z z ?_
    intro eu bC ew
    refine nl (th (rt (At.thenR ?_)))
    obtain ⟨rfl, rfl, rfl⟩ := tup3 h
    have ex : Stp [11, 12] (Lg.O0 A) w a9 eu := (tr_ (su_ aa z) (tr_ (su_ E z) (tr_ (su_ o z) (tr_ (su_ m z) (tr_ (su_ bB z) (su_ bC z))))))
    have ey := ep.st bC z
    exact At.res (.inl z) z (.cell z (ey.runAg 0 [vi 0, vu 0, vu 0, vu 0, vu 0, vB false, vb 0] ty100 z z z) (.tmp z (.cell z (ew.runAg 0 [vi a1, vi 2] ty102 z z z) .nil))) ⟨z, (se_ ex z z)⟩
   ·refine WC.condF' z bu (sk (th (sq ?_)))
    obtain ⟨fG, h, bw⟩ := flow1 h
    refine WC.join (σ := (UInt64 × UInt64 × UInt64 × UInt64 × Int × Own)) (fun x w' => fG = .go (x.1, x.2.1, x.2.2.1, x.2.2.2.1, x.2.2.2.2.1) ∧ Stp [13] a9 bt x.2.2.2.2.2 w' ∧ Blk 13 x.2.2.2.2.2 w' j 100 [vi 0, vu x.1, vu x.2.1, vu x.2.2.1, vu x.2.2.2.1, vB false, vb 0]) (fun x => [(1, vi a1), (4, pt r 0), (6, pt t 0), (7, pt j 0), (8, vi x.2.2.2.2.1), (9, vB I), (10, vi D)]) ?_ ?_
    ·refine WC.block ?_
     obtain ⟨eb, h, bx⟩ := flow1 h
     obtain ⟨ec, h⟩ := loop_some h
     refine WC.joinB 0 (σ := (UInt64 × UInt64 × UInt64 × UInt64 × Int × Own)) (fun x w' => eb = .go (x.1, x.2.1, x.2.2.1, x.2.2.2.1, x.2.2.2.2.1) ∧ Stp [13] a9 bt x.2.2.2.2.2 w' ∧ Blk 13 x.2.2.2.2.2 w' j 100 [vi 0, vu x.1, vu x.2.1, vu x.2.2.1, vu x.2.2.2.1, vB false, vb 0]) (fun x => [(1, vi a1), (4, pt r 0), (6, pt t 0), (7, pt j 0), (8, vi x.2.2.2.2.1), (9, vB I), (10, vi D)]) ?_ ?_
     ·have ez := b3.st m z
      refine WC.loop (σ := (UInt64 × UInt64 × UInt64 × UInt64 × Int × Own)) (fun x k w' => loopN k (glob_class_lp1 a0) (x.1, x.2.1, x.2.2.1, x.2.2.2.1, x.2.2.2.2.1) = some eb ∧ Stp [13] a9 bt x.2.2.2.2.2 w' ∧ Blk 13 x.2.2.2.2.2 w' j 100 [vi 0, vu x.1, vu x.2.1, vu x.2.2.1, vu x.2.2.2.1, vB false, vb 0]) (fun x => [(0, vs a0), (1, vi a1), (4, pt r 0), (6, pt t 0), (7, pt j 0), (8, vi x.2.2.2.2.1), (9, vB I), (10, vi D)]) (0, 0, 0, 0, D, a9) ec (.cons z (.cons z (.cons z (.cons z (.cons z (.cons z (.cons z (.cons z .nil)))))))) ⟨h, (sr_ _ _ _), ez⟩ ?_
      rintro ⟨ab, P, Q, S, C, ap⟩ ec b4 ⟨h, J, al⟩
      obtain ⟨fH, gG, rfl, h, aG⟩ := rnd1 h
      unfold glob_class_lp1 at h
      try dsimp only at h J al
      refine (show WC _ _ _ _ [(0, vs a0), (1, vi a1), (4, pt r 0), (6, pt t 0), (7, pt j 0), (8, vi C), (9, vB I), (10, vi D)] _ from ?_)
      refine sq (sq (rg (wY (ym z) z (wY (ym z) z ?_))))
      obtain ⟨gH, eA, h⟩ := bnd h
      refine wY (Y.index_s ty9 z z eA) z (wY (Y.neq_b (b := 93) z z) z (nl (th ?_)))
      rcases cnd h with ⟨aH, h⟩ | ⟨aH, h⟩
      ·refine WC.condT' z aH (sk (th ?_))
       obtain ⟨eB, h, aI⟩ := flow1 h
       refine WC.join (σ := (UInt64 × UInt64 × UInt64 × UInt64 × Int × Own)) (fun x w' => eB = .go (x.1, x.2.1, x.2.2.1, x.2.2.2.1, x.2.2.2.2.1) ∧ Stp [13] ap b4 x.2.2.2.2.2 w' ∧ Blk 13 x.2.2.2.2.2 w' j 100 [vi 0, vu x.1, vu x.2.1, vu x.2.2.1, vu x.2.2.2.1, vB false, vb 0]) (fun x => [(0, vs a0), (1, vi a1), (4, pt r 0), (6, pt t 0), (7, pt j 0), (8, vi x.2.2.2.2.1), (9, vB I), (10, vi D)]) ?_ ?_
       ·refine WC.block (sq (sq (rg (wY (ym z) z (wY (ym z) z ?_)))))
        obtain ⟨gk, co, h⟩ := bnd h
        refine wY (Y.index_s ty9 z z co) z (wY (Y.eql_b (b := 45) z z) z (nl (th ?_)))
        rcases cnd h with ⟨aJ, h⟩ | ⟨aJ, h⟩
        ·refine WC.condT' z aJ (sq (sq (rg (wY (ym z) z (wY (ym z) z (wY (Y.add_i z z) z ?_))))))
         obtain ⟨gl, cq, h⟩ := bnd h
         refine wY (Y.index_s ty9 z z cq) z (wY (Y.neq_b (b := 93) z z) z (nl (th ?_)))
         rcases cnd h with ⟨aK, h⟩ | ⟨aK, h⟩
         ·refine WC.condT' z aK (sq (rg (wY (yL ty100 z z (al.cells 0 [vi 0, vu ab, vu P, vu Q, vu S, vB false, vb 0] z) z) z (wY (ym z) z (wY (yb (vals := [(0, vi C), (1, vi 3)]) (cells := [vi C, vi 3]) (fe_ z) (by kernel_rfl)) z ?_)))))
          have cu := (((an.st E z).st o z).st m z).st J z
          refine WL.store (v := ag [vi 0, vu ab, vu P, vu Q, vu S, vB false, vb 0]) (cells' := [vi 0, vu ab, vu P, vu Q, vu S, vB false, vb 0]) ty100 z z cu z (le_ z) z z ?_
          intro fO ba cw
          refine wY (ya z) z ?_
          have cA := (((ao.st o z).st m z).st J z).st ba z
          refine WL.store (v := ag [vi C, vi 3]) (cells' := [vi C, vi 3]) ty102 z z cA z (le_ z) z z ?_
          intro cC bb cD
          refine nl (th (rt (At.thenR (At.thenR (At.inBlockR ?_)))))
          have h := outs1 h aI
          refine At.joinR (At.loopR ?_)
          have h := outr1 h aG bx
          refine At.joinBR (At.inBlockR ?_)
          have h := outs1 h bw
          refine At.joinR (At.thenR ?_)
          obtain ⟨rfl, rfl, rfl⟩ := tup3 h
          have cE : Stp [11, 12, 13] (Lg.O0 A) w ap cC := (tr_ (su_ aa z) (tr_ (su_ E z) (tr_ (su_ o z) (tr_ (su_ m z) (tr_ (su_ J z) (tr_ (su_ ba z) (su_ bb z)))))))
          have cF := cw.st bb z
          exact At.res (.inl z) z (.cell z (cF.runAg 0 [vi 0, vu ab, vu P, vu Q, vu S, vB false, vb 0] ty100 z z z) (.tmp z (.cell z (cD.runAg 0 [vi C, vi 3] ty102 z z z) .nil))) ⟨z, (se_ cE z z)⟩
         ·refine WC.condF' z aK (sk (th (sq (rg (wY (yf fo100_1 z) z ?_)))))
          obtain ⟨eC, h, cG⟩ := bnd h
          refine WL.callJ (vals := [pt j 1, vb 45]) (σ := (UInt64 × Own)) (fun x w' => x.1 = eC ∧ Stp [13] ap b4 x.2 w' ∧ Blk 13 x.2 w' j 100 [vi 0, vu x.1, vu P, vu Q, vu S, vB false, vb 0]) (fun x => tp []) kok90 z z ?_ ?_
          ·refine Rets.enter Tryd.func90 z z ?_
           refine (show WC _ _ _ _ [(0, pt j 1), (1, vb 45)] _ from ?_)
           refine WC.draw 13 ap fmix (by kernel_rfl) ?_
           intro fP bc
           refine WS.y (ym z) z (WS.y (ym z) z (WS.yE (Y.quo_b (b := 64) (by decide) z z) (show vb ((45 : UInt8) / 64) = vb 0 from congrArg vb (by decide)) z (WS.y (yn z) z (WS.yE (Y.indexAddrA ty98 ty34 z z (by decide) (by decide)) (show (Value.pointer (some ⟨j, 1 + ((0 : UInt8).toNat : Int).toNat * 1, none⟩)) = .pointer (some ⟨j, 1, none⟩) from z) z ?_))))
           have bD := al.st bc z
           refine WS.y (yl ty34 z z (bD.cell 1 _ z)) z (WS.y (ym z) z (WS.yE (Y.rem_b (b := 64) (by decide) z z) (show vb ((45 : UInt8) % 64) = vb 45 from congrArg vb (by decide)) z (WS.y (Y.conv_bu ty5.u ty143.u z) z (WS.y (Y.shl_uu (a := 1) z z) z (WS.y (Y.or_u z z) z (WS.y (yn z) z (WS.yE (Y.indexAddrA ty98 ty34 z z (by decide) (by decide)) (show (Value.pointer (some ⟨j, 1 + ((0 : UInt8).toNat : Int).toNat * 1, none⟩)) = .pointer (some ⟨j, 1, none⟩) from z) z (WS.tail ?_))))))))
           obtain ⟨bz, cH, h⟩ := lt1 h
           refine WL.ren 14 z (congrArg vu cH.symm) (WL.store (v := vu bz) (cells' := [vi 0, vu bz, vu P, vu Q, vu S, vB false, vb 0]) ty34 z z bD z (le_ z) z z ?_)
           intro fQ b5 cI
           refine nl ?_
           exact At.res (.inr z) z .nil ⟨(bz, ap), ⟨some1 h, (tr_ (su_ bc z) (su_ b5 z)), cI⟩, z⟩
          ·rintro ⟨eD, eE⟩ fR ⟨rfl, bd, bE⟩
           replace h := cG
           try dsimp only at h bd bE
           refine (show WL _ _ _ _ _ ((58, tp []) :: _) _ from ?_)
           refine nl (th (sq (rg (wY (ym z) z (wY (Y.add_i z z) z ?_)))))
           obtain ⟨cJ, b6, h⟩ := lt1 h
           refine WL.yE (ya z) (congrArg vi b6.symm) z (nl (th (WC.exit (At.thenX (At.inBlockHit ?_)))))
           exact At.join (σ := (UInt64 × UInt64 × UInt64 × UInt64 × Int × Own)) (eD, P, Q, S, cJ, eE) ⟨go2 h, (su_ bd z), bE⟩ (.cons z (.cons z (.cons z (.cons z (.cons z (.cons z (.cons z (.cons z .nil))))))))
        ·refine WC.condF' z aJ (sk (th (sq (rg (wY (ym z) z (wY (ym z) z ?_))))))
         obtain ⟨⟨F, aq⟩, cK, h⟩ := bnd h
         refine WL.call (vals := [vs a0, vi C]) kok92 z z (c_glob_member cK) ?_
         rintro fT aL ⟨rfl, cL⟩
         obtain ⟨bA, fs, ft, T⟩ := adoptE ap (fun k => 1) cL
         refine wY (ym z) z (wY (yx z z) z (wY (yx z z) z (wY (ya z) z (wY (ya z) z (nl (th (sq (rg (wY (ym z) z ?_)))))))))
         refine wY (ya z) z (nl (th (sq ?_)))
         obtain ⟨eF, h, bF⟩ := flow1 h
         refine WC.join (σ := (Int × UInt8 × Own)) (fun x w' => eF = .go (x.1, x.2.1) ∧ Stp [] bA aL x.2.2 w') (fun x => [(0, vs a0), (1, vi a1), (4, pt r 0), (6, pt t 0), (7, pt j 0), (8, vi C), (9, vB I), (10, vi D), (11, vb F), (12, vi x.1), (13, vb x.2.1)]) ?_ ?_
         ·refine sq (rg (wY (ym z) z (wY (ym z) z (wY (Y.add_i z z) z ?_))))
          obtain ⟨ar, cM, h⟩ := lt1 h
          refine WL.yE (ya z) (congrArg vi cM.symm) z (nl (th (sq (rg (wY (ym z) z (wY (ym z) z ?_))))))
          obtain ⟨gm, cN, h⟩ := bnd h
          refine wY (Y.index_s ty9 z z cN) z (wY (Y.eql_b (b := 45) z z) z (wY (ym z) z ?_))
          obtain ⟨eG, h, cO⟩ := bnd h
          refine WL.cut 6 (σ := Bool) (fun x w' => x = eG ∧ aL = w') (fun x => [(0, vs a0), (1, vi a1), (4, pt r 0), (6, pt t 0), (7, pt j 0), (8, vi C), (9, vB I), (10, vi D), (11, vb F), (12, vi aq), (13, vb F), (14, vi ar), (81, vB x)]) ?_ ?_
          ·rcases cnd h with ⟨aM, h⟩ | ⟨aM, h⟩
           ·refine WL.ren 75 z (congrArg vB aM) (ug z z (wY (ym z) z (ug z z (wY (ym z) z (ug z z (wY (Y.add_i z z) z (ug z z ?_)))))))
            obtain ⟨eH, cP, h⟩ := bnd h
            refine wY (Y.index_s ty9 z z cP) z (ug z z (wY (Y.neq_b (b := 93) z z) z (wY (Y.pick (b := true) z z) z ?_)))
            exact nl (At.join (σ := Bool) (!decide (eH = 93)) ⟨some1 h, z⟩ (.cons z (.cons z (.cons z (.cons z (.cons z (.cons z (.cons z (.cons z (.cons z (.cons z (.cons z (.cons z (.cons z .nil))))))))))))))
           ·refine WL.ren 75 z (congrArg vB aM) (WL.gS z z z z (WL.gS z z z z (WL.gS z z z z (WL.gS z z z z (WL.gS z z z z (wY (Y.pick (b := false) z z) z ?_))))))
            exact nl (At.join (σ := Bool) false ⟨some1 h, z⟩ (.cons z (.cons z (.cons z (.cons z (.cons z (.cons z (.cons z (.cons z (.cons z (.cons z (.cons z (.cons z (.cons z .nil))))))))))))))
          ·rintro eI _ ⟨rfl, rfl⟩
           replace h := cO
           try dsimp only at h
           refine (show WL _ _ _ _ _ [(0, vs a0), (1, vi a1), (4, pt r 0), (6, pt t 0), (7, pt j 0), (8, vi C), (9, vB I), (10, vi D), (11, vb F), (12, vi aq), (13, vb F), (14, vi ar), (81, vB eI)] _ from ?_)
           refine wY (ym z) z ?_
           obtain ⟨eJ, h, cQ⟩ := bnd h
           refine WL.cut 6 (σ := Bool) (fun x w' => x = eJ ∧ aL = w') (fun x => [(0, vs a0), (1, vi a1), (4, pt r 0), (6, pt t 0), (7, pt j 0), (8, vi C), (9, vB I), (10, vi D), (11, vb F), (12, vi aq), (13, vb F), (14, vi ar), (88, vB x)]) ?_ ?_
           ·rcases cnd h with ⟨aN, h⟩ | ⟨aN, h⟩
            ·refine WL.ren 82 z (congrArg vB aN) (ug z z (wY (ym z) z (ug z z (wY (ym z) z (ug z z (wY (Y.add_i z z) z (ug z z ?_)))))))
             obtain ⟨eK, cR, h⟩ := bnd h
             refine wY (Y.index_s ty9 z z cR) z (ug z z (wY (Y.neq_b (b := 45) z z) z (wY (Y.pick (b := true) z z) z ?_)))
             exact nl (At.join (σ := Bool) (!decide (eK = 45)) ⟨some1 h, z⟩ (.cons z (.cons z (.cons z (.cons z (.cons z (.cons z (.cons z (.cons z (.cons z (.cons z (.cons z (.cons z (.cons z .nil))))))))))))))
            ·refine WL.ren 82 z (congrArg vB aN) (WL.gS z z z z (WL.gS z z z z (WL.gS z z z z (WL.gS z z z z (WL.gS z z z z (wY (Y.pick (b := false) z z) z ?_))))))
             exact nl (At.join (σ := Bool) false ⟨some1 h, z⟩ (.cons z (.cons z (.cons z (.cons z (.cons z (.cons z (.cons z (.cons z (.cons z (.cons z (.cons z (.cons z (.cons z .nil))))))))))))))
           ·rintro eL _ ⟨rfl, rfl⟩
            replace h := cQ
            try dsimp only at h
            refine (show WL _ _ _ _ _ [(0, vs a0), (1, vi a1), (4, pt r 0), (6, pt t 0), (7, pt j 0), (8, vi C), (9, vB I), (10, vi D), (11, vb F), (12, vi aq), (13, vb F), (14, vi ar), (88, vB eL)] _ from ?_)
            refine nl (th ?_)
            rcases cnd h with ⟨aO, h⟩ | ⟨aO, h⟩
            ·refine WC.condT' z aO (sq (rg (wY (ym z) z (wY (ym z) z (wY (Y.add_i z z) z ?_)))))
             obtain ⟨⟨eM, gn⟩, cS, h⟩ := bnd h
             refine WL.call (vals := [vs a0, vi (w64 (ar + 1))]) kok92 z z (c_glob_member cS) ?_
             rintro fU fV ⟨rfl, cT⟩
             obtain ⟨b7, fu, fw, W⟩ := adoptE bA (fun k => 1) cT
             refine wY (ym z) z (wY (yx z z) z (wY (yx z z) z (wY (ya z) z (wY (ya z) z (nl (th (sq (sq (rg ?_)))))))))
             refine wY (ym z) z (wY (ym z) z (wY (Y.lss_b z z) z (nl (th ?_))))
             rcases cnd h with ⟨aP, h⟩ | ⟨aP, h⟩
             ·refine WC.condT' z aP (sq (rg ?_))
              have cV := (al.st T z).st W z
              refine wY (yL ty100 z z (cV.cells 0 [vi 0, vu ab, vu P, vu Q, vu S, vB false, vb 0] z) z) z (wY (ym z) z (wY (yb (vals := [(0, vi C), (1, vi 3)]) (cells := [vi C, vi 3]) (fe_ z) (by kernel_rfl)) z ?_))
              have c1 := (((((an.st E z).st o z).st m z).st J z).st T z).st W z
              refine WL.store (v := ag [vi 0, vu ab, vu P, vu Q, vu S, vB false, vb 0]) (cells' := [vi 0, vu ab, vu P, vu Q, vu S, vB false, vb 0]) ty100 z z c1 z (le_ z) z z ?_
              intro fY bf c2
              refine wY (ya z) z ?_
              have c8 := (((((ao.st o z).st m z).st J z).st T z).st W z).st bf z
              refine WL.store (v := ag [vi C, vi 3]) (cells' := [vi C, vi 3]) ty102 z z c8 z (le_ z) z z ?_
              intro c9 bg da
              refine nl (th (rt (At.thenR ?_)))
              have h := outs1 h bF
              refine At.joinR (At.thenR (At.inBlockR ?_))
              have h := outs1 h aI
              refine At.joinR (At.loopR ?_)
              have h := outr1 h aG bx
              refine At.joinBR (At.inBlockR ?_)
              have h := outs1 h bw
              refine At.joinR (At.thenR ?_)
              obtain ⟨rfl, rfl, rfl⟩ := tup3 h
              have db : Stp [11, 12, 13] (Lg.O0 A) w b7 c9 := (tr_ (su_ aa z) (tr_ (su_ E z) (tr_ (su_ o z) (tr_ (su_ m z) (tr_ (su_ J z) (tr_ (su_ T z) (tr_ (su_ W z) (tr_ (su_ bf z) (su_ bg z)))))))))
              have dc := c2.st bg z
              exact At.res (.inl z) z (.cell z (dc.runAg 0 [vi 0, vu ab, vu P, vu Q, vu S, vB false, vb 0] ty100 z z z) (.tmp z (.cell z (da.runAg 0 [vi C, vi 3] ty102 z z z) .nil))) ⟨z, (se_ db z z)⟩
             ·refine WC.condF' z aP (sk (th (rg (wY (ym z) z (wY (ym z) z (wY (Y.add_i z z) z (wY (ym z) z (wY (Y.add_i z z) z (wY (ya z) z ?_)))))))))
              obtain ⟨dd, b8, h⟩ := lt1 h
              refine WL.yE (ya z) (congrArg vi b8.symm) z (nl ?_)
              exact At.join (σ := (Int × UInt8 × Own)) (dd, eM, b7) ⟨go2 h, (su_ W z)⟩ (.cons z (.cons z (.cons z (.cons z (.cons z (.cons z (.cons z (.cons z (.cons z (.cons z (.cons z .nil)))))))))))
            ·refine WC.condF' z aO (sk ?_)
             exact At.join (σ := (Int × UInt8 × Own)) (aq, F, bA) ⟨go2 h, (sr_ _ _ _)⟩ (.cons z (.cons z (.cons z (.cons z (.cons z (.cons z (.cons z (.cons z (.cons z (.cons z (.cons z .nil)))))))))))
         ·rintro ⟨de, U, aQ⟩ aR ⟨rfl, au⟩
          replace h := flowK_go bF
          try dsimp only at h au
          refine (show At _ _ _ [(0, vs a0), (1, vi a1), (4, pt r 0), (6, pt t 0), (7, pt j 0), (8, vi C), (9, vB I), (10, vi D), (11, vb F), (12, vi de), (13, vb U)] _ from ?_)
          refine th (sq (rg (wY (yf fo100_1 z) z (wY (ym z) z (wY (ym z) z ?_)))))
          obtain ⟨eN, h, df⟩ := bnd h
          refine WL.callJ (vals := [pt j 1, vb F, vb U]) (σ := (UInt64 × UInt64 × UInt64 × UInt64 × Own)) (fun x w' => (x.1, x.2.1, x.2.2.1, x.2.2.2.1) = eN ∧ Stp [13] aQ aR x.2.2.2.2 w' ∧ Blk 13 x.2.2.2.2 w' j 100 [vi 0, vu x.1, vu x.2.1, vu x.2.2.1, vu x.2.2.2.1, vB false, vb 0]) (fun x => tp []) kok69 z z ?_ ?_
          ·refine Rets.enter Tryd.func69 z z ?_
           refine (show WC _ _ _ _ [(0, pt j 1), (1, vb F), (2, vb U)] _ from ?_)
           refine sq (rg (wY (ym z) z (wY (Y.conv_bi ty5.u ty3.u z) z ?_)))
           obtain ⟨eO, dg, h⟩ := lt1 h
           refine WL.yE (ya z) (congrArg vi dg.symm) z (nl (th (WC.block ?_)))
           obtain ⟨b9, h, dh⟩ := flow1 h
           obtain ⟨ca, h⟩ := loop_some h
           refine WC.joinB 0 (σ := (UInt64 × UInt64 × UInt64 × UInt64 × Own)) (fun x w' => b9 = .go (x.1, x.2.1, x.2.2.1, x.2.2.2.1) ∧ Stp [13] aQ aR x.2.2.2.2 w' ∧ Blk 13 x.2.2.2.2 w' j 100 [vi 0, vu x.1, vu x.2.1, vu x.2.2.1, vu x.2.2.2.1, vB false, vb 0]) (fun x => []) ?_ ?_
           ·have dj := (al.st T z).st au z
            refine WC.loop (σ := (UInt64 × UInt64 × UInt64 × UInt64 × Int × Own)) (fun x k w' => loopN k (glob_class_lp2 U) (x.1, x.2.1, x.2.2.1, x.2.2.2.1, x.2.2.2.2.1) = some b9 ∧ Stp [13] aQ aR x.2.2.2.2.2 w' ∧ Blk 13 x.2.2.2.2.2 w' j 100 [vi 0, vu x.1, vu x.2.1, vu x.2.2.1, vu x.2.2.2.1, vB false, vb 0]) (fun x => [(0, pt j 1), (2, vb U), (6, vi x.2.2.2.2.1)]) (ab, P, Q, S, eO, aQ) ca (.cons z (.cons z (.cons z .nil))) ⟨h, (sr_ _ _ _), dj⟩ ?_
            rintro ⟨ac, ad, ae, af, K, aS⟩ ca dk ⟨h, av, aT⟩
            obtain ⟨eP, gp, rfl, h, bG⟩ := rnd1 h
            unfold glob_class_lp2 at h
            try dsimp only at h av aT
            refine (show WC _ _ _ _ [(0, pt j 1), (2, vb U), (6, vi K)] _ from ?_)
            refine sq (sq (rg (wY (ym z) z (wY (ym z) z (wY (Y.conv_bi ty5.u ty3.u z) z (wY (Y.leq_i z z) z (nl (th ?_))))))))
            rcases cnd h with ⟨aU, h⟩ | ⟨aU, h⟩
            ·refine WC.condT' z aU (sk (th (sq (WC.block (rg (wY (ym z) z (wY (ym z) z (wY (Y.conv_ib ty3.u ty5.u z) z ?_))))))))
             obtain ⟨p256, h, dl⟩ := bnd h
             refine WL.callJ (vals := [pt j 1, vb (toU8 K)]) (σ := (UInt64 × UInt64 × UInt64 × UInt64 × Own)) (fun x w' => (x.1, x.2.1, x.2.2.1, x.2.2.2.1) = p256 ∧ Stp [13] aS dk x.2.2.2.2 w' ∧ Blk 13 x.2.2.2.2 w' j 100 [vi 0, vu x.1, vu x.2.1, vu x.2.2.1, vu x.2.2.2.1, vB false, vb 0]) (fun x => tp []) kok90 z z ?_ ?_
             ·refine Rets.enter Tryd.func90 z z ?_
              refine (show WC _ _ _ _ [(0, pt j 1), (1, vb (toU8 K))] _ from ?_)
              refine WC.draw 13 aS fmix (by kernel_rfl) ?_
              intro f0 bh
              refine WS.y (ym z) z (WS.y (ym z) z (WS.y (Y.quo_b (b := 64) (by decide) z z) z (WS.y (yn z) z ?_)))
              obtain ⟨gq, bH, h⟩ := bnd h
              have bI := idx_in bH
              refine WS.y (Y.indexAddrA ty98 ty34 z z bI.1 bI.2) z ?_
              have bJ := aT.st bh z
              refine WS.y (yl ty34 z z (CellsAt.idxU (xs := ([ac, ad, ae, af] : List UInt64)) (bJ.cells 1 [vu ac, vu ad, vu ae, vu af] z) bH)) z (WS.y (ym z) z (WS.y (Y.rem_b (b := 64) (by decide) z z) z (WS.y (Y.conv_bu ty5.u ty143.u z) z (WS.y (Y.shl_uu (a := 1) z z) z (WS.y (Y.or_u z z) z (WS.y (yn z) z ?_))))))
              obtain ⟨gr, bK, h⟩ := bnd h
              have bL := idx_in bK
              refine WS.y (Y.indexAddrA ty98 ty34 z z bL.1 bL.2) z (WS.tail ?_)
              obtain ⟨G, dm, h⟩ := lt1 h
              refine WL.ren 14 z (congrArg vu dm.symm) (WL.store4 (xs := ([ac, ad, ae, af] : List UInt64)) (off := 1) (v := G) (fun i => [vi 0, vu (up4 i 0 G ac), vu (up4 i 1 G ad), vu (up4 i 2 G ae), vu (up4 i 3 G af), vB false, vb 0]) ty34 z z bK z bJ (le_ z) z z z z ?_)
              intro f1 cb aW
              replace aW : Blk _ _ _ _ _ [vi 0, vu (up4 (((toU8 K) / 64).toNat : Int) 0 G ac), vu (up4 (((toU8 K) / 64).toNat : Int) 1 G ad), vu (up4 (((toU8 K) / 64).toNat : Int) 2 G ae), vu (up4 (((toU8 K) / 64).toNat : Int) 3 G af), vB false, vb 0] := aW
              refine nl ?_
              exact At.res (.inr z) z .nil ⟨((up4 (((toU8 K) / 64).toNat : Int) 0 G ac), (up4 (((toU8 K) / 64).toNat : Int) 1 G ad), (up4 (((toU8 K) / 64).toNat : Int) 2 G ae), (up4 (((toU8 K) / 64).toNat : Int) 3 G af), aS), ⟨some1 h, (tr_ (su_ bh z) (su_ cb z)), aW⟩, z⟩
             ·rintro ⟨eQ, eR, eS, eT, eU⟩ f2 ⟨rfl, bi, bM⟩
              replace h := dl
              try dsimp only at h bi bM
              refine (show WL _ _ _ _ _ ((18, tp []) :: _) _ from ?_)
              refine nl (At.inBlock (th (rg (wY (ym z) z (wY (Y.add_i z z) z ?_)))))
              obtain ⟨eV, dn, h⟩ := lt1 h
              refine WL.yE (ya z) (congrArg vi dn.symm) z (nl ?_)
              exact At.round (eQ, eR, eS, eT, eV, eU) eP (Nat.lt_succ_self _) ⟨next1 h bG, (tr_ (su_ av z) (su_ bi z)), bM⟩ (.cons z (.cons z (.cons z .nil)))
            ·refine WC.condF' z aU (WC.exit (At.thenX (At.loopX ?_)))
             exact At.hitB (σ := (UInt64 × UInt64 × UInt64 × UInt64 × Own)) (ac, ad, ae, af, aS) ⟨brk1 h bG, (su_ av z), aT⟩ .nil
           ·rintro ⟨eW, eX, eY, eZ, e0⟩ f3 ⟨rfl, bj, bO⟩
            replace h := flowK_go dh
            try dsimp only at h bj bO
            refine (show At _ _ _ [] _ from ?_)
            refine At.inBlockHit ?_
            exact At.res (.inr z) z .nil ⟨(eW, eX, eY, eZ, e0), ⟨some1 h, (su_ bj z), bO⟩, z⟩
          ·rintro ⟨e1, e2, e5, e6, e7⟩ f4 ⟨rfl, bk, bP⟩
           replace h := df
           try dsimp only at h bk bP
           refine (show WL _ _ _ _ _ ((110, tp []) :: _) _ from ?_)
           refine nl (th (rg (wY (ym z) z (wY (ym z) z (wY (Y.add_i z z) z ?_)))))
           obtain ⟨dp, cc, h⟩ := lt1 h
           refine WL.yE (ya z) (congrArg vi cc.symm) z (nl (At.inBlock ?_))
           exact At.join (σ := (UInt64 × UInt64 × UInt64 × UInt64 × Int × Own)) (e1, e2, e5, e6, dp, e7) ⟨go2 h, (tr_ (su_ T z) (tr_ (su_ au z) (su_ bk z))), bP⟩ (.cons z (.cons z (.cons z (.cons z (.cons z (.cons z (.cons z (.cons z .nil))))))))
       ·rintro ⟨e8, e9, fa, fc, bQ, fd⟩ f5 ⟨rfl, bl, bR⟩
        replace h := flowK_go aI
        try dsimp only at h bl bR
        refine (show At _ _ _ [(0, vs a0), (1, vi a1), (4, pt r 0), (6, pt t 0), (7, pt j 0), (8, vi bQ), (9, vB I), (10, vi D)] _ from ?_)
        exact At.round (e8, e9, fa, fc, bQ, fd) fH (Nat.lt_succ_self _) ⟨next1 h aG, (tr_ (su_ J z) (su_ bl z)), bR⟩ (.cons z (.cons z (.cons z (.cons z (.cons z (.cons z (.cons z (.cons z .nil))))))))
      ·refine WC.condF' z aH (WC.exit (At.thenX (At.loopX ?_)))
       exact At.hitB (σ := (UInt64 × UInt64 × UInt64 × UInt64 × Int × Own)) (ab, P, Q, S, C, ap) ⟨brk1 h aG, (su_ J z), al⟩ (.cons z (.cons z (.cons z (.cons z (.cons z (.cons z (.cons z .nil)))))))
     ·rintro ⟨fI, fJ, fK, fL, cd, fN⟩ gs ⟨rfl, bS, ce⟩
      replace h := flowK_go bx
      try dsimp only at h bS ce
      refine (show At _ _ _ [(1, vi a1), (4, pt r 0), (6, pt t 0), (7, pt j 0), (8, vi cd), (9, vB I), (10, vi D)] _ from ?_)
      refine At.inBlockHit ?_
      exact At.join (σ := (UInt64 × UInt64 × UInt64 × UInt64 × Int × Own)) (fI, fJ, fK, fL, cd, fN) ⟨go2 h, (su_ bS z), ce⟩ (.cons z (.cons z (.cons z (.cons z (.cons z (.cons z (.cons z .nil)))))))
    ·rintro ⟨aC, aD, aE, aF, V, ax⟩ aX ⟨rfl, L, aY⟩
     replace h := flowK_go bw
     try dsimp only at h L aY
     refine (show At _ _ _ [(1, vi a1), (4, pt r 0), (6, pt t 0), (7, pt j 0), (8, vi V), (9, vB I), (10, vi D)] _ from ?_)
     refine th (sq (sq (rg (wY (ym z) z (wY (ym z) z (wY (Y.eql_i z z) z (nl (th ?_))))))))
     rcases cnd h with ⟨aZ, h⟩ | ⟨aZ, h⟩
     ·refine WC.condT' z aZ (sq (rg (wY (yL ty100 z z (aY.cells 0 [vi 0, vu aC, vu aD, vu aE, vu aF, vB false, vb 0] z) z) z (wY (ym z) z (wY (yb (vals := [(0, vi a1), (1, vi 3)]) (cells := [vi a1, vi 3]) (fe_ z) (by kernel_rfl)) z ?_)))))
      have du := (((an.st E z).st o z).st m z).st L z
      refine WL.store (v := ag [vi 0, vu aC, vu aD, vu aE, vu aF, vB false, vb 0]) (cells' := [vi 0, vu aC, vu aD, vu aE, vu aF, vB false, vb 0]) ty100 z z du z (le_ z) z z ?_
      intro f6 bm dw
      refine wY (ya z) z ?_
      have dA := (((ao.st o z).st m z).st L z).st bm z
      refine WL.store (v := ag [vi a1, vi 3]) (cells' := [vi a1, vi 3]) ty102 z z dA z (le_ z) z z ?_
      intro dB bn dC
      refine nl (th (rt (At.thenR ?_)))
      obtain ⟨rfl, rfl, rfl⟩ := tup3 h
      have dD : Stp [11, 12, 13] (Lg.O0 A) w ax dB := (tr_ (su_ aa z) (tr_ (su_ E z) (tr_ (su_ o z) (tr_ (su_ m z) (tr_ (su_ L z) (tr_ (su_ bm z) (su_ bn z)))))))
      have dE := dw.st bn z
      exact At.res (.inl z) z (.cell z (dE.runAg 0 [vi 0, vu aC, vu aD, vu aE, vu aF, vB false, vb 0] ty100 z z z) (.tmp z (.cell z (dC.runAg 0 [vi a1, vi 3] ty102 z z z) .nil))) ⟨z, (se_ dD z z)⟩
     ·refine WC.condF' z aZ (sk (th (sq ?_)))
      obtain ⟨fe, h, dF⟩ := bnd h
      refine WC.join (σ := (UInt64 × UInt64 × UInt64 × UInt64 × Own)) (fun x w' => (x.1, x.2.1, x.2.2.1, x.2.2.2.1) = fe ∧ Stp [13] ax aX x.2.2.2.2 w' ∧ Blk 13 x.2.2.2.2 w' j 100 [vi 0, vu x.1, vu x.2.1, vu x.2.2.1, vu x.2.2.2.1, vB false, vb 0]) (fun x => [(1, vi a1), (4, pt r 0), (6, pt t 0), (7, pt j 0), (8, vi V)]) ?_ ?_
      ·refine sq (rg (wY (ym z) z (nl (th ?_))))
       rcases cnd h with ⟨a2, h⟩ | ⟨a2, h⟩
       ·refine WC.condT' z a2 (sq (rg (wY (ym z) z (nl (th ?_)))))
        obtain ⟨ff, h, dG⟩ := bnd h
        refine WC.join (σ := (UInt64 × UInt64 × UInt64 × UInt64 × Own)) (fun x w' => (x.1, x.2.1, x.2.2.1, x.2.2.2.1) = ff ∧ Stp [13] ax aX x.2.2.2.2 w' ∧ Blk 13 x.2.2.2.2 w' j 100 [vi 0, vu x.1, vu x.2.1, vu x.2.2.1, vu x.2.2.2.1, vB false, vb 0]) (fun x => [(1, vi a1), (4, pt r 0), (6, pt t 0), (7, pt j 0), (8, vi V)]) ?_ ?_
        ·refine WC.block ?_
         obtain ⟨cf, h, dH⟩ := flow1 h
         obtain ⟨cg, h⟩ := loop_some h
         refine WC.joinB 2 (σ := (UInt64 × UInt64 × UInt64 × UInt64 × Own)) (fun x w' => cf = .go (x.1, x.2.1, x.2.2.1, x.2.2.2.1) ∧ Stp [13] ax aX x.2.2.2.2 w' ∧ Blk 13 x.2.2.2.2 w' j 100 [vi 0, vu x.1, vu x.2.1, vu x.2.2.1, vu x.2.2.2.1, vB false, vb 0]) (fun x => [(1, vi a1), (4, pt r 0), (6, pt t 0), (7, pt j 0), (8, vi V)]) ?_ ?_
         ·refine WC.loop (σ := (UInt64 × UInt64 × UInt64 × UInt64 × Int × Own)) (fun x k w' => loopN k (glob_class_lp3) (x.1, x.2.1, x.2.2.1, x.2.2.2.1, x.2.2.2.2.1) = some cf ∧ Stp [13] ax aX x.2.2.2.2.2 w' ∧ Blk 13 x.2.2.2.2.2 w' j 100 [vi 0, vu x.1, vu x.2.1, vu x.2.2.1, vu x.2.2.2.1, vB false, vb 0]) (fun x => [(1, vi a1), (4, pt r 0), (6, pt t 0), (7, pt j 0), (8, vi V), (121, vi x.2.2.2.2.1)]) (aC, aD, aE, aF, 0, ax) cg (.cons z (.cons z (.cons z (.cons z (.cons z (.cons z .nil)))))) ⟨h, (sr_ _ _ _), aY⟩ ?_
          rintro ⟨ah, ai, aj, ak, M, ch⟩ cg f7 ⟨h, ay, am⟩
          obtain ⟨fg, gt, rfl, h, bT⟩ := rnd1 h
          unfold glob_class_lp3 at h
          try dsimp only at h ay am
          refine (show WC _ _ _ _ [(1, vi a1), (4, pt r 0), (6, pt t 0), (7, pt j 0), (8, vi V), (121, vi M)] _ from ?_)
          refine sq (rg (wY (Y.lss_i z z) z (nl (th (sq ?_)))))
          rcases cnd h with ⟨a3, h⟩ | ⟨a3, h⟩
          ·refine WC.condT' z a3 (sk (th (sq (WC.block (sq (rg (wY (ym z) z (wY (ya z) z (nl ?_)))))))))
           refine th (rg (wY (ym z) z (wY (ym z) z (wY (yf fo100_1 z) z ?_))))
           obtain ⟨gu, bU, h⟩ := bnd h
           have bW := idx_in bU
           refine wY (Y.indexAddrA ty98 ty34 z z bW.1 bW.2) z (wY (yl ty34 z z (CellsAt.idxU (xs := ([ah, ai, aj, ak] : List UInt64)) (am.cells 1 [vu ah, vu ai, vu aj, vu ak] z) bU)) z (wY (Y.not_u z) z (wY (yf fo100_1 z) z ?_)))
           obtain ⟨gw, bX, h⟩ := bnd h
           have bY := idx_in bX
           refine wY (Y.indexAddrA ty98 ty34 z z bY.1 bY.2) z ?_
           obtain ⟨H, dI, h⟩ := lt1 h
           refine WL.ren 129 z (congrArg vu dI.symm) (WL.store4 (xs := ([ah, ai, aj, ak] : List UInt64)) (off := 1) (v := H) (fun i => [vi 0, vu (up4 i 0 H ah), vu (up4 i 1 H ai), vu (up4 i 2 H aj), vu (up4 i 3 H ak), vB false, vb 0]) ty34 z z bX z am (le_ z) z z z z ?_)
           intro f8 ci a4
           replace a4 : Blk _ _ _ _ _ [vi 0, vu (up4 M 0 H ah), vu (up4 M 1 H ai), vu (up4 M 2 H aj), vu (up4 M 3 H ak), vB false, vb 0] := a4
           refine nl (At.inBlock (th (rg (wY (Y.add_i z z) z (wY (ym z) z (nl ?_))))))
           exact At.round ((up4 M 0 H ah), (up4 M 1 H ai), (up4 M 2 H aj), (up4 M 3 H ak), w64 (M + 1), ch) fg (Nat.lt_succ_self _) ⟨next1 h bT, (tr_ (su_ ay z) (su_ ci z)), a4⟩ (.cons z (.cons z (.cons z (.cons z (.cons z (.cons z .nil))))))
          ·refine WC.condF' z a3 (WC.exit (At.thenX (At.loopX ?_)))
           exact At.hitB (σ := (UInt64 × UInt64 × UInt64 × UInt64 × Own)) (ah, ai, aj, ak, ch) ⟨brk1 h bT, (su_ ay z), am⟩ (.cons z (.cons z (.cons z (.cons z (.cons z .nil)))))
         ·rintro ⟨fh, fi, fj, fk, fl⟩ f9 ⟨rfl, bo, bZ⟩
          replace h := flowK_go dH
          try dsimp only at h bo bZ
          refine (show At _ _ _ [(1, vi a1), (4, pt r 0), (6, pt t 0), (7, pt j 0), (8, vi V)] _ from ?_)
          refine At.inBlockHit ?_
          exact At.join (σ := (UInt64 × UInt64 × UInt64 × UInt64 × Own)) (fh, fi, fj, fk, fl) ⟨some1 h, (su_ bo z), bZ⟩ (.cons z (.cons z (.cons z (.cons z (.cons z .nil)))))
        ·rintro ⟨fm, fn, fo, fp, fq⟩ ga ⟨rfl, bp, b0⟩
         replace h := dG
         try dsimp only at h bp b0
         refine (show At _ _ _ [(1, vi a1), (4, pt r 0), (6, pt t 0), (7, pt j 0), (8, vi V)] _ from ?_)
         exact At.join (σ := (UInt64 × UInt64 × UInt64 × UInt64 × Own)) (fm, fn, fo, fp, fq) ⟨some1 h, (su_ bp z), b0⟩ (.cons z (.cons z (.cons z (.cons z (.cons z .nil)))))
       ·refine WC.condF' z a2 (sk ?_)
        exact At.join (σ := (UInt64 × UInt64 × UInt64 × UInt64 × Own)) (aC, aD, aE, aF, ax) ⟨some1 h, (sr_ _ _ _), aY⟩ (.cons z (.cons z (.cons z (.cons z (.cons z .nil)))))
      ·rintro ⟨a5, a6, a7, a8, cj⟩ gb ⟨rfl, X, b1⟩
       replace h := dF
       try dsimp only at h X b1
       refine (show At _ _ _ [(1, vi a1), (4, pt r 0), (6, pt t 0), (7, pt j 0), (8, vi V)] _ from ?_)
       refine th (sq (WC.drawH [11] [0, 1, 2, 3, 4, 5, 6, 7] cj 9 fmix z (by kernel_rfl) ?_))
       intro gc Z
       refine WD.y 0 z (by kernel_rfl) (fun gd gz ck => have dJ := b1.st Z z; have dK := dJ.st ck z; yL ty100 z z (dK.cells 0 [vi 0, vu a5, vu a6, vu a7, vu a8, vB false, vb 0] z) z) z (WD.y 1 z (by kernel_rfl) (fun _ _ _ => ym z) z (WD.y 2 z (by kernel_rfl) (fun _ _ _ => Y.add_i z z) z (WD.y 3 z (by kernel_rfl) (fun _ _ _ => ym z) z (WD.y 4 z (by kernel_rfl) (fun _ _ _ => Y.sub_i z z) z (WD.y 5 z (by kernel_rfl) (fun ge gB cl => have dL := ed.st aa z; have dM := dL.st E z; have dN := dM.st o z; have dO := dN.st m z; have dP := dO.st L z; have dQ := dP.st X z; have dR := dQ.st Z z; have dS := dR.st cl z; yL ty102 z z dS.at_ z) z (WD.heavy 6 z (by kernel_rfl) ?_))))))
       have dY := (((((an.st E z).st o z).st m z).st L z).st X z).st Z z
       refine WL.store (v := ag [vi 0, vu a5, vu a6, vu a7, vu a8, vB false, vb 0]) (cells' := [vi 0, vu a5, vu a6, vu a7, vu a8, vB false, vb 0]) ty100 z z dY z (le_ z) z z ?_
       intro gf az dZ
       refine nl (At.dq (su_ az z) ?_)
       obtain ⟨gC, d0, h⟩ := lt1 h
       refine WD.yE 7 z (by kernel_rfl) (fun _ _ _ => ya z) (congrArg vi d0.symm) z (WD.phase [12] [0, 1, 2, 3, 4, 5, 6, 7, 8] (by kernel_rfl) (by kernel_rfl) (WD.heavy 8 z (by kernel_rfl) ?_))
       have d6 := (((((ao.st o z).st m z).st L z).st X z).st Z z).st az z
       refine WL.store (v := ag [vi 0, vi 0]) (cells' := [vi 0, vi 0]) ty102 z z d6 z (le_ z) z z ?_
       intro d7 aA d8
       refine nl (At.dq (su_ aA z) (WD.done_ (by kernel_rfl) (th (rt ?_))))
       obtain ⟨rfl, rfl, rfl⟩ := tup3 h
       have d9 : Stp [11, 12, 13] (Lg.O0 A) w cj d7 := (tr_ (su_ aa z) (tr_ (su_ E z) (tr_ (su_ o z) (tr_ (su_ m z) (tr_ (su_ L z) (tr_ (su_ X z) (tr_ (su_ Z z) (tr_ (su_ az z) (su_ aA z)))))))))
       have ea := dZ.st aA z
       exact At.res (.inl z) z (.cell z (ea.runAg 0 [vi 0, vu a5, vu a6, vu a7, vu a8, vB false, vb 0] ty100 z z z) (.tmp z (.cell z (d8.runAg 0 [vi 0, vi 0] ty102 z z z) .nil))) ⟨z, (se_ d9 z z)⟩
theorem c_glob_byteOf {a0 : UInt8} {w : World} {r0 : glob_piece} (h : glob_byteOf a0 = some r0) : Rets Tryd.prog 71 [vb a0] w (fun v w' => v = ag [vi r0.kind, vu r0.set.a0, vu r0.set.a1, vu r0.set.a2, vu r0.set.a3, vB r0.plain, vb r0.c] ∧ Ext w w') := by
 unfold glob_byteOf at h
 refine Rets.enter Tryd.func71 z z ?_
 refine (show WC _ _ _ _ [(0, vb a0)] _ from ?_)
 refine sq (rg (WL.alloc (O := (Lg.O0 (fun _ => False))) 11 [vi 0, vu 0, vu 0, vu 0, vu 0, vB false, vb 0] ty100 z z ?_))
 intro ar aj am S V
 refine nl (th (sq (rg (wY (ym z) z (wY (yb (vals := [(2, vB true), (3, vb a0)]) (cells := [vi 0, vu 0, vu 0, vu 0, vu 0, vB true, vb a0]) (fe_ z) (by kernel_rfl)) z (WL.alloc (O := aj) 12 [vi 0, vu 0, vu 0, vu 0, vu 0, vB false, vb 0] ty100 z z ?_))))))
 intro H I an r W
 refine WL.store (v := ag [vi 0, vu 0, vu 0, vu 0, vu 0, vB true, vb a0]) (cells' := [vi 0, vu 0, vu 0, vu 0, vu 0, vB true, vb a0]) ty100 z z W z (le_ z) z z ?_
 intro X t Z
 refine nl (th (sq (rg (wY (yf fo100_1 z) z (wY (ym z) z ?_)))))
 obtain ⟨ak, h, aa⟩ := bnd h
 refine WL.callJ (vals := [pt H 1, vb a0]) (σ := (UInt64 × UInt64 × UInt64 × UInt64 × Own)) (fun x w' => (x.1, x.2.1, x.2.2.1, x.2.2.2.1) = ak ∧ Stp [12] I X x.2.2.2.2 w' ∧ Blk 12 x.2.2.2.2 w' H 100 [vi 0, vu x.1, vu x.2.1, vu x.2.2.1, vu x.2.2.2.1, vB true, vb a0]) (fun x => tp []) kok90 z z ?_ ?_
 ·refine Rets.enter Tryd.func90 z z ?_
  refine (show WC _ _ _ _ [(0, pt H 1), (1, vb a0)] _ from ?_)
  refine WC.draw 13 I fmix (by kernel_rfl) ?_
  intro ao C
  refine WS.y (ym z) z (WS.y (ym z) z (WS.y (Y.quo_b (b := 64) (by decide) z z) z (WS.y (yn z) z ?_)))
  obtain ⟨au, J, h⟩ := bnd h
  have K := idx_in J
  refine WS.y (Y.indexAddrA ty98 ty34 z z K.1 K.2) z ?_
  have L := Z.st C z
  refine WS.y (yl ty34 z z (CellsAt.idxU (xs := ([0, 0, 0, 0] : List UInt64)) (L.cells 1 [vu 0, vu 0, vu 0, vu 0] z) J)) z (WS.y (ym z) z (WS.y (Y.rem_b (b := 64) (by decide) z z) z (WS.y (Y.conv_bu ty5.u ty143.u z) z (WS.y (Y.shl_uu (a := 1) z z) z (WS.y (Y.or_u z z) z (WS.y (yn z) z ?_))))))
  obtain ⟨av, M, h⟩ := bnd h
  have P := idx_in M
  refine WS.y (Y.indexAddrA ty98 ty34 z z P.1 P.2) z (WS.tail ?_)
  obtain ⟨j, ab, h⟩ := lt1 h
  refine WL.ren 14 z (congrArg vu ab.symm) (WL.store4 (xs := ([0, 0, 0, 0] : List UInt64)) (off := 1) (v := j) (fun i => [vi 0, vu (up4 i 0 j 0), vu (up4 i 1 j 0), vu (up4 i 2 j 0), vu (up4 i 3 j 0), vB true, vb a0]) ty34 z z M z L (le_ z) z z z z ?_)
  intro ap T o
  replace o : Blk _ _ _ _ _ [vi 0, vu (up4 ((a0 / 64).toNat : Int) 0 j 0), vu (up4 ((a0 / 64).toNat : Int) 1 j 0), vu (up4 ((a0 / 64).toNat : Int) 2 j 0), vu (up4 ((a0 / 64).toNat : Int) 3 j 0), vB true, vb a0] := o
  refine nl ?_
  exact At.res (.inr z) z .nil ⟨((up4 ((a0 / 64).toNat : Int) 0 j 0), (up4 ((a0 / 64).toNat : Int) 1 j 0), (up4 ((a0 / 64).toNat : Int) 2 j 0), (up4 ((a0 / 64).toNat : Int) 3 j 0), I), ⟨some1 h, (tr_ (su_ C z) (su_ T z)), o⟩, z⟩
 ·rintro ⟨D, E, F, G, al⟩ aq ⟨rfl, m, Q⟩
  replace h := aa
  try dsimp only at h m Q
  refine (show WL _ _ _ _ _ ((8, tp []) :: _) _ from ?_)
  refine nl (th (sq (rg (wY (yL ty100 z z (Q.cells 0 [vi 0, vu D, vu E, vu F, vu G, vB true, vb a0] z) z) z ?_))))
  have ae := ((V.st r z).st t z).st m z
  refine WL.store (v := ag [vi 0, vu D, vu E, vu F, vu G, vB true, vb a0]) (cells' := [vi 0, vu D, vu E, vu F, vu G, vB true, vb a0]) ty100 z z ae z (le_ z) z z ?_
  intro af U ah
  refine nl (th (rt ?_))
  obtain rfl := some1 h
  have ai : Stp [11, 12] (Lg.O0 (fun _ => False)) w al af := (tr_ (su_ S z) (tr_ (su_ r z) (tr_ (su_ t z) (tr_ (su_ m z) (su_ U z)))))
  exact At.res (.inl z) z (.cell z (ah.runAg 0 [vi 0, vu D, vu E, vu F, vu G, vB true, vb a0] ty100 z z z) .nil) ⟨z, (se_ ai z z)⟩
theorem c_glob_next {A : Nat → Prop} {a0 : List UInt8} {a1 : Int} {w : World} (hG0 : CellsAt w 0 0 [vi 0, vi 0]) (hGA0 : A 0) {r0 : glob_piece} {r1 : Int} {r2 : glob_fault} (h : glob_next a0 a1 = some (r0, r1, r2)) : Rets Tryd.prog 48 [vs a0, vi a1] w (fun v w' => v = Value.tuple (List.toArray [ag [vi r0.kind, vu r0.set.a0, vu r0.set.a1, vu r0.set.a2, vu r0.set.a3, vB r0.plain, vb r0.c], vi r1, ag [vi r2.at_, vi r2.e]]) ∧ Ext w w') := by
 unfold glob_next at h
 refine Rets.enter Tryd.func48 z z ?_
 have U : CAt [0, 1] (Lg.O0 A) w 0 0 [vi 0, vi 0] := CAt.glob hG0 (if_pos hGA0)
 refine (show WC _ _ _ _ [(0, vs a0), (1, vi a1)] _ from ?_)
 refine sq (rg (WL.alloc (O := (Lg.O0 A)) 11 [vi 0, vu 0, vu 0, vu 0, vu 0, vB false, vb 0] ty100 z z ?_))
 intro dY c6 dI t M
 refine wY (ya z) z (WL.alloc (O := c6) 12 [vi 0, vi 0] ty102 z z ?_)
 intro dZ G dJ j P
 refine nl (th (sq (sq (rg (wY (ym z) z (wY (ym z) z ?_))))))
 obtain ⟨d0, cx, h⟩ := bnd h
 refine wY (Y.index_s ty9 z z cx) z (nl (th (WC.block (sq (rg (wY (Y.eql_b (b := 42) z z) z ?_))))))
 obtain ⟨d1, cy, h⟩ := lt1 h
 refine WL.yE (ya z) (congrArg vB cy.symm) z (nl (th ?_))
 rcases cnd h with ⟨ay, h⟩ | ⟨ay, h⟩
 ·refine WC.condT' z ay (sq (WC.drawH [11] [0, 1, 2, 3] G 5 fmix z (by kernel_rfl) ?_))
  intro dK S
  refine WD.y 0 z (by kernel_rfl) (fun _ _ _ => yb (vals := [(0, vi 1)]) (cells := [vi 1, vu 0, vu 0, vu 0, vu 0, vB false, vb 0]) (fe_ z) (by kernel_rfl)) z (WD.y 1 z (by kernel_rfl) (fun dL d2 a2 => have cz := U.st t z; have cA := cz.st j z; have cC := cA.st S z; have cD := cC.st a2 z; yL ty102 z z cD.at_ z) z (WD.heavy 2 z (by kernel_rfl) ?_))
  have cF := (M.st j z).st S z
  refine WL.store (v := ag [vi 1, vu 0, vu 0, vu 0, vu 0, vB false, vb 0]) (cells' := [vi 1, vu 0, vu 0, vu 0, vu 0, vB false, vb 0]) ty100 z z cF z (le_ z) z z ?_
  intro dM ai cG
  refine nl (At.dq (su_ ai z) (WD.y 3 z (by kernel_rfl) (fun _ _ _ => ya z) z (WD.phase [12] [0, 1, 2, 3, 4] (by kernel_rfl) (by kernel_rfl) (WD.heavy 4 z (by kernel_rfl) ?_))))
  have cI := (P.st S z).st ai z
  refine WL.store (v := ag [vi 0, vi 0]) (cells' := [vi 0, vi 0]) ty102 z z cI z (le_ z) z z ?_
  intro cJ aj cK
  refine nl (At.dq (su_ aj z) (WD.done_ (by kernel_rfl) (th (rt (At.inBlockR (At.thenR ?_))))))
  obtain ⟨rfl, rfl, rfl⟩ := tup3 h
  have cL : Stp [11, 12] (Lg.O0 A) w G cJ := (tr_ (su_ t z) (tr_ (su_ j z) (tr_ (su_ S z) (tr_ (su_ ai z) (su_ aj z)))))
  have cM := cG.st aj z
  exact At.res (.inl z) z (.cell z (cM.runAg 0 [vi 1, vu 0, vu 0, vu 0, vu 0, vB false, vb 0] ty100 z z z) (.tmp z (.cell z (cK.runAg 0 [vi 0, vi 0] ty102 z z z) .nil))) ⟨z, (se_ cL z z)⟩
 ·refine WC.condF' z ay (sq (rg (wY (Y.eql_b (b := 63) z z) z ?_)))
  obtain ⟨d3, cN, h⟩ := lt1 h
  refine WL.yE (ya z) (congrArg vB cN.symm) z (nl (th ?_))
  rcases cnd h with ⟨az, h⟩ | ⟨az, h⟩
  ·refine WC.condT' z az (sq (rg (WL.alloc (O := G) 13 [vi 0, vu 0, vu 0, vu 0, vu 0, vB false, vb 0] ty100 z z ?_)))
   intro F aE aA T cO
   refine nl (th (sq (rg (wY (yf fo100_1 z) z ?_))))
   obtain ⟨c7, h, cP⟩ := bnd h
   refine WL.callJ (vals := [pt F 1, vb 0, vb 255]) (σ := (UInt64 × UInt64 × UInt64 × UInt64 × Own)) (fun x w' => (x.1, x.2.1, x.2.2.1, x.2.2.2.1) = c7 ∧ Stp [13] aE aA x.2.2.2.2 w' ∧ Blk 13 x.2.2.2.2 w' F 100 [vi 0, vu x.1, vu x.2.1, vu x.2.2.1, vu x.2.2.2.1, vB false, vb 0]) (fun x => tp []) kok69 z z ?_ ?_
   ·refine Rets.enter Tryd.func69 z z ?_
    refine (show WC _ _ _ _ [(0, pt F 1), (1, vb 0), (2, vb 255)] _ from ?_)
    refine sq (rg (wY (ym z) z (wY (Y.conv_bi ty5.u ty3.u z) z ?_)))
    obtain ⟨c8, cQ, h⟩ := lt1 h
    refine WL.yE (ya z) (congrArg vi cQ.symm) z (nl (th (WC.block ?_)))
    obtain ⟨ct, h, cR⟩ := flow1 h
    obtain ⟨cu, h⟩ := loop_some h
    refine WC.joinB 0 (σ := (UInt64 × UInt64 × UInt64 × UInt64 × Own)) (fun x w' => ct = .go (x.1, x.2.1, x.2.2.1, x.2.2.2.1) ∧ Stp [13] aE aA x.2.2.2.2 w' ∧ Blk 13 x.2.2.2.2 w' F 100 [vi 0, vu x.1, vu x.2.1, vu x.2.2.1, vu x.2.2.2.1, vB false, vb 0]) (fun x => []) ?_ ?_
    ·refine WC.loop (σ := (UInt64 × UInt64 × UInt64 × UInt64 × Int × Own)) (fun x k w' => loopN k (glob_next_lp1) (x.1, x.2.1, x.2.2.1, x.2.2.2.1, x.2.2.2.2.1) = some ct ∧ Stp [13] aE aA x.2.2.2.2.2 w' ∧ Blk 13 x.2.2.2.2.2 w' F 100 [vi 0, vu x.1, vu x.2.1, vu x.2.2.1, vu x.2.2.2.1, vB false, vb 0]) (fun x => [(0, pt F 1), (2, vb 255), (6, vi x.2.2.2.2.1)]) (0, 0, 0, 0, c8, aE) cu (.cons z (.cons z (.cons z .nil))) ⟨h, (sr_ _ _ _), cO⟩ ?_
     rintro ⟨V, W, X, Z, D, aF⟩ cu cS ⟨h, ak, aC⟩
     obtain ⟨c9, d4, rfl, h, aQ⟩ := rnd1 h
     unfold glob_next_lp1 at h
     try dsimp only at h ak aC
     refine (show WC _ _ _ _ [(0, pt F 1), (2, vb 255), (6, vi D)] _ from ?_)
     refine sq (sq (rg (wY (ym z) z (wY (ym z) z (wY (Y.conv_bi ty5.u ty3.u z) z (wY (Y.leq_i z z) z (nl (th ?_))))))))
     rcases cnd h with ⟨aD, h⟩ | ⟨aD, h⟩
     ·refine WC.condT' z aD (sk (th (sq (WC.block (rg (wY (ym z) z (wY (ym z) z (wY (Y.conv_ib ty3.u ty5.u z) z ?_))))))))
      obtain ⟨cT, h, a3⟩ := bnd h
      refine WL.callJ (vals := [pt F 1, vb (toU8 D)]) (σ := (UInt64 × UInt64 × UInt64 × UInt64 × Own)) (fun x w' => (x.1, x.2.1, x.2.2.1, x.2.2.2.1) = cT ∧ Stp [13] aF cS x.2.2.2.2 w' ∧ Blk 13 x.2.2.2.2 w' F 100 [vi 0, vu x.1, vu x.2.1, vu x.2.2.1, vu x.2.2.2.1, vB false, vb 0]) (fun x => tp []) kok90 z z ?_ ?_
      ·refine Rets.enter Tryd.func90 z z ?_
       refine (show WC _ _ _ _ [(0, pt F 1), (1, vb (toU8 D))] _ from ?_)
       refine WC.draw 13 aF fmix (by kernel_rfl) ?_
       intro dk ap
       refine WS.y (ym z) z (WS.y (ym z) z (WS.y (Y.quo_b (b := 64) (by decide) z z) z (WS.y (yn z) z ?_)))
       obtain ⟨dN, aG, h⟩ := bnd h
       have aH := idx_in aG
       refine WS.y (Y.indexAddrA ty98 ty34 z z aH.1 aH.2) z ?_
       have aI := aC.st ap z
       refine WS.y (yl ty34 z z (CellsAt.idxU (xs := ([V, W, X, Z] : List UInt64)) (aI.cells 1 [vu V, vu W, vu X, vu Z] z) aG)) z (WS.y (ym z) z (WS.y (Y.rem_b (b := 64) (by decide) z z) z (WS.y (Y.conv_bu ty5.u ty143.u z) z (WS.y (Y.shl_uu (a := 1) z z) z (WS.y (Y.or_u z z) z (WS.y (yn z) z ?_))))))
       obtain ⟨dO, aJ, h⟩ := bnd h
       have aK := idx_in aJ
       refine WS.y (Y.indexAddrA ty98 ty34 z z aK.1 aK.2) z (WS.tail ?_)
       obtain ⟨C, a4, h⟩ := lt1 h
       refine WL.ren 14 z (congrArg vu a4.symm) (WL.store4 (xs := ([V, W, X, Z] : List UInt64)) (off := 1) (v := C) (fun i => [vi 0, vu (up4 i 0 C V), vu (up4 i 1 C W), vu (up4 i 2 C X), vu (up4 i 3 C Z), vB false, vb 0]) ty34 z z aJ z aI (le_ z) z z z z ?_)
       intro dl aR al
       replace al : Blk _ _ _ _ _ [vi 0, vu (up4 (((toU8 D) / 64).toNat : Int) 0 C V), vu (up4 (((toU8 D) / 64).toNat : Int) 1 C W), vu (up4 (((toU8 D) / 64).toNat : Int) 2 C X), vu (up4 (((toU8 D) / 64).toNat : Int) 3 C Z), vB false, vb 0] := al
       refine nl ?_
       exact At.res (.inr z) z .nil ⟨((up4 (((toU8 D) / 64).toNat : Int) 0 C V), (up4 (((toU8 D) / 64).toNat : Int) 1 C W), (up4 (((toU8 D) / 64).toNat : Int) 2 C X), (up4 (((toU8 D) / 64).toNat : Int) 3 C Z), aF), ⟨some1 h, (tr_ (su_ ap z) (su_ aR z)), al⟩, z⟩
      ·rintro ⟨da, db, dc, dd, de⟩ dm ⟨rfl, aq, aS⟩
       replace h := a3
       try dsimp only at h aq aS
       refine (show WL _ _ _ _ _ ((18, tp []) :: _) _ from ?_)
       refine nl (At.inBlock (th (rg (wY (ym z) z (wY (Y.add_i z z) z ?_)))))
       obtain ⟨cU, a5, h⟩ := lt1 h
       refine WL.yE (ya z) (congrArg vi a5.symm) z (nl ?_)
       exact At.round (da, db, dc, dd, cU, de) c9 (Nat.lt_succ_self _) ⟨next1 h aQ, (tr_ (su_ ak z) (su_ aq z)), aS⟩ (.cons z (.cons z (.cons z .nil)))
     ·refine WC.condF' z aD (WC.exit (At.thenX (At.loopX ?_)))
      exact At.hitB (σ := (UInt64 × UInt64 × UInt64 × UInt64 × Own)) (V, W, X, Z, aF) ⟨brk1 h aQ, (su_ ak z), aC⟩ .nil
    ·rintro ⟨df, dg, dh, di, dj⟩ dP ⟨rfl, aL, aT⟩
     replace h := flowK_go cR
     try dsimp only at h aL aT
     refine (show At _ _ _ [] _ from ?_)
     refine At.inBlockHit ?_
     exact At.res (.inr z) z .nil ⟨(df, dg, dh, di, dj), ⟨some1 h, (su_ aL z), aT⟩, z⟩
   ·rintro ⟨aM, aN, aO, aP, cw⟩ dQ ⟨rfl, H, aU⟩
    replace h := cP
    try dsimp only at h H aU
    refine (show WL _ _ _ _ _ ((18, tp []) :: _) _ from ?_)
    refine nl (th (sq (WC.drawH [11] [0, 1, 2, 3] cw 5 fmix z (by kernel_rfl) ?_)))
    intro dn E
    refine WD.y 0 z (by kernel_rfl) (fun dp dR aW => have a6 := aU.st E z; have a7 := a6.st aW z; yL ty100 z z (a7.cells 0 [vi 0, vu aM, vu aN, vu aO, vu aP, vB false, vb 0] z) z) z (WD.y 1 z (by kernel_rfl) (fun dr dS aX => have a8 := U.st t z; have a9 := a8.st j z; have ba := a9.st T z; have bb := ba.st H z; have bc := bb.st E z; have bd := bc.st aX z; yL ty102 z z bd.at_ z) z (WD.heavy 2 z (by kernel_rfl) ?_))
    have bi := (((M.st j z).st T z).st H z).st E z
    refine WL.store (v := ag [vi 0, vu aM, vu aN, vu aO, vu aP, vB false, vb 0]) (cells' := [vi 0, vu aM, vu aN, vu aO, vu aP, vB false, vb 0]) ty100 z z bi z (le_ z) z z ?_
    intro ds aa bj
    refine nl (At.dq (su_ aa z) (WD.y 3 z (by kernel_rfl) (fun _ _ _ => ya z) z (WD.phase [12] [0, 1, 2, 3, 4] (by kernel_rfl) (by kernel_rfl) (WD.heavy 4 z (by kernel_rfl) ?_))))
    have bn := (((P.st T z).st H z).st E z).st aa z
    refine WL.store (v := ag [vi 0, vi 0]) (cells' := [vi 0, vi 0]) ty102 z z bn z (le_ z) z z ?_
    intro bo ab bp
    refine nl (At.dq (su_ ab z) (WD.done_ (by kernel_rfl) (th (rt (At.inBlockR (At.thenR ?_))))))
    obtain ⟨rfl, rfl, rfl⟩ := tup3 h
    have bq : Stp [11, 12, 13] (Lg.O0 A) w cw bo := (tr_ (su_ t z) (tr_ (su_ j z) (tr_ (su_ T z) (tr_ (su_ H z) (tr_ (su_ E z) (tr_ (su_ aa z) (su_ ab z)))))))
    have br := bj.st ab z
    exact At.res (.inl z) z (.cell z (br.runAg 0 [vi 0, vu aM, vu aN, vu aO, vu aP, vB false, vb 0] ty100 z z z) (.tmp z (.cell z (bp.runAg 0 [vi 0, vi 0] ty102 z z z) .nil))) ⟨z, (se_ bq z z)⟩
  ·refine WC.condF' z az (sq (rg (wY (Y.eql_b (b := 91) z z) z ?_)))
   obtain ⟨dT, bs, h⟩ := lt1 h
   refine WL.yE (ya z) (congrArg vB bs.symm) z (nl (th ?_))
   rcases cnd h with ⟨am, h⟩ | ⟨am, h⟩
   ·refine WC.condT' z am (sq (rg (wY (ym z) z (wY (ym z) z ?_))))
    have bu := (U.st t z).st j z
    obtain ⟨⟨m, dU, Q⟩, bw, h⟩ := bnd h
    refine WL.call (vals := [vs a0, vi a1]) kok70 z z (c_glob_class (A := fun _ => True) bu.at_ trivial bw) ?_
    rintro dt du ⟨rfl, bx⟩
    obtain ⟨cV, c0, c1, ac⟩ := adoptE G (fun k => 1) bx
    refine wY (yx z z) z (wY (yx z z) z (wY (yx z z) z ?_))
    have bA := (M.st j z).st ac z
    refine WL.store (v := ag [vi m.kind, vu m.set.a0, vu m.set.a1, vu m.set.a2, vu m.set.a3, vB m.plain, vb m.c]) (cells' := [vi m.kind, vu m.set.a0, vu m.set.a1, vu m.set.a2, vu m.set.a3, vB m.plain, vb m.c]) ty100 z z bA z (le_ z) z z ?_
    intro dw ar bB
    refine wY (ya z) z ?_
    have bD := (P.st ac z).st ar z
    refine WL.store (v := ag [vi Q.at_, vi Q.e]) (cells' := [vi Q.at_, vi Q.e]) ty102 z z bD z (le_ z) z z ?_
    intro bE au bF
    refine nl (th (rt (At.inBlockR (At.thenR ?_))))
    obtain ⟨rfl, rfl, rfl⟩ := tup3 h
    have bG : Stp [11, 12] (Lg.O0 A) w cV bE := (tr_ (su_ t z) (tr_ (su_ j z) (tr_ (su_ ac z) (tr_ (su_ ar z) (su_ au z)))))
    have bH := bB.st au z
    exact At.res (.inl z) z (.cell z (bH.runAg 0 [vi m.kind, vu m.set.a0, vu m.set.a1, vu m.set.a2, vu m.set.a3, vB m.plain, vb m.c] ty100 z z z) (.tmp z (.cell z (bF.runAg 0 [vi Q.at_, vi Q.e] ty102 z z z) .nil))) ⟨z, (se_ bG z z)⟩
   ·refine WC.condF' z am (sq (rg (wY (Y.eql_b (b := 92) z z) z ?_)))
    obtain ⟨dV, bI, h⟩ := lt1 h
    refine WL.yE (ya z) (congrArg vB bI.symm) z (nl (th ?_))
    rcases cnd h with ⟨an, h⟩ | ⟨an, h⟩
    ·refine WC.condT' z an (sq (sq (rg (wY (ym z) z (wY (Y.add_i z z) z (wY (ym z) z (wY (Y.len_s ty9 z) z (wY (Y.eql_i z z) z (nl ?_)))))))))
     refine th ?_
     rcases cnd h with ⟨ao, h⟩ | ⟨ao, h⟩
     ·refine WC.condT' z ao (sq (rg (wY (yb (vals := []) (cells := [vi 0, vu 0, vu 0, vu 0, vu 0, vB false, vb 0]) (fe_ z) (by kernel_rfl)) z (wY (ym z) z (wY (yb (vals := [(0, vi a1), (1, vi 2)]) (cells := [vi a1, vi 2]) (fe_ z) (by kernel_rfl)) z ?_)))))
      have bJ := M.st j z
      refine WL.store (v := ag [vi 0, vu 0, vu 0, vu 0, vu 0, vB false, vb 0]) (cells' := [vi 0, vu 0, vu 0, vu 0, vu 0, vB false, vb 0]) ty100 z z bJ z (le_ z) z z ?_
      intro dx av bK
      refine wY (ya z) z ?_
      have bL := P.st av z
      refine WL.store (v := ag [vi a1, vi 2]) (cells' := [vi a1, vi 2]) ty102 z z bL z (le_ z) z z ?_
      intro bM ax bO
      refine nl (th (rt (At.thenR (At.inBlockR (At.thenR ?_)))))
      obtain ⟨rfl, rfl, rfl⟩ := tup3 h
      have bP : Stp [11, 12] (Lg.O0 A) w G bM := (tr_ (su_ t z) (tr_ (su_ j z) (tr_ (su_ av z) (su_ ax z))))
      have bQ := bK.st ax z
      exact At.res (.inl z) z (.cell z (bQ.runAg 0 [vi 0, vu 0, vu 0, vu 0, vu 0, vB false, vb 0] ty100 z z z) (.tmp z (.cell z (bO.runAg 0 [vi a1, vi 2] ty102 z z z) .nil))) ⟨z, (se_ bP z z)⟩
     ·refine WC.condF' z ao (sk (th (sq (WC.drawH [11] [0, 1, 2, 3, 4, 5, 6, 7] G 9 fmix z (by kernel_rfl) ?_))))
      intro dy I
      refine WD.y 0 z (by kernel_rfl) (fun _ _ _ => ym z) z (WD.y 1 z (by kernel_rfl) (fun _ _ _ => ym z) z (WD.y 2 z (by kernel_rfl) (fun _ _ _ => Y.add_i z z) z ?_))
      obtain ⟨cW, bR, h⟩ := bnd h
      refine WD.y 3 z (by kernel_rfl) (fun _ _ _ => Y.index_s ty9 z z bR) z (WD.y 5 z (by kernel_rfl) (fun dz dW aY => have bS := U.st t z; have bT := bS.st j z; have bU := bT.st I z; have bW := bU.st aY z; yL ty102 z z bW.at_ z) z (WD.heavy 4 z (by kernel_rfl) ?_))
      obtain ⟨o, bX, h⟩ := bnd h
      refine WL.call (vals := [vb cW]) kok71 z z (c_glob_byteOf bX) ?_
      rintro dA dB ⟨rfl, bY⟩
      obtain ⟨cX, c2, c3, J⟩ := adoptE G (fun k => 1) bY
      refine nl (At.dq (su_ J z) (WD.heavy 6 z (by kernel_rfl) ?_))
      have b1 := ((M.st j z).st I z).st J z
      refine WL.store (v := ag [vi o.kind, vu o.set.a0, vu o.set.a1, vu o.set.a2, vu o.set.a3, vB o.plain, vb o.c]) (cells' := [vi o.kind, vu o.set.a0, vu o.set.a1, vu o.set.a2, vu o.set.a3, vB o.plain, vb o.c]) ty100 z z b1 z (le_ z) z z ?_
      intro dC ad b2
      refine nl (At.dq (su_ ad z) (WD.y 7 z (by kernel_rfl) (fun _ _ _ => ya z) z (WD.phase [12] [0, 1, 2, 3, 4, 5, 6, 7, 8] (by kernel_rfl) (by kernel_rfl) (WD.heavy 8 z (by kernel_rfl) ?_))))
      have b5 := ((P.st I z).st J z).st ad z
      refine WL.store (v := ag [vi 0, vi 0]) (cells' := [vi 0, vi 0]) ty102 z z b5 z (le_ z) z z ?_
      intro b6 ae b7
      refine nl (At.dq (su_ ae z) (WD.done_ (by kernel_rfl) (th (rt (At.inBlockR (At.thenR ?_))))))
      obtain ⟨rfl, rfl, rfl⟩ := tup3 h
      have b8 : Stp [11, 12] (Lg.O0 A) w cX b6 := (tr_ (su_ t z) (tr_ (su_ j z) (tr_ (su_ I z) (tr_ (su_ J z) (tr_ (su_ ad z) (su_ ae z))))))
      have b9 := b2.st ae z
      exact At.res (.inl z) z (.cell z (b9.runAg 0 [vi o.kind, vu o.set.a0, vu o.set.a1, vu o.set.a2, vu o.set.a3, vB o.plain, vb o.c] ty100 z z z) (.tmp z (.cell z (b7.runAg 0 [vi 0, vi 0] ty102 z z z) .nil))) ⟨z, (se_ b8 z z)⟩
    ·refine WC.condF' z an (sk (At.inBlock (th (sq (WC.drawH [11] [0, 1, 2, 3, 4, 5, 6] G 8 fmix z (by kernel_rfl) ?_)))))
     intro dD K
     refine WD.y 0 z (by kernel_rfl) (fun _ _ _ => ym z) z (WD.y 1 z (by kernel_rfl) (fun _ _ _ => ym z) z ?_)
     obtain ⟨cY, ca, h⟩ := bnd h
     refine WD.y 2 z (by kernel_rfl) (fun _ _ _ => Y.index_s ty9 z z ca) z (WD.y 4 z (by kernel_rfl) (fun dE dX aZ => have cb := U.st t z; have cc := cb.st j z; have cd := cc.st K z; have ce := cd.st aZ z; yL ty102 z z ce.at_ z) z (WD.heavy 3 z (by kernel_rfl) ?_))
     obtain ⟨r, cf, h⟩ := bnd h
     refine WL.call (vals := [vb cY]) kok71 z z (c_glob_byteOf cf) ?_
     rintro dF dG ⟨rfl, cg⟩
     obtain ⟨cZ, c4, c5, L⟩ := adoptE G (fun k => 1) cg
     refine nl (At.dq (su_ L z) (WD.heavy 5 z (by kernel_rfl) ?_))
     have cj := ((M.st j z).st K z).st L z
     refine WL.store (v := ag [vi r.kind, vu r.set.a0, vu r.set.a1, vu r.set.a2, vu r.set.a3, vB r.plain, vb r.c]) (cells' := [vi r.kind, vu r.set.a0, vu r.set.a1, vu r.set.a2, vu r.set.a3, vB r.plain, vb r.c]) ty100 z z cj z (le_ z) z z ?_
     intro dH af ck
     refine nl (At.dq (su_ af z) (WD.y 6 z (by kernel_rfl) (fun _ _ _ => ya z) z (WD.phase [12] [0, 1, 2, 3, 4, 5, 6, 7] (by kernel_rfl) (by kernel_rfl) (WD.heavy 7 z (by kernel_rfl) ?_))))
     have cn := ((P.st K z).st L z).st af z
     refine WL.store (v := ag [vi 0, vi 0]) (cells' := [vi 0, vi 0]) ty102 z z cn z (le_ z) z z ?_
     intro co ah cq
     refine nl (At.dq (su_ ah z) (WD.done_ (by kernel_rfl) (th (rt ?_))))
     obtain ⟨rfl, rfl, rfl⟩ := tup3 h
     have cr : Stp [11, 12] (Lg.O0 A) w cZ co := (tr_ (su_ t z) (tr_ (su_ j z) (tr_ (su_ K z) (tr_ (su_ L z) (tr_ (su_ af z) (su_ ah z))))))
     have cs := ck.st ah z
     exact At.res (.inl z) z (.cell z (cs.runAg 0 [vi r.kind, vu r.set.a0, vu r.set.a1, vu r.set.a2, vu r.set.a3, vB r.plain, vb r.c] ty100 z z z) (.tmp z (.cell z (cq.runAg 0 [vi 0, vi 0] ty102 z z z) .nil))) ⟨z, (se_ cr z z)⟩
theorem c_glob_Compile {A : Nat → Prop} {a0 : List UInt8} {w : World} (hG0 : CellsAt w 0 0 [vi 0, vi 0]) (hGA0 : A 0) {r0 : Option glob_Glob} {r1 : Int} {r2 : Int} (h : glob_Compile a0 = some (r0, r1, r2)) : Rets Tryd.prog 26 [vs a0] w (fun v w' => ∃ (u0 : Value), v = tp [u0, vi r1, vi r2] ∧ Ext w w' ∧ OptP u0 r0 fun d => ∃ (p0 : Nat) (ah : Value), u0 = .pointer (some ⟨p0, 0, none⟩) ∧ (w'.heap[p0]? = some (.cells (List.toArray [vs d.text, ah]) 96 (0, 0)) ∧ w.heap.size ≤ p0) ∧ Sl rep_glob_piece w' (fun k => w.heap.size ≤ k ∧ k ≠ p0) ah d.pieces) := by
 unfold glob_Compile at h
 refine Rets.enter Tryd.func26 z z ?_
 have bb : CAt [0, 1] (Lg.O0 A) w 0 0 [vi 0, vi 0] := CAt.glob hG0 (if_pos hGA0)
 refine (show WC _ _ _ _ [(0, vs a0)] _ from ?_)
 refine sq (rg (wY (ya z) z (wY (ya z) z (wY (ya z) z (nl (th (sq (sq (rg ?_)))))))))
 refine wY (ym z) z (wY (Y.len_s ty9 z) z (wY (Y.gtr_i z z) z (nl (th ?_))))
 rcases cnd h with ⟨S, h⟩ | ⟨S, h⟩
 ·refine WC.condT' z S (sq (rg (wY (ya z) z (wY (ya z) z (wY (ya z) z (nl (th (rt (At.thenR ?_)))))))))
  obtain ⟨rfl, rfl, rfl⟩ := tup3 h
  have bc : Stp [] (Lg.O0 A) w (Lg.O0 A) w := (sr_ _ _ _)
  exact At.res (.inl z) z (.tmp z (.tmp z (.tmp z .nil))) ⟨Value.pointer none, z, (se_ bc z z), z⟩
 ·refine WC.condF' z S (sk (th (sq (rg (wY (ym z) z (wY (yb (vals := [(0, vs a0)]) (cells := [vs a0, sn]) (fe_ z) (by kernel_rfl)) z (WL.box (O := (Lg.O0 A)) 11 [vs a0, sn] z z z ?_)))))))
  intro G ai aj K bd
  refine wY (ya z) z (nl (th (sq (sq (rg (wY (ya z) z (nl (th (WC.block ?_)))))))))
  obtain ⟨a7, h, ak⟩ := flow1 h
  obtain ⟨a8, h⟩ := loop_some h
  refine WC.joinB 0 (σ := (List glob_piece × Own × Value)) (fun x w' => a7 = .go x.1 ∧ Stp [11, 12, 13, 15, 1001] ai aj x.2.1 w' ∧ OwnSl 1002 rep_glob_piece 100 x.2.1 w' x.2.2 x.1 ∧ Blk 11 x.2.1 w' G 96 [vs a0, x.2.2]) (fun x => [(2, pt G 0)]) ?_ ?_
  ·refine WC.loop (σ := (List glob_piece × Int × Own × Value)) (fun x k w' => loopN k (glob_Compile_lp1 a0) (x.1, x.2.1) = some a7 ∧ Stp [11, 12, 13, 15, 1001] ai aj x.2.2.1 w' ∧ OwnSl 1001 rep_glob_piece 100 x.2.2.1 w' x.2.2.2 x.1 ∧ Blk 11 x.2.2.1 w' G 96 [vs a0, x.2.2.2]) (fun x => [(0, vs a0), (2, pt G 0), (5, vi x.2.1)]) ([], 0, ai, sn) a8 (.cons z (.cons z (.cons z .nil))) ⟨h, (sr_ _ _ _), (OwnSl.nil 1001 rep_glob_piece 100), bd⟩ ?_
   rintro ⟨bC, a9, bD, bE⟩ a8 bQ ⟨h, D, T, L⟩
   obtain ⟨bF, b4, rfl, h, U⟩ := rnd1 h
   unfold glob_Compile_lp1 at h
   try dsimp only at h D T L
   refine (show WC _ _ _ _ [(0, vs a0), (2, pt G 0), (5, vi a9)] _ from ?_)
   refine sq (sq (rg (wY (ym z) z (wY (ym z) z (wY (Y.len_s ty9 z) z (wY (Y.lss_i z z) z (nl (th ?_))))))))
   rcases cnd h with ⟨V, h⟩ | ⟨V, h⟩
   ·refine WC.condT' z V (sk (th (WC.block (sq (rg (wY (ym z) z (wY (ym z) z ?_)))))))
    have al := (bb.st K z).st D z
    obtain ⟨⟨j, b5, H⟩, bg, h⟩ := bnd h
    refine WL.call (vals := [vs a0, vi a9]) kok48 z z (c_glob_next (A := fun _ => True) al.at_ trivial bg) ?_
    rintro bR bS ⟨rfl, bh⟩
    obtain ⟨bG, bH, bI, t⟩ := adoptE bD (fun k => 1) bh
    refine wY (ym z) z (wY (yx z z) z (wY (yx z z) z (wY (yx z z) z (WL.alloc (O := bG) 12 [vi 0, vu 0, vu 0, vu 0, vu 0, vB false, vb 0] ty100 z z ?_))))
    intro b6 bJ bT C bi
    refine WL.alloc (O := bJ) 13 [vi 0, vi 0] ty102 z z ?_
    intro b7 ab bU m bj
    have bk := bi.st m z
    refine WL.store (v := ag [vi j.kind, vu j.set.a0, vu j.set.a1, vu j.set.a2, vu j.set.a3, vB j.plain, vb j.c]) (cells' := [vi j.kind, vu j.set.a0, vu j.set.a1, vu j.set.a2, vu j.set.a3, vB j.plain, vb j.c]) ty100 z z bk z (le_ z) z z ?_
    intro bW o bl
    refine wY (ya z) z ?_
    have bm := bj.st o z
    refine WL.store (v := ag [vi H.at_, vi H.e]) (cells' := [vi H.at_, vi H.e]) ty102 z z bm z (le_ z) z z ?_
    intro bX r am
    refine nl (th (sq (sq (rg (wY (yL ty102 z z (am.cells 0 [vi H.at_, vi H.e] z) z) z ?_)))))
    have br := ((((al.st t z).st C z).st m z).st o z).st r z
    refine wY (yL ty102 z z br.at_ z) z (wY (Y.neq_ag agok102 z z (EqF.cons (by decide) (fun w => run_part_plain w (by kernel_rfl) z) (fun w => run_part_plain w (by kernel_rfl) z) (EqV.i (a := H.at_) (b := 0) ty3.u) (EqF.cons (by decide) (fun w => run_part_plain w (by kernel_rfl) z) (fun w => run_part_plain w (by kernel_rfl) z) (EqV.i (a := H.e) (b := 0) ty25.u) EqF.nil))) z (nl (th ?_)))
    rcases cnd h with ⟨W, h⟩ | ⟨W, h⟩
    ·refine WC.condT' z W (sq (WC.draw 6 ab fmix (by kernel_rfl) ?_))
     intro bs ac
     refine WS.y (yf fo102_0 z) z ?_
     have an := am.st ac z
     refine WS.y (yl ty3 z z (an.cell 0 _ z)) z (WS.y (yf fo102_1 z) z (WS.y (yl ty25 z z (an.cell 1 _ z)) z (WS.y (ya z) z (WS.y (ya z) z (WS.tail (wY (ya z) z (nl (th (rt ?_)))))))))
     refine At.thenR (At.inBlockR (At.loopR ?_))
     have h := outr1 h U ak
     refine At.joinBR (At.inBlockR (At.thenR ?_))
     obtain ⟨rfl, rfl, rfl⟩ := tup3 h
     have bt : Stp [11, 12, 13, 15, 1001] (Lg.O0 A) w ab bs := (tr_ (su_ K z) (tr_ (su_ D z) (tr_ (su_ t z) (tr_ (su_ C z) (tr_ (su_ m z) (tr_ (su_ o z) (tr_ (su_ r z) (su_ ac z))))))))
     exact At.res (.inl z) z (.tmp z (.tmp z (.tmp z .nil))) ⟨Value.pointer none, z, (se_ bt z z), z⟩
    ·refine WC.condF' z W (sk (th (sq (WC.drawH [1001] [0, 1, 2, 3, 4, 5, 6, 7, 8, 9] ab 11 fmix z (by kernel_rfl) ?_))))
     intro bY E
     refine WD.y 0 z (by kernel_rfl) (fun _ _ _ => ym z) z (WD.y 1 z (by kernel_rfl) (fun _ _ _ => ym z) z (WD.y 2 z (by kernel_rfl) (fun _ _ _ => yn z) z (WD.y 3 z (by kernel_rfl) (fun _ _ _ => yf fo96_1 z) z (WD.y 4 z (by kernel_rfl) (fun bZ b8 av => have bu := L.st t z; have ax := bu.st C z; have ay := ax.st m z; have az := ay.st o z; have aA := az.st r z; have aC := aA.st E z; have aD := aC.st av z; yl ty94 z z (aD.cell 1 _ z)) z (WD.y 5 z (by kernel_rfl) (fun bL b0 ao => have aE := bl.st r z; have aF := aE.st E z; have aG := aF.st ao z; yL ty100 z z (aG.cells 0 [vi j.kind, vu j.set.a0, vu j.set.a1, vu j.set.a2, vu j.set.a3, vB j.plain, vb j.c] z) z) z (WD.heavy 6 z (by kernel_rfl) (WL.buildSlice (O := ab) (R := rep_glob_piece) (vals := [(0, ag [vi j.kind, vu j.set.a0, vu j.set.a1, vu j.set.a2, vu j.set.a3, vB j.plain, vb j.c])]) 14 [vi j.kind, vu j.set.a0, vu j.set.a1, vu j.set.a2, vu j.set.a3, vB j.plain, vb j.c] (xs := [j]) (by decide) ty94 ty100 (by decide) (by decide) (fe_ z) (by kernel_rfl) z ⟨[vi j.kind, vu j.set.a0, vu j.set.a1, vu j.set.a2, vu j.set.a3, vB j.plain, vb j.c], [], z, ⟨[vi j.kind], [vu j.set.a0, vu j.set.a1, vu j.set.a2, vu j.set.a3, vB j.plain, vb j.c], z, z, ⟨[vu j.set.a0, vu j.set.a1, vu j.set.a2, vu j.set.a3], [vB j.plain, vb j.c], z, ⟨[vu j.set.a0], [vu j.set.a1, vu j.set.a2, vu j.set.a3], z, z, ⟨[vu j.set.a1], [vu j.set.a2, vu j.set.a3], z, z, ⟨[vu j.set.a2], [vu j.set.a3], z, z, z⟩⟩⟩, ⟨[vB j.plain], [vb j.c], z, z, z⟩⟩⟩, z⟩ z ?_)))))))
     intro b1 b2 bM F aH
     refine nl (At.dq (su_ F z) (WD.heavy 7 z (by kernel_rfl) ?_))
     obtain ⟨aI, ap, h⟩ := bnd h
     have aP := ((((((T.st t z z z).st C z z z).st m z z z).st o z z z).st r z z z).st E z z z).st F z z z
     refine WL.append (by decide) ty94 ty100 z (by decide) z z aP aH.src ap z ?_
     intro b3 bw bO I ad
     refine nl (At.dq (su_ I z) (WD.y 8 z (by kernel_rfl) (fun _ _ _ => yn z) z (WD.y 9 z (by kernel_rfl) (fun _ _ _ => yf fo96_1 z) z (WD.phase [11] [0, 1, 2, 3, 4, 5, 6, 7, 8, 9, 10] (by kernel_rfl) (by kernel_rfl) (WD.heavy 10 z (by kernel_rfl) ?_)))))
     have aQ := h
     obtain ⟨X, Z, aa, rfl⟩ := ad.shape
     have h := aQ
     have aZ := (((((((L.st t z).st C z).st m z).st o z).st r z).st E z).st F z).st I z
     refine WL.store (v := (vl X Z aa)) (cells' := [vs a0, (vl X Z aa)]) ty94 z z aZ z (le_ z) z z ?_
     intro bP J a1
     refine nl (At.dq (su_ J z) (WD.done_ (by kernel_rfl) (th (rg (wY (ym z) z (wY (ym z) z (wY (Y.add_i z z) z ?_)))))))
     obtain ⟨bx, a2, h⟩ := lt1 h
     refine WL.yE (ya z) (congrArg vi a2.symm) z (nl (At.inBlock ?_))
     have a3 := ad.st J z z z
     exact At.round (aI, bx, bw, (vl X Z aa)) bF (Nat.lt_succ_self _) ⟨next1 h U, (tr_ (su_ D z) (tr_ (su_ t z) (tr_ (su_ C z) (tr_ (su_ m z) (tr_ (su_ o z) (tr_ (su_ r z) (tr_ (su_ E z) (tr_ (su_ F z) (tr_ (su_ I z) (su_ J z)))))))))), a3, a1⟩ (.cons z (.cons z (.cons z .nil)))
   ·refine WC.condF' z V (WC.exit (At.thenX (At.loopX ?_)))
    obtain ⟨bz, P, a4⟩ := OwnSl.rlb 1002 rfl T
    have a5 := L.st P z
    exact At.hitB (σ := (List glob_piece × Own × Value)) (bC, bz, bE) ⟨brk1 h U, (tr_ (su_ D z) (su_ P z)), a4, a5⟩ (.cons z .nil)
  ·rintro ⟨b9, ca, bK⟩ bA ⟨rfl, ae, aq, ar⟩
   replace h := flowK_go ak
   try dsimp only at h ae aq ar
   refine (show At _ _ _ [(2, pt G 0)] _ from ?_)
   refine At.inBlockHit (th (sq (rg (wY (ym z) z (wY (ya z) z (wY (ya z) z (wY (ya z) z (nl (th ?_)))))))))
   refine rt ?_
   obtain ⟨rfl, rfl, rfl⟩ := tup3 h
   obtain ⟨bB, Q, a6⟩ := OwnSl.giveF rfl flat_glob_piece aq
   have M : Stp [11, 12, 13, 15, 1001, 1002] (Lg.O0 A) w bB bA := (tr_ (su_ K z) (tr_ (su_ ae z) (su_ Q z)))
   have af := ar.st Q z
   exact At.res (.inl z) z (.tmp z (.tmp z (.tmp z .nil))) ⟨pt G 0, z, (se_ M z z), ⟨G, bK, z, (Blk.outF af M low0 z), (Sl.outFN a6 M low0 af.lab z)⟩⟩
theorem c_label_small {a0 : UInt8} {w : World} {r0 : Bool} (h : label_small a0 = some r0) : Rets Tryd.prog 93 [vb a0] w (fun v w' => v = vB r0 ∧ Ext w w') := by
 unfold label_small at h
 refine Rets.enter Tryd.func93 z z ?_
 refine (show WC _ _ _ _ [(0, vb a0)] _ from ?_)
 refine sq (rg (wY (ya z) z (nl (th (sq (rg (wY (ym z) z (wY (Y.geq_b (b := 97) z z) z (wY (ym z) z ?_)))))))))
 refine WL.cut 3 (σ := Unit) (fun _ w' => w = w') (fun _ => [(8, vB ((decide (97 ≤ a0)) && (decide (a0 ≤ 122))))]) ?_ ?_
 ·refine WL.part 5 z (fun j => ?_) (fun j => ?_)
  ·refine ug z z (wY (ym z) z (ug z z (wY (Y.leq_b (b := 122) z z) z (wY (Y.pick (b := true) z z) z (WL.ren (v' := vB ((decide (97 ≤ a0)) && (decide (a0 ≤ 122)))) 8 z (congrArg vB (andT j)) ?_)))))
   exact nl (At.join () z (.cons z .nil))
  ·refine WL.gS z z z z (WL.gS z z z z (wY (Y.pick (b := false) z z) z (WL.ren (v' := vB ((decide (97 ≤ a0)) && (decide (a0 ≤ 122)))) 8 z (congrArg vB (andF j)) ?_)))
   exact nl (At.join () z (.cons z .nil))
 ·rintro _ _ rfl
  refine (show WL _ _ _ _ _ [(8, vB ((decide (97 ≤ a0)) && (decide (a0 ≤ 122))))] _ from ?_)
  obtain ⟨r, m, h⟩ := lt1 h
  refine WL.yE (ya z) (congrArg vB m.symm) z (nl (th (rt ?_)))
  obtain rfl := some1 h
  have o : Stp [] (Lg.O0 (fun _ => False)) w (Lg.O0 (fun _ => False)) w := (sr_ _ _ _)
  exact At.res (.inl z) z (.tmp z .nil) ⟨z, (se_ o z z)⟩
theorem c_label_isName {a0 : List UInt8} {w : World} {r0 : Bool} (h : label_isName a0 = some r0) : Rets Tryd.prog 72 [vs a0] w (fun v w' => v = vB r0 ∧ Ext w w') := by
 unfold label_isName at h
 refine Rets.enter Tryd.func72 z z ?_
 refine (show WC _ _ _ _ [(0, vs a0)] _ from ?_)
 refine sq (rg (wY (ya z) z (nl (th (sq (sq (rg (wY (ym z) z (wY (Y.eql_s (b := []) z z) z ?_)))))))))
 refine wY (ym z) z ?_
 refine WL.cut 4 (σ := Unit) (fun _ w' => w = w') (fun _ => [(0, vs a0), (11, vB ((decide (a0 = [])) || (decide (32 < (a0.length : Int)))))]) ?_ ?_
 ·refine WL.part 7 z (fun F => ?_) (fun F => ?_)
  ·refine WL.gS z z z z (WL.gS z z z z (WL.gS z z z z (wY (Y.pick (b := true) z z) z (WL.ren (v' := vB ((decide (a0 = [])) || (decide (32 < (a0.length : Int))))) 11 z (congrArg vB (orT F)) ?_))))
   exact nl (At.join () z (.cons z (.cons z .nil)))
  ·refine ug z z (wY (ym z) z (ug z z (wY (Y.len_s ty9 z) z (ug z z (wY (Y.gtr_i z z) z (wY (Y.pick (b := false) z z) z (WL.ren (v' := vB ((decide (a0 = [])) || (decide (32 < (a0.length : Int))))) 11 z (congrArg vB (orF F)) ?_)))))))
   exact nl (At.join () z (.cons z (.cons z .nil)))
 ·rintro _ _ rfl
  refine (show WL _ _ _ _ _ [(0, vs a0), (11, vB ((decide (a0 = [])) || (decide (32 < (a0.length : Int)))))] _ from ?_)
  refine wY (ym z) z ?_
  obtain ⟨aE, h, aj⟩ := bnd h
  refine WL.cut 5 (σ := (Bool × Own)) (fun x w' => x.1 = aE ∧ Stp [] (Lg.O0 (fun _ => False)) w x.2 w') (fun x => [(0, vs a0), (17, vB x.1)]) ?_ ?_
  ·rcases cnd h with ⟨G, h⟩ | ⟨G, h⟩
   ·refine WL.ren 12 z (congrArg vB G) (WL.gS z z z z (WL.gS z z z z (WL.gS z z z z (WL.gS z z z z (wY (Y.pick (b := true) z z) z ?_)))))
    exact nl (At.join (σ := (Bool × Own)) (true, (Lg.O0 (fun _ => False))) ⟨some1 h, (sr_ _ _ _)⟩ (.cons z (.cons z .nil)))
   ·refine WL.ren 12 z (congrArg vB G) (ug z z (wY (ym z) z (ug z z ?_)))
    obtain ⟨aF, ak, h⟩ := bnd h
    refine wY (Y.index_s ty9 z z ak) z (ug z z ?_)
    obtain ⟨aG, al, h⟩ := bnd h
    refine WL.call (vals := [vb aF]) kok93 z z (c_label_small al) ?_
    rintro aR aS ⟨rfl, am⟩
    obtain ⟨aH, aI, aJ, Z⟩ := adoptE (Lg.O0 (fun _ => False)) (fun k => 1) am
    refine ug z z (wY (Y.not z) z (wY (Y.pick (b := false) z z) z ?_))
    exact nl (At.join (σ := (Bool × Own)) ((!aG), aH) ⟨some1 h, (su_ Z z)⟩ (.cons z (.cons z .nil)))
  ·rintro ⟨aK, ad⟩ an ⟨rfl, C⟩
   replace h := aj
   try dsimp only at h C
   refine (show WL _ _ _ _ _ [(0, vs a0), (17, vB aK)] _ from ?_)
   refine nl (th ?_)
   rcases cnd h with ⟨H, h⟩ | ⟨H, h⟩
   ·refine WC.condT' z H (sq (rg (wY (ya z) z (nl (th (rt (At.thenR ?_)))))))
    obtain rfl := some1 h
    have ao : Stp [] (Lg.O0 (fun _ => False)) w ad an := (su_ C z)
    exact At.res (.inl z) z (.tmp z .nil) ⟨z, (se_ ao z z)⟩
   ·refine WC.condF' z H (sk (th (sq (sq (rg (wY (ym z) z (WL.s2b (O := ad) ty9 ty137 ty5 z z ?_)))))))
    intro o U V S W
    refine wY (Y.len ty137 z W) z (wY (ym z) z (nl (th (WC.block ?_))))
    obtain ⟨ae, h, X⟩ := flow1 h
    obtain ⟨af, h⟩ := loop_some h
    refine WC.joinB 0 (σ := Own) (fun x w' => ae = .go () ∧ Stp [] U V x w') (fun x => []) ?_ ?_
    ·refine WC.loop (σ := (Int × Own)) (fun x k w' => loopN k (label_isName_lp1 a0) x.1 = some ae ∧ Stp [] U V x.2 w') (fun x => [(19, o), (20, vi (a0.length : Int)), (21, vi x.1)]) (0, U) af (.cons z (.cons z (.cons z .nil))) ⟨h, (sr_ _ _ _)⟩ ?_
     rintro ⟨r, ah⟩ af aT ⟨h, t⟩
     obtain ⟨aL, aX, rfl, h, I⟩ := rnd1 h
     unfold label_isName_lp1 at h
     try dsimp only at h t
     refine (show WC _ _ _ _ [(19, o), (20, vi (a0.length : Int)), (21, vi r)] _ from ?_)
     refine sq (rg (wY (Y.lss_i z z) z (nl (th (sq ?_)))))
     rcases cnd h with ⟨J, h⟩ | ⟨J, h⟩
     ·refine WC.condT' z J (sk (th (sq (WC.block (sq (rg ?_))))))
      obtain ⟨j, ap, h⟩ := bnd h
      have aq := W.f t z
      obtain ⟨aY, aP, aQ, aU, ar, au, av, K, aa, ax⟩ := Sl.at2 aq ap
      obtain rfl := aa
      replace K : CellsAt _ _ _ [vb j] := K
      have ab := CAt.frs K ax
      refine wY (Y.indexAddr ty137 ty5 z ar z au av) z (wY (yl ty5 z z ab.at_) z (wY (ya z) z (nl (th (sq (rg (wY (ym z) z ?_)))))))
      obtain ⟨m, ay, h⟩ := bnd h
      refine WL.call (vals := [vb j]) kok93 z z (c_label_small ay) ?_
      rintro aW D ⟨rfl, az⟩
      obtain ⟨ai, aM, aN, T⟩ := adoptE ah (fun k => 1) az
      refine wY (Y.not z) z (wY (ym z) z ?_)
      refine WL.cut 7 (σ := Unit) (fun _ w' => D = w') (fun _ => [(4, vb j), (19, o), (20, vi (a0.length : Int)), (21, vi r), (35, vB ((!m) && ((decide (j < 48)) || (decide (57 < j)))))]) ?_ ?_
      ·refine WL.part 28 z (fun L => ?_) (fun L => ?_)
       ·refine ug z z (wY (ym z) z (ug z z (wY (Y.lss_b (b := 48) z z) z (ug z z (wY (ym z) z ?_)))))
        refine WL.cut 3 (σ := Unit) (fun _ w' => D = w') (fun _ => [(4, vb j), (19, o), (20, vi (a0.length : Int)), (21, vi r), (28, vB true), (29, vb j), (30, vB (decide (j < 48))), (31, vB (decide (j < 48))), (34, vB ((decide (j < 48)) || (decide (57 < j))))]) ?_ ?_
        ·refine WL.part 31 z (fun E => ?_) (fun E => ?_)
         ·refine WL.gS z z z z (WL.gS z z z z (ug z z (wY (Y.pick (b := true) z z) z (WL.ren (v' := vB ((decide (j < 48)) || (decide (57 < j)))) 34 z (congrArg vB (orT E)) (WL.ren 31 z (congrArg vB E.symm) ?_)))))
          exact nl (At.join () z (.cons z (.cons z (.cons z (.cons z (.cons z (.cons z (.cons z (.cons z (.cons z .nil))))))))))
         ·refine ug z z (wY (ym z) z (ug z z (wY (Y.gtr_b (b := 57) z z) z (ug z z (wY (Y.pick (b := false) z z) z (WL.ren (v' := vB ((decide (j < 48)) || (decide (57 < j)))) 34 z (congrArg vB (orF E)) (WL.ren 31 z (congrArg vB E.symm) ?_)))))))
          exact nl (At.join () z (.cons z (.cons z (.cons z (.cons z (.cons z (.cons z (.cons z (.cons z (.cons z .nil))))))))))
        ·rintro _ _ rfl
         refine (show WL _ _ _ _ _ [(4, vb j), (19, o), (20, vi (a0.length : Int)), (21, vi r), (28, vB true), (29, vb j), (30, vB (decide (j < 48))), (31, vB (decide (j < 48))), (34, vB ((decide (j < 48)) || (decide (57 < j))))] _ from ?_)
         refine wY (Y.pick (b := true) z z) z (WL.ren (v' := vB ((!m) && ((decide (j < 48)) || (decide (57 < j))))) 35 z (congrArg vB (andT L)) ?_)
         exact nl (At.join () z (.cons z (.cons z (.cons z (.cons z (.cons z .nil))))))
       ·refine WL.gS z z z z (WL.gS z z z z (WL.gS z z z z (WL.gS z z z z (WL.gS z z z z (WL.gS z z z z (wY (Y.pick (b := false) z z) z (WL.ren (v' := vB ((!m) && ((decide (j < 48)) || (decide (57 < j))))) 35 z (congrArg vB (andF L)) ?_)))))))
        exact nl (At.join () z (.cons z (.cons z (.cons z (.cons z (.cons z .nil))))))
      ·rintro _ _ rfl
       refine (show WL _ _ _ _ _ [(4, vb j), (19, o), (20, vi (a0.length : Int)), (21, vi r), (35, vB ((!m) && ((decide (j < 48)) || (decide (57 < j)))))] _ from ?_)
       refine wY (ym z) z ?_
       refine WL.cut 3 (σ := Unit) (fun _ w' => D = w') (fun _ => [(4, vb j), (19, o), (20, vi (a0.length : Int)), (21, vi r), (39, vB (((!m) && ((decide (j < 48)) || (decide (57 < j)))) && (!decide (j = 95))))]) ?_ ?_
       ·refine WL.part 36 z (fun M => ?_) (fun M => ?_)
        ·refine ug z z (wY (ym z) z (ug z z (wY (Y.neq_b (b := 95) z z) z (wY (Y.pick (b := true) z z) z (WL.ren (v' := vB (((!m) && ((decide (j < 48)) || (decide (57 < j)))) && (!decide (j = 95)))) 39 z (congrArg vB (andT M)) ?_)))))
         exact nl (At.join () z (.cons z (.cons z (.cons z (.cons z (.cons z .nil))))))
        ·refine WL.gS z z z z (WL.gS z z z z (wY (Y.pick (b := false) z z) z (WL.ren (v' := vB (((!m) && ((decide (j < 48)) || (decide (57 < j)))) && (!decide (j = 95)))) 39 z (congrArg vB (andF M)) ?_)))
         exact nl (At.join () z (.cons z (.cons z (.cons z (.cons z (.cons z .nil))))))
       ·rintro _ _ rfl
        refine (show WL _ _ _ _ _ [(4, vb j), (19, o), (20, vi (a0.length : Int)), (21, vi r), (39, vB (((!m) && ((decide (j < 48)) || (decide (57 < j)))) && (!decide (j = 95))))] _ from ?_)
        refine wY (ym z) z ?_
        refine WL.cut 3 (σ := Unit) (fun _ w' => D = w') (fun _ => [(19, o), (20, vi (a0.length : Int)), (21, vi r), (43, vB ((((!m) && ((decide (j < 48)) || (decide (57 < j)))) && (!decide (j = 95))) && (!decide (j = 46))))]) ?_ ?_
        ·refine WL.part 40 z (fun P => ?_) (fun P => ?_)
         ·refine ug z z (wY (ym z) z (ug z z (wY (Y.neq_b (b := 46) z z) z (wY (Y.pick (b := true) z z) z (WL.ren (v' := vB ((((!m) && ((decide (j < 48)) || (decide (57 < j)))) && (!decide (j = 95))) && (!decide (j = 46)))) 43 z (congrArg vB (andT P)) ?_)))))
          exact nl (At.join () z (.cons z (.cons z (.cons z (.cons z .nil)))))
         ·refine WL.gS z z z z (WL.gS z z z z (wY (Y.pick (b := false) z z) z (WL.ren (v' := vB ((((!m) && ((decide (j < 48)) || (decide (57 < j)))) && (!decide (j = 95))) && (!decide (j = 46)))) 43 z (congrArg vB (andF P)) ?_)))
          exact nl (At.join () z (.cons z (.cons z (.cons z (.cons z .nil)))))
        ·rintro _ _ rfl
         refine (show WL _ _ _ _ _ [(19, o), (20, vi (a0.length : Int)), (21, vi r), (43, vB ((((!m) && ((decide (j < 48)) || (decide (57 < j)))) && (!decide (j = 95))) && (!decide (j = 46))))] _ from ?_)
         refine nl (th ?_)
         rcases cnd h with ⟨Q, h⟩ | ⟨Q, h⟩
         ·refine WC.condT' z Q (sq (rg (wY (ya z) z (nl (th (rt (At.inBlockR (At.thenR (At.loopR ?_)))))))))
          have h := outr1 h I X
          refine At.joinBR (At.inBlockR (At.thenR ?_))
          obtain rfl := some1 h
          have aA : Stp [] (Lg.O0 (fun _ => False)) w ai D := (tr_ (su_ C z) (tr_ (su_ S z) (tr_ (su_ t z) (su_ T z))))
          exact At.res (.inl z) z (.tmp z .nil) ⟨z, (se_ aA z z)⟩
         ·refine WC.condF' z Q (sk (At.inBlock (th (rg (wY (Y.add_i z z) z (wY (ym z) z (nl ?_)))))))
          exact At.round (w64 (r + 1), ai) aL (Nat.lt_succ_self _) ⟨next1 h I, (tr_ (su_ t z) (su_ T z))⟩ (.cons z (.cons z (.cons z .nil)))
     ·refine WC.condF' z J (WC.exit (At.thenX (At.loopX ?_)))
      exact At.hitB (σ := Own) ah ⟨brk1 h I, (su_ t z)⟩ .nil
    ·rintro aO aC ⟨rfl, ac⟩
     replace h := flowK_go X
     refine (show At _ _ _ [] _ from ?_)
     refine At.inBlockHit (th (sq (rg (wY (ya z) z (nl (th (rt ?_)))))))
     obtain rfl := some1 h
     have aD : Stp [] (Lg.O0 (fun _ => False)) w aO aC := (tr_ (su_ C z) (tr_ (su_ S z) (su_ ac z)))
     exact At.res (.inl z) z (.tmp z .nil) ⟨z, (se_ aD z z)⟩
theorem c_label_isValue {a0 : List UInt8} {w : World} {r0 : Bool} (h : label_isValue a0 = some r0) : Rets Tryd.prog 73 [vs a0] w (fun v w' => v = vB r0 ∧ Ext w w') := by
 unfold label_isValue at h
 refine Rets.enter Tryd.func73 z z ?_
 refine (show WC _ _ _ _ [(0, vs a0)] _ from ?_)
 refine sq (rg (wY (ya z) z (nl (th (sq (sq (rg (wY (ym z) z (wY (Y.eql_s (b := []) z z) z ?_)))))))))
 refine wY (ym z) z ?_
 refine WL.cut 4 (σ := Unit) (fun _ w' => w = w') (fun _ => [(0, vs a0), (11, vB ((decide (a0 = [])) || (decide (32 < (a0.length : Int)))))]) ?_ ?_
 ·refine WL.part 7 z (fun r => ?_) (fun r => ?_)
  ·refine WL.gS z z z z (WL.gS z z z z (WL.gS z z z z (wY (Y.pick (b := true) z z) z (WL.ren (v' := vB ((decide (a0 = [])) || (decide (32 < (a0.length : Int))))) 11 z (congrArg vB (orT r)) ?_))))
   exact nl (At.join () z (.cons z (.cons z .nil)))
  ·refine ug z z (wY (ym z) z (ug z z (wY (Y.len_s ty9 z) z (ug z z (wY (Y.gtr_i z z) z (wY (Y.pick (b := false) z z) z (WL.ren (v' := vB ((decide (a0 = [])) || (decide (32 < (a0.length : Int))))) 11 z (congrArg vB (orF r)) ?_)))))))
   exact nl (At.join () z (.cons z (.cons z .nil)))
 ·rintro _ _ rfl
  refine (show WL _ _ _ _ _ [(0, vs a0), (11, vB ((decide (a0 = [])) || (decide (32 < (a0.length : Int)))))] _ from ?_)
  refine nl (th ?_)
  rcases cnd h with ⟨t, h⟩ | ⟨t, h⟩
  ·refine WC.condT' z t (sq (rg (wY (ya z) z (nl (th (rt (At.thenR ?_)))))))
   obtain rfl := some1 h
   have W : Stp [] (Lg.O0 (fun _ => False)) w (Lg.O0 (fun _ => False)) w := (sr_ _ _ _)
   exact At.res (.inl z) z (.tmp z .nil) ⟨z, (se_ W z z)⟩
  ·refine WC.condF' z t (sk (th (sq (sq (rg (wY (ym z) z (WL.s2b (O := (Lg.O0 (fun _ => False))) ty9 ty137 ty5 z z ?_)))))))
   intro m T j K L
   refine wY (Y.len ty137 z L) z (wY (ym z) z (nl (th (WC.block ?_))))
   obtain ⟨U, h, M⟩ := flow1 h
   obtain ⟨V, h⟩ := loop_some h
   refine WC.joinB 0 (σ := Unit) (fun x w' => U = .go () ∧ j = w') (fun x => []) ?_ ?_
   ·refine WC.loop (σ := Int) (fun x k w' => loopN k (label_isValue_lp1 a0) x = some U ∧ j = w') (fun x => [(13, m), (14, vi (a0.length : Int)), (15, vi x)]) 0 V (.cons z (.cons z (.cons z .nil))) ⟨h, z⟩ ?_
    rintro o V _ ⟨h, rfl⟩
    obtain ⟨am, aD, rfl, h, C⟩ := rnd1 h
    unfold label_isValue_lp1 at h
    try dsimp only at h
    refine (show WC _ _ _ _ [(13, m), (14, vi (a0.length : Int)), (15, vi o)] _ from ?_)
    refine sq (rg (wY (Y.lss_i z z) z (nl (th (sq ?_)))))
    rcases cnd h with ⟨D, h⟩ | ⟨D, h⟩
    ·refine WC.condT' z D (sk (th (sq (WC.block (sq (rg ?_))))))
     obtain ⟨an, X, h⟩ := bnd h
     obtain ⟨aE, az, aA, aC, Z, aa, ab, E, Q, ac⟩ := Sl.at2 L X
     obtain rfl := Q
     replace E : CellsAt _ _ _ [vb an] := E
     have S := CAt.frs E ac
     refine wY (Y.indexAddr ty137 ty5 z Z z aa ab) z (wY (yl ty5 z z S.at_) z (wY (ya z) z (nl (th ?_))))
     obtain ⟨ao, h, P⟩ := flow1 h
     refine WC.join (σ := Unit) (fun x w' => ao = .go () ∧ j = w') (fun x => [(13, m), (14, vi (a0.length : Int)), (15, vi o)]) ?_ ?_
     ·refine WC.block (sq ?_)
      obtain ⟨ap, h, ad⟩ := bnd h
      refine WC.join (σ := Bool) (fun x w' => x = ap ∧ j = w') (fun x => [(13, m), (14, vi (a0.length : Int)), (15, vi o), (19, vB x)]) ?_ ?_
      ·refine sq (rg (wY (ym z) z (wY (Y.lss_b (b := 33) z z) z ?_)))
       obtain ⟨aq, ae, h⟩ := lt1 h
       refine WL.yE (ya z) (congrArg vB ae.symm) z (nl (th ?_))
       rcases cnd h with ⟨F, h⟩ | ⟨F, h⟩
       ·refine WC.condT' z F (sk ?_)
        exact At.join (σ := Bool) aq ⟨some1 h, z⟩ (.cons z (.cons z (.cons z (.cons z .nil))))
       ·refine WC.condF' z F (sq (rg (wY (ym z) z (wY (Y.gtr_b (b := 126) z z) z ?_))))
        obtain ⟨ar, af, h⟩ := lt1 h
        refine WL.yE (ya z) (congrArg vB af.symm) z (nl (th ?_))
        rcases cnd h with ⟨G, h⟩ | ⟨G, h⟩
        ·refine WC.condT' z G (sk ?_)
         exact At.join (σ := Bool) ar ⟨some1 h, z⟩ (.cons z (.cons z (.cons z (.cons z .nil))))
        ·refine WC.condF' z G (sq (rg (wY (ym z) z (wY (Y.eql_b (b := 61) z z) z ?_))))
         obtain ⟨au, ah, h⟩ := lt1 h
         refine WL.yE (ya z) (congrArg vB ah.symm) z (nl (th ?_))
         rcases cnd h with ⟨H, h⟩ | ⟨H, h⟩
         ·refine WC.condT' z H (sk ?_)
          exact At.join (σ := Bool) au ⟨some1 h, z⟩ (.cons z (.cons z (.cons z (.cons z .nil))))
         ·refine WC.condF' z H (sq (rg (wY (ym z) z (wY (Y.eql_b (b := 59) z z) z ?_))))
          obtain ⟨av, ai, h⟩ := lt1 h
          refine WL.yE (ya z) (congrArg vB ai.symm) z (nl (th ?_))
          rcases cnd h with ⟨I, h⟩ | ⟨I, h⟩
          ·refine WC.condT' z I (sk ?_)
           exact At.join (σ := Bool) av ⟨some1 h, z⟩ (.cons z (.cons z (.cons z (.cons z .nil))))
          ·refine WC.condF' z I (rg (wY (ym z) z (wY (Y.eql_b (b := 44) z z) z ?_)))
           obtain ⟨ax, aj, h⟩ := lt1 h
           refine WL.yE (ya z) (congrArg vB aj.symm) z (nl ?_)
           exact At.join (σ := Bool) ax ⟨some1 h, z⟩ (.cons z (.cons z (.cons z (.cons z .nil))))
      ·rintro ay _ ⟨rfl, rfl⟩
       replace h := ad
       try dsimp only at h
       refine (show At _ _ _ [(13, m), (14, vi (a0.length : Int)), (15, vi o), (19, vB ay)] _ from ?_)
       refine th ?_
       rcases cnd h with ⟨J, h⟩ | ⟨J, h⟩
       ·refine WC.condT' z J (sq (rg (wY (ya z) z (nl (th (rt (At.inBlockR ?_)))))))
        have h := outs1 h P
        refine At.joinR (At.inBlockR (At.thenR (At.loopR ?_)))
        have h := outr1 h C M
        refine At.joinBR (At.inBlockR (At.thenR ?_))
        obtain rfl := some1 h
        have ak : Stp [] (Lg.O0 (fun _ => False)) w T j := (su_ K z)
        exact At.res (.inl z) z (.tmp z .nil) ⟨z, (se_ ak z z)⟩
       ·refine WC.condF' z J (sk (At.inBlock ?_))
        exact At.join (σ := Unit) () ⟨go2 h, z⟩ (.cons z (.cons z (.cons z .nil)))
     ·rintro _ _ ⟨rfl, rfl⟩
      replace h := flowK_go P
      refine (show At _ _ _ [(13, m), (14, vi (a0.length : Int)), (15, vi o)] _ from ?_)
      refine At.inBlock (th (rg (wY (Y.add_i z z) z (wY (ym z) z (nl ?_)))))
      exact At.round (w64 (o + 1)) am (Nat.lt_succ_self _) ⟨next1 h C, z⟩ (.cons z (.cons z (.cons z .nil)))
    ·refine WC.condF' z D (WC.exit (At.thenX (At.loopX ?_)))
     exact At.hitB (σ := Unit) () ⟨brk1 h C, z⟩ .nil
   ·rintro _ _ ⟨rfl, rfl⟩
    replace h := flowK_go M
    refine (show At _ _ _ [] _ from ?_)
    refine At.inBlockHit (th (sq (rg (wY (ya z) z (nl (th (rt ?_)))))))
    obtain rfl := some1 h
    have al : Stp [] (Lg.O0 (fun _ => False)) w T j := (su_ K z)
    exact At.res (.inl z) z (.tmp z .nil) ⟨z, (se_ al z z)⟩
theorem c_label_Check {A : Nat → Prop} {a0 : List UInt8} {a1 : List api_Pair} {v1 : Value} {w : World} (hs1 : Sl rep_api_Pair w A v1 a1) {r0 : Int} (h : label_Check a0 a1 = some r0) : Rets Tryd.prog 49 [vs a0, v1] w (fun v w' => v = vi r0 ∧ Ext w w') := by
 unfold label_Check at h
 refine Rets.enter Tryd.func49 z z ?_
 have a6 : Sl rep_api_Pair w (imm (Lg.O0 A)) v1 a1 := (Sl.start hs1)
 refine (show WC _ _ _ _ [(0, vs a0), (1, v1)] _ from ?_)
 refine sq (rg (wY (ya z) z (nl (th (sq (sq (rg (wY (ym z) z ?_))))))))
 obtain ⟨cl, a7, h⟩ := bnd h
 refine WL.call (vals := [vs a0]) kok72 z z (c_label_isName a7) ?_
 rintro ca P ⟨rfl, a8⟩
 obtain ⟨X, bL, bM, r⟩ := adoptE (Lg.O0 A) (fun k => 1) a8
 refine wY (Y.not z) z (nl (th ?_))
 rcases cnd h with ⟨ab, h⟩ | ⟨ab, h⟩
 ·refine WC.condT' z ab (sq (rg (wY (ya z) z (nl (th (rt (At.thenR ?_)))))))
  obtain rfl := some1 h
  have a9 : Stp [] (Lg.O0 A) w X P := (su_ r z)
  exact At.res (.inl z) z (.tmp z .nil) ⟨z, (se_ a9 z z)⟩
 ·refine WC.condF' z ab (sk (th (sq (sq (rg (wY (ym z) z ?_))))))
  have ac := a6.i r z z
  refine wY (Y.len ty33 z ac) z (wY (Y.gtr_i z z) z (nl (th ?_)))
  rcases cnd h with ⟨ad, h⟩ | ⟨ad, h⟩
  ·refine WC.condT' z ad (sq (rg (wY (ya z) z (nl (th (rt (At.thenR ?_)))))))
   obtain rfl := some1 h
   have ba : Stp [] (Lg.O0 A) w X P := (su_ r z)
   exact At.res (.inl z) z (.tmp z .nil) ⟨z, (se_ ba z z)⟩
  ·refine WC.condF' z ad (sk (th (sq (sq (rg (wY (ym z) z (wY (Y.len ty33 z ac) z (wY (ym z) z (nl ?_)))))))))
   refine th (WC.block ?_)
   obtain ⟨a2, h, ae⟩ := flow1 h
   obtain ⟨a3, h⟩ := loop_some h
   refine WC.joinB 0 (σ := Own) (fun x w' => a2 = .go () ∧ Stp [11] X P x w') (fun x => []) ?_ ?_
   ·refine WC.loop (σ := (Int × Own)) (fun x k w' => loopN k (label_Check_lp1 a1) x.1 = some a2 ∧ Stp [11] X P x.2 w') (fun x => [(1, v1), (13, v1), (14, vi (a1.length : Int)), (15, vi x.1)]) (0, X) a3 (.cons z (.cons z (.cons z (.cons z .nil)))) ⟨h, (sr_ _ _ _)⟩ ?_
    rintro ⟨H, a4⟩ a3 cb ⟨h, t⟩
    obtain ⟨bO, cm, rfl, h, Q⟩ := rnd1 h
    unfold label_Check_lp1 at h
    try dsimp only at h t
    refine (show WC _ _ _ _ [(1, v1), (13, v1), (14, vi (a1.length : Int)), (15, vi H)] _ from ?_)
    refine sq (rg (wY (Y.lss_i z z) z (nl (th (sq ?_)))))
    rcases cnd h with ⟨af, h⟩ | ⟨af, h⟩
    ·refine WC.condT' z af (sk (th (sq (WC.block (sq (rg (wY (ym z) z ?_)))))))
     obtain ⟨E, bb, h⟩ := bnd h
     have ao := ac.i t z z
     obtain ⟨cn, b3, b4, cc, bc, bd, bf, ah, aC, bg⟩ := Sl.at2 ao bb
     obtain ⟨_, _, rfl, rfl, rfl⟩ := aC
     replace ah : CellsAt _ _ _ [vs E.Key, vs E.Val] := ah
     have aD := CAt.imm ah bg
     refine wY (Y.indexAddr ty33 ty59 z bc z bd bf) z (wY (yL ty59 z z aD.at_ z) z (WL.alloc (O := a4) 11 [vs [], vs []] ty59 z z ?_))
     intro m bP cd F bh
     refine wY (ya z) z (WL.store (v := ag [vs E.Key, vs E.Val]) (cells' := [vs E.Key, vs E.Val]) ty59 z z bh z (le_ z) z z ?_)
     intro ce G ai
     refine nl (th (sq (sq (rg (wY (yf fo59_0 z) z (wY (yl ty9 z z (ai.cell 0 _ z)) z ?_))))))
     obtain ⟨co, bi, h⟩ := bnd h
     refine WL.call (vals := [vs E.Key]) kok72 z z (c_label_isName bi) ?_
     rintro cf bj ⟨rfl, bk⟩
     obtain ⟨ap, bQ, bR, C⟩ := adoptE bP (fun k => 1) bk
     refine wY (Y.not z) z (wY (ym z) z ?_)
     obtain ⟨bS, h, bl⟩ := bnd h
     refine WL.cut 5 (σ := (Bool × Own)) (fun x w' => x.1 = bS ∧ Stp [] ap bj x.2 w') (fun x => [(1, v1), (5, vi H), (6, pt m 0), (13, v1), (14, vi (a1.length : Int)), (15, vi H), (29, vB x.1)]) ?_ ?_
     ·rcases cnd h with ⟨aj, h⟩ | ⟨aj, h⟩
      ·refine WL.ren 24 z (congrArg vB aj) (WL.gS z z z z (WL.gS z z z z (WL.gS z z z z (WL.gS z z z z (wY (Y.pick (b := true) z z) z ?_)))))
       exact nl (At.join (σ := (Bool × Own)) (true, ap) ⟨some1 h, (sr_ _ _ _)⟩ (.cons z (.cons z (.cons z (.cons z (.cons z (.cons z (.cons z .nil))))))))
      ·refine WL.ren 24 z (congrArg vB aj) (ug z z (wY (yf fo59_1 z) z (ug z z ?_)))
       have bm := ai.st C z
       refine wY (yl ty9 z z (bm.cell 1 _ z)) z (ug z z ?_)
       obtain ⟨bT, bn, h⟩ := bnd h
       refine WL.call (vals := [vs E.Val]) kok73 z z (c_label_isValue bn) ?_
       rintro cg ch ⟨rfl, bo⟩
       obtain ⟨bU, bW, bX, aE⟩ := adoptE ap (fun k => 1) bo
       refine ug z z (wY (Y.not z) z (wY (Y.pick (b := false) z z) z ?_))
       exact nl (At.join (σ := (Bool × Own)) ((!bT), bU) ⟨some1 h, (su_ aE z)⟩ (.cons z (.cons z (.cons z (.cons z (.cons z (.cons z (.cons z .nil))))))))
     ·rintro ⟨bY, L⟩ I ⟨rfl, D⟩
      replace h := bl
      try dsimp only at h D
      refine (show WL _ _ _ _ _ [(1, v1), (5, vi H), (6, pt m 0), (13, v1), (14, vi (a1.length : Int)), (15, vi H), (29, vB bY)] _ from ?_)
      refine nl (th ?_)
      rcases cnd h with ⟨ak, h⟩ | ⟨ak, h⟩
      ·refine WC.condT' z ak (sq (rg (wY (ya z) z (nl (th (rt (At.thenR (At.inBlockR (At.thenR ?_)))))))))
       refine At.loopR ?_
       have h := outr1 h Q ae
       refine At.joinBR (At.inBlockR (At.thenR ?_))
       obtain rfl := some1 h
       have bp : Stp [11] (Lg.O0 A) w L I := (tr_ (su_ r z) (tr_ (su_ t z) (tr_ (su_ F z) (tr_ (su_ G z) (tr_ (su_ C z) (su_ D z))))))
       exact At.res (.inl z) z (.tmp z .nil) ⟨z, (se_ bp z z)⟩
      ·refine WC.condF' z ak (sk (th (sq (rg (wY (ym z) z (wY (ym z) z ?_))))))
       obtain ⟨aq, bq, h⟩ := bnd h
       have bu := (((ao.i F z z).i G z z).i C z z).i D z z
       obtain ⟨M, bw, ar⟩ := Sl.slice (ρ := [(30, v1), (31, vi H)]) (x := (.tmp 30)) (lo := none) (hi := (some (.tmp 31))) ty33 ty59 rfl rfl rfl bu bq
       refine wY (Y.sub (.cons z (.cons z .nil)) (bw _ _)) z (wY (Y.mkfunc (fv := []) (cv := [pt m 0]) z z) z ?_)
       obtain ⟨bx, h, aF⟩ := bnd h
       refine WL.callJ (vals := [M, Value.func (.func 75) (List.toArray []) (List.toArray [pt m 0])]) (σ := (Bool × Own)) (fun x w' => x.1 = bx ∧ Stp [] L I x.2 w') (fun x => vB x.1) kok74 z z ?_ ?_
       ·refine Rets.enter Tryd.func74 z z ?_
        refine (show WC _ _ _ _ [(0, M), (1, Value.func (.func 75) (List.toArray []) (List.toArray [pt m 0]))] _ from ?_)
        refine sq (rg (wY (ya z) z (nl (th (sq (rg (wY (ym z) z (wY (ym z) z ?_))))))))
        obtain ⟨bz, h, aG⟩ := bnd h
        refine WL.callJ (vals := [M, Value.func (.func 75) (List.toArray []) (List.toArray [pt m 0])]) (σ := (Int × Own)) (fun x w' => x.1 = bz ∧ Stp [] L I x.2 w') (fun x => vi x.1) kok94 z z ?_ ?_
        ·refine Rets.enter Tryd.func94 z z ?_
         refine (show WC _ _ _ _ [(0, M), (1, Value.func (.func 75) (List.toArray []) (List.toArray [pt m 0]))] _ from ?_)
         refine sq (rg (wY (ya z) z (nl (th (sq (sq (rg (wY (ym z) z (wY (Y.len ty33 z ar) z ?_)))))))))
         refine wY (ym z) z (nl (th (WC.block ?_)))
         obtain ⟨au, h, an⟩ := flow1 h
         obtain ⟨av, h⟩ := loop_some h
         refine WC.joinB 0 (σ := Own) (fun x w' => au = .go () ∧ Stp [] L I x w') (fun x => []) ?_ ?_
         ·refine WC.loop (σ := (Int × Own)) (fun x k w' => loopN k (label_Check_lp2 E aq) x.1 = some au ∧ Stp [] L I x.2 w') (fun x => [(0, M), (1, Value.func (.func 75) (List.toArray []) (List.toArray [pt m 0])), (7, vi (aq.length : Int)), (8, vi x.1)]) (0, L) av (.cons z (.cons z (.cons z (.cons z .nil)))) ⟨h, (sr_ _ _ _)⟩ ?_
          rintro ⟨al, am⟩ av aH ⟨h, j⟩
          obtain ⟨bA, ci, rfl, h, S⟩ := rnd1 h
          unfold label_Check_lp2 at h
          try dsimp only at h j
          refine (show WC _ _ _ _ [(0, M), (1, Value.func (.func 75) (List.toArray []) (List.toArray [pt m 0])), (7, vi (aq.length : Int)), (8, vi al)] _ from ?_)
          refine sq (rg (wY (Y.lss_i z z) z (nl (th (sq ?_)))))
          rcases cnd h with ⟨T, h⟩ | ⟨T, h⟩
          ·refine WC.condT' z T (sk (th (sq (WC.block (sq (rg (wY (ym z) z (wY (ya z) z (nl ?_)))))))))
           refine th (sq (rg (wY (ym z) z (wY (ym z) z (wY (ym z) z ?_)))))
           obtain ⟨o, aI, h⟩ := bnd h
           have aJ := ar.i j z z
           obtain ⟨cj, bZ, b0, b5, aK, aL, aM, U, ax, aN⟩ := Sl.at2 aJ aI
           obtain ⟨_, _, rfl, rfl, rfl⟩ := ax
           replace U : CellsAt _ _ _ [vs o.Key, vs o.Val] := U
           have ay := CAt.imm U aN
           refine wY (Y.indexAddr ty33 ty59 z aK z aL aM) z (wY (yL ty59 z z ay.at_ z) z ?_)
           obtain ⟨bB, h, aO⟩ := bnd h
           refine WL.callV (fv := []) (cv := [pt m 0]) (vals := [ag [vs o.Key, vs o.Val]]) (σ := (Bool × Own)) (fun x w' => x.1 = bB ∧ Stp [] am aH x.2 w') (fun x => vB x.1) kok75 z z z ?_ ?_
           ·refine Rets.enter Tryd.func75 z z ?_
            refine (show WC _ _ _ _ [(0, ag [vs o.Key, vs o.Val]), (1, pt m 0)] _ from ?_)
            refine sq (rg (WL.box (O := am) 12 [vs o.Key, vs o.Val] z z z ?_))
            intro ck bC b6 Z aP
            refine wY (ya z) z (nl (th (sq (rg (wY (yf fo59_0 z) z (wY (yl ty9 z z (aP.cell 0 _ z)) z (wY (yf fo59_0 z) z ?_)))))))
            have aT := (((ai.st C z).st D z).st j z).st Z z
            refine wY (yl ty9 z z (aT.cell 0 _ z)) z (wY (Y.eql_s z z) z ?_)
            obtain ⟨bD, aU, h⟩ := lt1 h
            refine WL.yE (ya z) (congrArg vB aU.symm) z (nl (th (rt ?_)))
            exact At.res (.inl z) z (.tmp z .nil) ⟨(bD, bC), ⟨some1 h, (su_ Z z)⟩, z⟩
           ·rintro ⟨bE, az⟩ b7 ⟨rfl, J⟩
            replace h := aO
            try dsimp only at h J
            refine (show WL _ _ _ _ _ ((16, vB bE) :: _) _ from ?_)
            refine nl (th ?_)
            rcases cnd h with ⟨V, h⟩ | ⟨V, h⟩
            ·refine WC.condT' z V (sq (rg (wY (ym z) z (wY (ya z) z (nl (th (rt (At.inBlockR (At.thenR ?_)))))))))
             refine At.loopR ?_
             have h := outr1 h S an
             refine At.joinBR (At.inBlockR (At.thenR ?_))
             exact At.res (.inl z) z (.tmp z .nil) ⟨(al, az), ⟨some1 h, (tr_ (su_ j z) (su_ J z))⟩, z⟩
            ·refine WC.condF' z V (sk (At.inBlock (th (rg (wY (Y.add_i z z) z (wY (ym z) z (nl ?_)))))))
             exact At.round (w64 (al + 1), az) bA (Nat.lt_succ_self _) ⟨next1 h S, (tr_ (su_ j z) (su_ J z))⟩ (.cons z (.cons z (.cons z (.cons z .nil))))
          ·refine WC.condF' z T (WC.exit (At.thenX (At.loopX ?_)))
           exact At.hitB (σ := Own) am ⟨brk1 h S, (su_ j z)⟩ .nil
         ·rintro bF b8 ⟨rfl, aA⟩
          replace h := flowK_go an
          refine (show At _ _ _ [] _ from ?_)
          refine At.inBlockHit (th (sq (rg (wY (ya z) z (nl (th (rt ?_)))))))
          exact At.res (.inl z) z (.tmp z .nil) ⟨((-1), bF), ⟨some1 h, (su_ aA z)⟩, z⟩
        ·rintro ⟨bG, bH⟩ b9 ⟨rfl, aa⟩
         replace h := aG
         try dsimp only at h aa
         refine (show WL _ _ _ _ _ ((7, vi bG) :: _) _ from ?_)
         refine wY (Y.geq_i z z) z ?_
         obtain ⟨bI, aW, h⟩ := lt1 h
         refine WL.yE (ya z) (congrArg vB aW.symm) z (nl (th (rt ?_)))
         exact At.res (.inl z) z (.tmp z .nil) ⟨(bI, bH), ⟨some1 h, (su_ aa z)⟩, z⟩
       ·rintro ⟨b1, a5⟩ bJ ⟨rfl, K⟩
        replace h := aF
        try dsimp only at h K
        refine (show WL _ _ _ _ _ ((34, vB b1) :: _) _ from ?_)
        refine nl (th ?_)
        rcases cnd h with ⟨W, h⟩ | ⟨W, h⟩
        ·refine WC.condT' z W (sq (rg (wY (ya z) z (nl (th (rt (At.inBlockR (At.thenR (At.loopR ?_)))))))))
         have h := outr1 h Q ae
         refine At.joinBR (At.inBlockR (At.thenR ?_))
         obtain rfl := some1 h
         have aX : Stp [11] (Lg.O0 A) w a5 bJ := (tr_ (su_ r z) (tr_ (su_ t z) (tr_ (su_ F z) (tr_ (su_ G z) (tr_ (su_ C z) (tr_ (su_ D z) (su_ K z)))))))
         exact At.res (.inl z) z (.tmp z .nil) ⟨z, (se_ aX z z)⟩
        ·refine WC.condF' z W (sk (At.inBlock (th (rg (wY (Y.add_i z z) z (wY (ym z) z (nl ?_)))))))
         exact At.round (w64 (H + 1), a5) bO (Nat.lt_succ_self _) ⟨next1 h Q, (tr_ (su_ t z) (tr_ (su_ F z) (tr_ (su_ G z) (tr_ (su_ C z) (tr_ (su_ D z) (su_ K z))))))⟩ (.cons z (.cons z (.cons z (.cons z .nil))))
    ·refine WC.condF' z af (WC.exit (At.thenX (At.loopX ?_)))
     exact At.hitB (σ := Own) a4 ⟨brk1 h Q, (su_ t z)⟩ .nil
   ·rintro b2 bK ⟨rfl, aY⟩
    replace h := flowK_go ae
    refine (show At _ _ _ [] _ from ?_)
    refine At.inBlockHit (th (sq (rg (wY (ya z) z (nl (th (rt ?_)))))))
    obtain rfl := some1 h
    have aZ : Stp [11] (Lg.O0 A) w b2 bK := (tr_ (su_ r z) (su_ aY z))
    exact At.res (.inl z) z (.tmp z .nil) ⟨z, (se_ aZ z z)⟩
theorem c_relabel_isKey {a0 : List UInt8} {w : World} {r0 : Bool} (h : relabel_isKey a0 = some r0) : Rets Tryd.prog 27 [vs a0] w (fun v w' => v = vB r0 ∧ Ext w w') := by
 unfold relabel_isKey at h
 refine Rets.enter Tryd.func27 z z ?_
 refine (show WC _ _ _ _ [(0, vs a0)] _ from ?_)
 refine sq (rg (wY (ya z) z (nl (th (sq (rg (wY (ym z) z ?_)))))))
 obtain ⟨H, m, h⟩ := bnd h
 refine WL.call (vals := [vs a0, sn]) kok49 z z (c_label_Check (A := fun _ => True) (Or.inl ⟨z, z⟩) m) ?_
 rintro G o ⟨rfl, r⟩
 obtain ⟨D, E, F, j⟩ := adoptE (Lg.O0 (fun _ => False)) (fun k => 1) r
 refine wY (Y.eql_i z z) z ?_
 obtain ⟨I, t, h⟩ := lt1 h
 refine WL.yE (ya z) (congrArg vB t.symm) z (nl (th (rt ?_)))
 obtain rfl := some1 h
 have C : Stp [] (Lg.O0 (fun _ => False)) w D o := (su_ j z)
 exact At.res (.inl z) z (.tmp z .nil) ⟨z, (se_ C z z)⟩
theorem c_relabel_isValue {a0 : List UInt8} {w : World} {r0 : Bool} (h : relabel_isValue a0 = some r0) : Rets Tryd.prog 28 [vs a0] w (fun v w' => v = vB r0 ∧ Ext w w') := by
 unfold relabel_isValue at h
 refine Rets.enter Tryd.func28 z z ?_
 refine (show WC _ _ _ _ [(0, vs a0)] _ from ?_)
 refine sq (rg (wY (ya z) z (nl (th (sq (rg (wY (ym z) z (wY (yb (vals := [(0, vs [120]), (1, vs a0)]) (cells := [vs [120], vs a0]) (fe_ z) (by kernel_rfl)) z (WL.buildSlice (O := (Lg.O0 (fun _ => False))) (R := rep_api_Pair) (vals := [(0, Value.agg (List.toArray [vs [120], vs a0]))]) 11 [vs [120], vs a0] (xs := [(api_Pair.mk [120] a0)]) (by decide) ty33 ty59 (by decide) (by decide) (fe_ z) (by kernel_rfl) z ⟨[vs [120], vs a0], [], z, ⟨[vs [120]], [vs a0], z, z, z⟩, z⟩ z ?_)))))))))
 intro F G K j o
 obtain ⟨M, r, h⟩ := bnd h
 refine WL.call (vals := [vs [120], F]) kok49 z z (c_label_Check (A := fun _ => True) (o.src.sl) r) ?_
 rintro L t ⟨rfl, C⟩
 obtain ⟨H, I, J, m⟩ := adoptE G (fun k => 1) C
 refine wY (Y.eql_i z z) z ?_
 obtain ⟨P, D, h⟩ := lt1 h
 refine WL.yE (ya z) (congrArg vB D.symm) z (nl (th (rt ?_)))
 obtain rfl := some1 h
 have E : Stp [] (Lg.O0 (fun _ => False)) w H t := (tr_ (su_ j z) (su_ m z))
 exact At.res (.inl z) z (.tmp z .nil) ⟨z, (se_ E z z)⟩
theorem c_relabel_Check {A : Nat → Prop} {a0 : api_Rule} {w : World} (hG0 : CellsAt w 0 0 [vi 0, vi 0]) (hGA0 : A 0) {r0 : Int} (h : relabel_Check a0 = some r0) : Rets Tryd.prog 10 [ag [vi a0.Kind, vs a0.Key, vs a0.Glob, vs a0.To, vs a0.Val]] w (fun v w' => v = vi r0 ∧ Ext w w') := by
 unfold relabel_Check at h
 refine Rets.enter Tryd.func10 z z ?_
 have aM : CAt [0, 1] (Lg.O0 A) w 0 0 [vi 0, vi 0] := CAt.glob hG0 (if_pos hGA0)
 refine (show WC _ _ _ _ [(0, ag [vi a0.Kind, vs a0.Key, vs a0.Glob, vs a0.To, vs a0.Val])] _ from ?_)
 refine sq (rg (WL.box (O := (Lg.O0 A)) 11 [vi a0.Kind, vs a0.Key, vs a0.Glob, vs a0.To, vs a0.Val] z z z ?_))
 intro m aK ao t F
 refine wY (ya z) z (nl (th (sq (sq (rg (wY (yf fo28_0 z) z (wY (yl ty3 z z (F.cell 0 _ z)) z (wY (Y.lss_i z z) z (wY (ym z) z ?_)))))))))
 refine WL.cut 4 (σ := Unit) (fun _ w' => ao = w') (fun _ => [(1, pt m 0), (14, vB ((decide (a0.Kind < 1)) || (decide (5 < a0.Kind))))]) ?_ ?_
 ·refine WL.part 10 z (fun V => ?_) (fun V => ?_)
  ·refine WL.gS z z z z (WL.gS z z z z (WL.gS z z z z (wY (Y.pick (b := true) z z) z (WL.ren (v' := vB ((decide (a0.Kind < 1)) || (decide (5 < a0.Kind)))) 14 z (congrArg vB (orT V)) ?_))))
   exact nl (At.join () z (.cons z (.cons z .nil)))
  ·refine ug z z (wY (yf fo28_0 z) z (ug z z (wY (yl ty3 z z (F.cell 0 _ z)) z (ug z z (wY (Y.gtr_i z z) z (wY (Y.pick (b := false) z z) z (WL.ren (v' := vB ((decide (a0.Kind < 1)) || (decide (5 < a0.Kind)))) 14 z (congrArg vB (orF V)) ?_)))))))
   exact nl (At.join () z (.cons z (.cons z .nil)))
 ·rintro _ _ rfl
  refine (show WL _ _ _ _ _ [(1, pt m 0), (14, vB ((decide (a0.Kind < 1)) || (decide (5 < a0.Kind))))] _ from ?_)
  refine nl (th ?_)
  rcases cnd h with ⟨W, h⟩ | ⟨W, h⟩
  ·refine WC.condT' z W (sq (rg (wY (ya z) z (nl (th (rt (At.thenR ?_)))))))
   obtain rfl := some1 h
   have aN : Stp [] (Lg.O0 A) w aK ao := (su_ t z)
   exact At.res (.inl z) z (.tmp z .nil) ⟨z, (se_ aN z z)⟩
  ·refine WC.condF' z W (sk (th (sq (sq (rg (wY (yf fo28_2 z) z (wY (yl ty9 z z (F.cell 2 _ z)) z ?_)))))))
   have aO := aM.st t z
   obtain ⟨⟨bP, bQ, bR⟩, aP, h⟩ := bnd h
   refine WL.call (vals := [vs a0.Glob]) kok26 z z (c_glob_Compile (A := fun _ => True) aO.at_ trivial aP) ?_
   rintro bG ap ⟨bg, rfl, aQ, bS⟩
   obtain ⟨ak, bh, bi, D⟩ := adoptE aK (labP bg 12) aQ
   refine wY (ym z) z (wY (yx z z) z (wY (yx z z) z (wY (yx z z) z (wY (ya z) z (wY (ya z) z (wY (ya z) z (nl (th (sq ?_)))))))))
   refine rg (wY (ym z) z (wY (Y.neq_i z z) z (nl (th ?_))))
   rcases cnd h with ⟨X, h⟩ | ⟨X, h⟩
   ·refine WC.condT' z X (sq (rg (wY (ym z) z (wY (ya z) z (nl (th (rt (At.thenR ?_))))))))
    obtain rfl := some1 h
    have aR : Stp [] (Lg.O0 A) w ak ap := (tr_ (su_ t z) (su_ D z))
    exact At.res (.inl z) z (.tmp z .nil) ⟨z, (se_ aR z z)⟩
   ·refine WC.condF' z X (sk (th (sq (rg (wY (yf fo28_1 z) z ?_)))))
    have Z := F.st D z
    refine wY (yl ty9 z z (Z.cell 1 _ z)) z (wY (Y.eql_s (b := []) z z) z (wY (ym z) z ?_))
    obtain ⟨bj, h, aS⟩ := bnd h
    refine WL.cut 4 (σ := (Bool × Own)) (fun x w' => x.1 = bj ∧ Stp [] ak ap x.2 w') (fun x => [(1, pt m 0), (32, vB x.1)]) ?_ ?_
    ·rcases cnd h with ⟨aa, h⟩ | ⟨aa, h⟩
     ·refine WL.ren 28 z (congrArg vB aa) (WL.gS z z z z (WL.gS z z z z (WL.gS z z z z (wY (Y.pick (b := true) z z) z ?_))))
      exact nl (At.join (σ := (Bool × Own)) (true, ak) ⟨some1 h, (sr_ _ _ _)⟩ (.cons z (.cons z .nil)))
     ·refine WL.ren 28 z (congrArg vB aa) (ug z z (wY (yf fo28_1 z) z (ug z z (wY (yl ty9 z z (Z.cell 1 _ z)) z (ug z z ?_)))))
      obtain ⟨bk, aT, h⟩ := bnd h
      refine WL.call (vals := [vs a0.Key]) kok27 z z (c_relabel_isKey aT) ?_
      rintro bH bI ⟨rfl, aU⟩
      obtain ⟨bl, bm, bn, az⟩ := adoptE ak (fun k => 1) aU
      refine wY (Y.pick (b := false) z z) z ?_
      exact nl (At.join (σ := (Bool × Own)) (bk, bl) ⟨some1 h, (su_ az z)⟩ (.cons z (.cons z .nil)))
    ·rintro ⟨o, C⟩ r ⟨rfl, E⟩
     replace h := aS
     try dsimp only at h E
     refine (show WL _ _ _ _ _ [(1, pt m 0), (32, vB o)] _ from ?_)
     refine wY (ya z) z (nl (th (sq (sq (rg (wY (yf fo28_0 z) z ?_))))))
     have j := Z.st E z
     refine wY (yl ty3 z z (j.cell 0 _ z)) z (nl (th ?_))
     obtain ⟨bo, h, aW⟩ := bnd h
     refine WC.join (σ := (Bool × Own)) (fun x w' => x.1 = bo ∧ Stp [] C r x.2 w') (fun x => [(6, vB x.1)]) ?_ ?_
     ·refine WC.block (sq (rg (wY (Y.eql_i z z) z ?_)))
      obtain ⟨bT, aX, h⟩ := lt1 h
      refine WL.yE (ya z) (congrArg vB aX.symm) z (nl (th ?_))
      rcases cnd h with ⟨ab, h⟩ | ⟨ab, h⟩
      ·refine WC.condT' z ab (rg (wY (ym z) z (wY (ym z) z ?_)))
       refine WL.cut 4 (σ := Unit) (fun _ w' => r = w') (fun _ => [(1, pt m 0), (53, vB (o && (!decide (a0.Key = []))))]) ?_ ?_
       ·refine WL.part 49 z (fun ac => ?_) (fun ac => ?_)
        ·refine ug z z (wY (yf fo28_1 z) z (ug z z (wY (yl ty9 z z (j.cell 1 _ z)) z (ug z z (wY (Y.neq_s (b := []) z z) z (wY (Y.pick (b := true) z z) z (WL.ren (v' := vB (o && (!decide (a0.Key = [])))) 53 z (congrArg vB (andT ac)) ?_)))))))
         exact nl (At.join () z (.cons z (.cons z .nil)))
        ·refine WL.gS z z z z (WL.gS z z z z (WL.gS z z z z (wY (Y.pick (b := false) z z) z (WL.ren (v' := vB (o && (!decide (a0.Key = [])))) 53 z (congrArg vB (andF ac)) ?_))))
         exact nl (At.join () z (.cons z (.cons z .nil)))
       ·rintro _ _ rfl
        refine (show WL _ _ _ _ _ [(1, pt m 0), (53, vB (o && (!decide (a0.Key = []))))] _ from ?_)
        refine wY (ym z) z ?_
        obtain ⟨bp, h, aY⟩ := bnd h
        refine WL.cut 4 (σ := (Bool × Own)) (fun x w' => x.1 = bp ∧ Stp [] C r x.2 w') (fun x => [(1, pt m 0), (58, vB x.1)]) ?_ ?_
        ·rcases cnd h with ⟨ad, h⟩ | ⟨ad, h⟩
         ·refine WL.ren 54 z (congrArg vB ad) (ug z z (wY (yf fo28_3 z) z (ug z z (wY (yl ty9 z z (j.cell 3 _ z)) z (ug z z ?_)))))
          obtain ⟨bq, aZ, h⟩ := bnd h
          refine WL.call (vals := [vs a0.To]) kok27 z z (c_relabel_isKey aZ) ?_
          rintro bJ bK ⟨rfl, a1⟩
          obtain ⟨br, bs, bt, aA⟩ := adoptE C (fun k => 1) a1
          refine wY (Y.pick (b := true) z z) z ?_
          exact nl (At.join (σ := (Bool × Own)) (bq, br) ⟨some1 h, (su_ aA z)⟩ (.cons z (.cons z .nil)))
         ·refine WL.ren 54 z (congrArg vB ad) (WL.gS z z z z (WL.gS z z z z (WL.gS z z z z (wY (Y.pick (b := false) z z) z ?_))))
          exact nl (At.join (σ := (Bool × Own)) (false, C) ⟨some1 h, (sr_ _ _ _)⟩ (.cons z (.cons z .nil)))
        ·rintro ⟨T, bu⟩ a2 ⟨rfl, G⟩
         replace h := aY
         try dsimp only at h G
         refine (show WL _ _ _ _ _ [(1, pt m 0), (58, vB T)] _ from ?_)
         refine wY (ym z) z ?_
         refine WL.cut 4 (σ := Unit) (fun _ w' => a2 = w') (fun _ => [(63, vB (T && (decide (a0.Val = []))))]) ?_ ?_
         ·refine WL.part 59 z (fun ae => ?_) (fun ae => ?_)
          ·refine ug z z (wY (yf fo28_4 z) z (ug z z ?_))
           have a3 := j.st G z
           refine wY (yl ty9 z z (a3.cell 4 _ z)) z (ug z z (wY (Y.eql_s (b := []) z z) z (wY (Y.pick (b := true) z z) z (WL.ren (v' := vB (T && (decide (a0.Val = [])))) 63 z (congrArg vB (andT ae)) ?_))))
           exact nl (At.join () z (.cons z .nil))
          ·refine WL.gS z z z z (WL.gS z z z z (WL.gS z z z z (wY (Y.pick (b := false) z z) z (WL.ren (v' := vB (T && (decide (a0.Val = [])))) 63 z (congrArg vB (andF ae)) ?_))))
           exact nl (At.join () z (.cons z .nil))
         ·rintro _ _ rfl
          refine (show WL _ _ _ _ _ [(63, vB (T && (decide (a0.Val = []))))] _ from ?_)
          obtain ⟨aq, al, h⟩ := lt1 h
          refine WL.yE (ya z) (congrArg vB al.symm) z (nl (At.inBlock ?_))
          exact At.join (σ := (Bool × Own)) (aq, bu) ⟨some1 h, (su_ G z)⟩ (.cons z .nil)
      ·refine WC.condF' z ab (sq (rg (wY (Y.eql_i z z) z ?_)))
       obtain ⟨bU, a4, h⟩ := lt1 h
       refine WL.yE (ya z) (congrArg vB a4.symm) z (nl (th ?_))
       rcases cnd h with ⟨af, h⟩ | ⟨af, h⟩
       ·refine WC.condT' z af (rg (wY (ym z) z (wY (ym z) z ?_)))
        obtain ⟨bw, h, a5⟩ := bnd h
        refine WL.cut 4 (σ := (Bool × Own)) (fun x w' => x.1 = bw ∧ Stp [] C r x.2 w') (fun x => [(1, pt m 0), (71, vB x.1)]) ?_ ?_
        ·rcases cnd h with ⟨ah, h⟩ | ⟨ah, h⟩
         ·refine WL.ren 67 z (congrArg vB ah) (ug z z (wY (yf fo28_3 z) z (ug z z (wY (yl ty9 z z (j.cell 3 _ z)) z (ug z z ?_)))))
          obtain ⟨bx, a6, h⟩ := bnd h
          refine WL.call (vals := [vs a0.To]) kok27 z z (c_relabel_isKey a6) ?_
          rintro bL bM ⟨rfl, a7⟩
          obtain ⟨bz, bA, bB, aC⟩ := adoptE C (fun k => 1) a7
          refine wY (Y.pick (b := true) z z) z ?_
          exact nl (At.join (σ := (Bool × Own)) (bx, bz) ⟨some1 h, (su_ aC z)⟩ (.cons z (.cons z .nil)))
         ·refine WL.ren 67 z (congrArg vB ah) (WL.gS z z z z (WL.gS z z z z (WL.gS z z z z (wY (Y.pick (b := false) z z) z ?_))))
          exact nl (At.join (σ := (Bool × Own)) (false, C) ⟨some1 h, (sr_ _ _ _)⟩ (.cons z (.cons z .nil)))
        ·rintro ⟨bC, ar⟩ a8 ⟨rfl, H⟩
         replace h := a5
         try dsimp only at h H
         refine (show WL _ _ _ _ _ [(1, pt m 0), (71, vB bC)] _ from ?_)
         refine wY (ym z) z ?_
         obtain ⟨a9, h, aD⟩ := bnd h
         refine WL.cut 4 (σ := (Bool × Own)) (fun x w' => x.1 = a9 ∧ Stp [] ar a8 x.2 w') (fun x => [(76, vB x.1)]) ?_ ?_
         ·rcases cnd h with ⟨I, h⟩ | ⟨I, h⟩
          ·refine WL.ren 72 z (congrArg vB I) (ug z z (wY (yf fo28_4 z) z (ug z z ?_)))
           have aE := j.st H z
           refine wY (yl ty9 z z (aE.cell 4 _ z)) z (ug z z ?_)
           obtain ⟨ba, aF, h⟩ := bnd h
           refine WL.call (vals := [vs a0.Val]) kok28 z z (c_relabel_isValue aF) ?_
           rintro bD bE ⟨rfl, aG⟩
           obtain ⟨bb, bd, bf, au⟩ := adoptE ar (fun k => 1) aG
           refine wY (Y.pick (b := true) z z) z ?_
           exact nl (At.join (σ := (Bool × Own)) (ba, bb) ⟨some1 h, (su_ au z)⟩ (.cons z .nil))
          ·refine WL.ren 72 z (congrArg vB I) (WL.gS z z z z (WL.gS z z z z (WL.gS z z z z (wY (Y.pick (b := false) z z) z ?_))))
           exact nl (At.join (σ := (Bool × Own)) (false, ar) ⟨some1 h, (sr_ _ _ _)⟩ (.cons z .nil))
         ·rintro ⟨av, bc⟩ bF ⟨rfl, U⟩
          replace h := aD
          try dsimp only at h U
          refine (show WL _ _ _ _ _ [(76, vB av)] _ from ?_)
          refine wY (ya z) z (nl (At.inBlock ?_))
          exact At.join (σ := (Bool × Own)) (av, bc) ⟨some1 h, (tr_ (su_ H z) (su_ U z))⟩ (.cons z .nil)
       ·refine WC.condF' z af (sq (rg (wY (Y.eql_i z z) z ?_)))
        obtain ⟨bO, aH, h⟩ := lt1 h
        refine WL.yE (ya z) (congrArg vB aH.symm) z (nl (th ?_))
        rcases cnd h with ⟨J, h⟩ | ⟨J, h⟩
        ·refine WC.condT' z J (rg (wY (yf fo28_1 z) z (wY (yl ty9 z z (j.cell 1 _ z)) z (wY (Y.eql_s (b := []) z z) z (wY (ym z) z ?_)))))
         refine WL.cut 4 (σ := Unit) (fun _ w' => r = w') (fun _ => [(1, pt m 0), (86, vB ((decide (a0.Key = [])) && (decide (a0.To = []))))]) ?_ ?_
         ·refine WL.part 82 z (fun K => ?_) (fun K => ?_)
          ·refine ug z z (wY (yf fo28_3 z) z (ug z z (wY (yl ty9 z z (j.cell 3 _ z)) z (ug z z (wY (Y.eql_s (b := []) z z) z (wY (Y.pick (b := true) z z) z (WL.ren (v' := vB ((decide (a0.Key = [])) && (decide (a0.To = [])))) 86 z (congrArg vB (andT K)) ?_)))))))
           exact nl (At.join () z (.cons z (.cons z .nil)))
          ·refine WL.gS z z z z (WL.gS z z z z (WL.gS z z z z (wY (Y.pick (b := false) z z) z (WL.ren (v' := vB ((decide (a0.Key = [])) && (decide (a0.To = [])))) 86 z (congrArg vB (andF K)) ?_))))
           exact nl (At.join () z (.cons z (.cons z .nil)))
         ·rintro _ _ rfl
          refine (show WL _ _ _ _ _ [(1, pt m 0), (86, vB ((decide (a0.Key = [])) && (decide (a0.To = []))))] _ from ?_)
          refine wY (ym z) z ?_
          refine WL.cut 4 (σ := Unit) (fun _ w' => r = w') (fun _ => [(91, vB (((decide (a0.Key = [])) && (decide (a0.To = []))) && (decide (a0.Val = []))))]) ?_ ?_
          ·refine WL.part 87 z (fun L => ?_) (fun L => ?_)
           ·refine ug z z (wY (yf fo28_4 z) z (ug z z (wY (yl ty9 z z (j.cell 4 _ z)) z (ug z z (wY (Y.eql_s (b := []) z z) z (wY (Y.pick (b := true) z z) z (WL.ren (v' := vB (((decide (a0.Key = [])) && (decide (a0.To = []))) && (decide (a0.Val = [])))) 91 z (congrArg vB (andT L)) ?_)))))))
            exact nl (At.join () z (.cons z .nil))
           ·refine WL.gS z z z z (WL.gS z z z z (WL.gS z z z z (wY (Y.pick (b := false) z z) z (WL.ren (v' := vB (((decide (a0.Key = [])) && (decide (a0.To = []))) && (decide (a0.Val = [])))) 91 z (congrArg vB (andF L)) ?_))))
            exact nl (At.join () z (.cons z .nil))
          ·rintro _ _ rfl
           refine (show WL _ _ _ _ _ [(91, vB (((decide (a0.Key = [])) && (decide (a0.To = []))) && (decide (a0.Val = []))))] _ from ?_)
           obtain ⟨am, ai, h⟩ := lt1 h
           refine WL.yE (ya z) (congrArg vB ai.symm) z (nl (At.inBlock ?_))
           exact At.join (σ := (Bool × Own)) (am, C) ⟨some1 h, (sr_ _ _ _)⟩ (.cons z .nil)
        ·refine WC.condF' z J (rg (wY (ym z) z (wY (ym z) z ?_)))
         refine WL.cut 4 (σ := Unit) (fun _ w' => r = w') (fun _ => [(1, pt m 0), (40, vB (o && (decide (a0.To = []))))]) ?_ ?_
         ·refine WL.part 36 z (fun M => ?_) (fun M => ?_)
          ·refine ug z z (wY (yf fo28_3 z) z (ug z z (wY (yl ty9 z z (j.cell 3 _ z)) z (ug z z (wY (Y.eql_s (b := []) z z) z (wY (Y.pick (b := true) z z) z (WL.ren (v' := vB (o && (decide (a0.To = [])))) 40 z (congrArg vB (andT M)) ?_)))))))
           exact nl (At.join () z (.cons z (.cons z .nil)))
          ·refine WL.gS z z z z (WL.gS z z z z (WL.gS z z z z (wY (Y.pick (b := false) z z) z (WL.ren (v' := vB (o && (decide (a0.To = [])))) 40 z (congrArg vB (andF M)) ?_))))
           exact nl (At.join () z (.cons z (.cons z .nil)))
         ·rintro _ _ rfl
          refine (show WL _ _ _ _ _ [(1, pt m 0), (40, vB (o && (decide (a0.To = []))))] _ from ?_)
          refine wY (ym z) z ?_
          refine WL.cut 4 (σ := Unit) (fun _ w' => r = w') (fun _ => [(45, vB ((o && (decide (a0.To = []))) && (decide (a0.Val = []))))]) ?_ ?_
          ·refine WL.part 41 z (fun P => ?_) (fun P => ?_)
           ·refine ug z z (wY (yf fo28_4 z) z (ug z z (wY (yl ty9 z z (j.cell 4 _ z)) z (ug z z (wY (Y.eql_s (b := []) z z) z (wY (Y.pick (b := true) z z) z (WL.ren (v' := vB ((o && (decide (a0.To = []))) && (decide (a0.Val = [])))) 45 z (congrArg vB (andT P)) ?_)))))))
            exact nl (At.join () z (.cons z .nil))
           ·refine WL.gS z z z z (WL.gS z z z z (WL.gS z z z z (wY (Y.pick (b := false) z z) z (WL.ren (v' := vB ((o && (decide (a0.To = []))) && (decide (a0.Val = [])))) 45 z (congrArg vB (andF P)) ?_))))
            exact nl (At.join () z (.cons z .nil))
          ·rintro _ _ rfl
           refine (show WL _ _ _ _ _ [(45, vB ((o && (decide (a0.To = []))) && (decide (a0.Val = []))))] _ from ?_)
           obtain ⟨an, aj, h⟩ := lt1 h
           refine WL.yE (ya z) (congrArg vB aj.symm) z (nl (At.inBlock ?_))
           exact At.join (σ := (Bool × Own)) (an, C) ⟨some1 h, (sr_ _ _ _)⟩ (.cons z .nil)
     ·rintro ⟨ax, aL⟩ ay ⟨rfl, Q⟩
      replace h := aW
      try dsimp only at h Q
      refine (show At _ _ _ [(6, vB ax)] _ from ?_)
      refine th (sq (sq (rg (wY (ym z) z (wY (Y.not z) z (nl (th ?_)))))))
      rcases cnd h with ⟨S, h⟩ | ⟨S, h⟩
      ·refine WC.condT' z S (sq (rg (wY (ya z) z (nl (th (rt (At.thenR ?_)))))))
       obtain rfl := some1 h
       have aI : Stp [] (Lg.O0 A) w aL ay := (tr_ (su_ t z) (tr_ (su_ D z) (tr_ (su_ E z) (su_ Q z))))
       exact At.res (.inl z) z (.tmp z .nil) ⟨z, (se_ aI z z)⟩
      ·refine WC.condF' z S (sk (th (sq (rg (wY (ya z) z (nl (th (rt ?_))))))))
       obtain rfl := some1 h
       have aJ : Stp [] (Lg.O0 A) w aL ay := (tr_ (su_ t z) (tr_ (su_ D z) (tr_ (su_ E z) (su_ Q z))))
       exact At.res (.inl z) z (.tmp z .nil) ⟨z, (se_ aJ z z)⟩
theorem c_relabel_Compile {A : Nat → Prop} {a0 : List api_Rule} {v0 : Value} {w : World} (hs0 : Sl rep_api_Rule w A v0 a0) (hG0 : CellsAt w 0 0 [vi 0, vi 0]) (hGA0 : A 0) {r0 : Option relabel_Rules} {r1 : Int} {r2 : Int} (h : relabel_Compile a0 = some (r0, r1, r2)) : Rets Tryd.prog 11 [v0] w (fun v w' => ∃ (u0 : Value), v = tp [u0, vi r1, vi r2] ∧ Ext w w' ∧ OptP u0 r0 fun d => ∃ (p0 : Nat) (aj : Value), u0 = .pointer (some ⟨p0, 0, none⟩) ∧ (w'.heap[p0]? = some (.cells (List.toArray [aj]) 71 (0, 0)) ∧ w.heap.size ≤ p0) ∧ Sl rep_relabel_rule w' (fun k => w.heap.size ≤ k ∧ k ≠ p0) aj d.l) := by
 unfold relabel_Compile at h
 refine Rets.enter Tryd.func11 z z ?_
 have ak : Sl rep_api_Rule w (imm (Lg.O0 A)) v0 a0 := (Sl.start hs0)
 have bt : CAt [0, 1] (Lg.O0 A) w 0 0 [vi 0, vi 0] := CAt.glob hG0 (if_pos hGA0)
 refine (show WC _ _ _ _ [(0, v0)] _ from ?_)
 refine sq (rg (wY (ya z) z (wY (ya z) z (wY (ya z) z (nl (th (sq (sq (rg ?_)))))))))
 refine wY (ym z) z (wY (Y.len ty22 z ak) z (wY (Y.gtr_i z z) z (nl (th ?_))))
 rcases cnd h with ⟨T, h⟩ | ⟨T, h⟩
 ·refine WC.condT' z T (sq (rg (wY (ya z) z (wY (ya z) z (wY (ya z) z (nl (th (rt (At.thenR ?_)))))))))
  obtain ⟨rfl, rfl, rfl⟩ := tup3 h
  have bu : Stp [] (Lg.O0 A) w (Lg.O0 A) w := (sr_ _ _ _)
  exact At.res (.inl z) z (.tmp z (.tmp z (.tmp z .nil))) ⟨Value.pointer none, z, (se_ bu z z), z⟩
 ·refine WC.condF' z T (sk (th (sq (rg (wY (yb (vals := []) (cells := [sn]) (fe_ z) (by kernel_rfl)) z (WL.box (O := (Lg.O0 A)) 11 [sn] z z z ?_))))))
  intro I al am E bw
  refine wY (ya z) z (nl (th (sq (sq (rg (wY (ym z) z ?_))))))
  have an := ak.i E z z
  refine wY (Y.len ty22 z an) z (wY (ym z) z (nl (th (WC.block ?_))))
  obtain ⟨bl, h, ao⟩ := flow1 h
  obtain ⟨bm, h⟩ := loop_some h
  refine WC.joinB 0 (σ := (List relabel_rule × Own × Value)) (fun x w' => bl = .go x.1 ∧ Stp [11, 12, 13, 15, 1001] al am x.2.1 w' ∧ OwnSl 1002 (frR rep_relabel_rule w.heap.size) 73 x.2.1 w' x.2.2 x.1 ∧ Blk 11 x.2.1 w' I 71 [x.2.2]) (fun x => [(5, pt I 0)]) ?_ ?_
  ·refine WC.loop (σ := (List relabel_rule × Int × Own × Value)) (fun x k w' => loopN k (relabel_Compile_lp1 a0) (x.1, x.2.1) = some bl ∧ Stp [11, 12, 13, 15, 1001] al am x.2.2.1 w' ∧ OwnSl 1001 (frR rep_relabel_rule w.heap.size) 73 x.2.2.1 w' x.2.2.2 x.1 ∧ Blk 11 x.2.2.1 w' I 71 [x.2.2.2]) (fun x => [(5, pt I 0), (17, v0), (18, vi (a0.length : Int)), (19, vi x.2.1)]) ([], 0, al, sn) bm (.cons z (.cons z (.cons z (.cons z .nil)))) ⟨h, (sr_ _ _ _), (OwnSl.nil 1001 (frR rep_relabel_rule w.heap.size) 73), bw⟩ ?_
   rintro ⟨bY, bn, bZ, b0⟩ bm cg ⟨h, o, U, L⟩
   obtain ⟨b1, cs, rfl, h, V⟩ := rnd1 h
   unfold relabel_Compile_lp1 at h
   try dsimp only at h o U L
   refine (show WC _ _ _ _ [(5, pt I 0), (17, v0), (18, vi (a0.length : Int)), (19, vi bn)] _ from ?_)
   refine sq (rg (wY (Y.lss_i z z) z (nl (th (sq ?_)))))
   rcases cnd h with ⟨W, h⟩ | ⟨W, h⟩
   ·refine WC.condT' z W (sk (th (sq (WC.block (sq (rg (wY (ym z) z ?_)))))))
    obtain ⟨j, bx, h⟩ := bnd h
    have bz := an.i o z z
    obtain ⟨ct, b9, ca, ch, bA, bB, bC, X, aE, bD⟩ := Sl.at2 bz bx
    obtain ⟨_, _, rfl, rfl, ⟨_, _, rfl, rfl, ⟨_, _, rfl, rfl, ⟨_, _, rfl, rfl, rfl⟩⟩⟩⟩ := aE
    replace X : CellsAt _ _ _ [vi j.Kind, vs j.Key, vs j.Glob, vs j.To, vs j.Val] := X
    have aF := CAt.imm X bD
    refine wY (Y.indexAddr ty22 ty28 z bA z bB bC) z (wY (yL ty28 z z aF.at_ z) z (WL.alloc (O := bZ) 12 [vi 0, vs [], vs [], vs [], vs []] ty28 z z ?_))
    intro cu b2 ci r bE
    refine wY (ya z) z (WL.store (v := ag [vi j.Kind, vs j.Key, vs j.Glob, vs j.To, vs j.Val]) (cells' := [vi j.Kind, vs j.Key, vs j.Glob, vs j.To, vs j.Val]) ty28 z z bE z (le_ z) z z ?_)
    intro cj t ap
    refine nl (th (sq (sq (rg (wY (yL ty28 z z (ap.cells 0 [vi j.Kind, vs j.Key, vs j.Glob, vs j.To, vs j.Val] z) z) z ?_)))))
    have aq := (((bt.st E z).st o z).st r z).st t z
    obtain ⟨cw, bI, h⟩ := bnd h
    refine WL.call (vals := [ag [vi j.Kind, vs j.Key, vs j.Glob, vs j.To, vs j.Val]]) kok10 z z (c_relabel_Check (A := fun _ => True) (a0 := j) aq.at_ trivial bI) ?_
    rintro ck bJ ⟨rfl, bK⟩
    obtain ⟨bo, b3, b4, m⟩ := adoptE b2 (fun k => 1) bK
    refine wY (ya z) z (nl (th (sq (rg (wY (ym z) z (wY (Y.neq_i z z) z (nl (th ?_))))))))
    rcases cnd h with ⟨Z, h⟩ | ⟨Z, h⟩
    ·refine WC.condT' z Z (sq (rg (wY (ym z) z (wY (ym z) z (wY (ya z) z (wY (ya z) z (wY (ya z) z (nl (th ?_)))))))))
     refine rt (At.thenR (At.inBlockR (At.thenR (At.loopR ?_))))
     have h := outr1 h V ao
     refine At.joinBR (At.inBlockR (At.thenR ?_))
     obtain ⟨rfl, rfl, rfl⟩ := tup3 h
     have bL : Stp [11, 12, 13, 15, 1001] (Lg.O0 A) w bo bJ := (tr_ (su_ E z) (tr_ (su_ o z) (tr_ (su_ r z) (tr_ (su_ t z) (su_ m z)))))
     exact At.res (.inl z) z (.tmp z (.tmp z (.tmp z .nil))) ⟨Value.pointer none, z, (se_ bL z z), z⟩
    ·refine WC.condF' z Z (sk (th (sq (rg (wY (yf fo28_2 z) z ?_)))))
     have ar := ap.st m z
     refine wY (yl ty9 z z (ar.cell 2 _ z)) z ?_
     have bM := aq.st m z
     obtain ⟨⟨bp, cx, cy⟩, bO, h⟩ := bnd h
     refine WL.call (vals := [vs j.Glob]) kok26 z z (c_glob_Compile (A := fun _ => True) bM.at_ trivial bO) ?_
     rintro cl bP ⟨b5, rfl, bQ, bq⟩
     obtain ⟨br, b6, P, F⟩ := adoptE bo (labP b5 13) bQ
     refine wY (ym z) z (wY (yx z z) z (wY (yx z z) z (wY (yx z z) z (wY (ya z) z (wY (ya z) z (wY (ya z) z (nl (th (WC.drawH [13, 1001] [0, 1, 2, 3, 4, 5, 6, 7, 8, 9, 10, 11] br 13 fmix z (by kernel_rfl) ?_)))))))))
     intro bR C
     refine WD.y 0 z (by kernel_rfl) (fun _ _ _ => ym z) z (WD.y 1 z (by kernel_rfl) (fun _ _ _ => ym z) z (WD.y 2 z (by kernel_rfl) (fun _ _ _ => yn z) z (WD.y 3 z (by kernel_rfl) (fun _ _ _ => yf fo71_0 z) z (WD.y 4 z (by kernel_rfl) (fun cb cm au => have aG := L.st r z; have aH := aG.st t z; have aI := aH.st m z; have aJ := aI.st F z; have aK := aJ.st C z; have aL := aK.st au z; yl ty69 z z (aL.cell 0 _ z)) z (WD.y 5 z (by kernel_rfl) (fun cc cn av => have aM := ar.st F z; have aN := aM.st C z; have aO := aN.st av z; yL ty28 z z (aO.cells 0 [vi j.Kind, vs j.Key, vs j.Glob, vs j.To, vs j.Val] z) z) z (WD.y 6 z (by kernel_rfl) (fun _ _ _ => ym z) z ?_))))))
     have aP := h
     obtain ⟨G, rfl, _⟩ := OptP.isPtr bq (fun d hd => by obtain ⟨_, _, e, _⟩ := hd; exact ⟨_, e⟩)
     have h := aP
     refine WD.y 7 z (by kernel_rfl) (fun _ _ _ => yb (vals := [(0, ag [vi j.Kind, vs j.Key, vs j.Glob, vs j.To, vs j.Val]), (1, (Value.pointer G))]) (cells := [vi j.Kind, vs j.Key, vs j.Glob, vs j.To, vs j.Val, (Value.pointer G)]) (fe_ z) (by kernel_rfl)) z (WD.heavy 8 z (by kernel_rfl) ?_)
     have aQ : Pr rep_glob_Glob 96 bP (lbs 13 br) (Value.pointer G) bp := OptP.pr bq (fun d hd => by obtain ⟨aa, bS, eqp, ae, bT⟩ := hd; cases eqp; exact ⟨aa, _, rfl, .inr ((P aa ae.2).trans (labP_at aa 13)), ae.1, ⟨[vs d.text], [bS], rfl, rfl, ⟨_, rfl, (Sl.mono (Sl.adoptF bT (fun k hk => ⟨hk.1, labP_ne hk.2⟩) P) frs_lbs)⟩⟩⟩)
     have aR := aQ.mono (lbs_st C z z)
     obtain ⟨ax, D, aS⟩ := Pr.give rfl aR
     have aT : Stp [11, 12, 13, 15, 1001] (Lg.O0 A) w ax bR := (tr_ (su_ E z) (tr_ (su_ o z) (tr_ (su_ r z) (tr_ (su_ t z) (tr_ (su_ m z) (tr_ (su_ F z) (tr_ (su_ C z) (su_ D z))))))))
     refine WL.buildSlice (O := ax) (R := (frR rep_relabel_rule w.heap.size)) (vals := [(0, ag [vi j.Kind, vs j.Key, vs j.Glob, vs j.To, vs j.Val, (Value.pointer G)])]) 14 [vi j.Kind, vs j.Key, vs j.Glob, vs j.To, vs j.Val, (Value.pointer G)] (xs := [(relabel_rule.mk j bp)]) (by decide) ty69 ty73 (show 0 < rep_relabel_rule.n by decide) (show 1 * rep_relabel_rule.n ≤ 65536 by decide) (fe_ z) (by kernel_rfl) z ⟨[vi j.Kind, vs j.Key, vs j.Glob, vs j.To, vs j.Val, (Value.pointer G)], [], z, ⟨[vi j.Kind, vs j.Key, vs j.Glob, vs j.To, vs j.Val], [(Value.pointer G)], z, ⟨[vi j.Kind], [vs j.Key, vs j.Glob, vs j.To, vs j.Val], z, z, ⟨[vs j.Key], [vs j.Glob, vs j.To, vs j.Val], z, z, ⟨[vs j.Glob], [vs j.To, vs j.Val], z, z, ⟨[vs j.To], [vs j.Val], z, z, z⟩⟩⟩⟩, ⟨_, z, (Pr.frB aS aT low0)⟩⟩, z⟩ z ?_
     intro co cq cd H aU
     refine nl (At.dq (tr_ (su_ D z) (su_ H z)) (WD.heavy 9 z (by kernel_rfl) ?_))
     obtain ⟨aW, ay, h⟩ := bnd h
     have a4 := ((((((U.st r z z z).st t z z z).st m z z z).st F z z z).st C z z z).st D z z z).st H z z z
     refine WL.append (by decide) ty69 ty73 z (by decide) z z a4 aU.src ay z ?_
     intro cr bU ce J af
     refine nl (At.dq (su_ J z) (WD.y 10 z (by kernel_rfl) (fun _ _ _ => yn z) z (WD.y 11 z (by kernel_rfl) (fun _ _ _ => yf fo71_0 z) z (WD.phase [11] [0, 1, 2, 3, 4, 5, 6, 7, 8, 9, 10, 11, 12] (by kernel_rfl) (by kernel_rfl) (WD.heavy 12 z (by kernel_rfl) ?_)))))
     have a5 := h
     obtain ⟨ab, ac, ad, rfl⟩ := af.shape
     have h := a5
     have bd := (((((((L.st r z).st t z).st m z).st F z).st C z).st D z).st H z).st J z
     refine WL.store (v := (vl ab ac ad)) (cells' := [(vl ab ac ad)]) ty69 z z bd z (le_ z) z z ?_
     intro cf K bf
     refine nl (At.dq (su_ K z) (WD.done_ (by kernel_rfl) (At.inBlock (th (rg (wY (Y.add_i z z) z (wY (ym z) z (nl ?_))))))))
     have bg := af.st K z z z
     exact At.round (aW, w64 (bn + 1), bU, (vl ab ac ad)) b1 (Nat.lt_succ_self _) ⟨next1 h V, (tr_ (su_ o z) (tr_ (su_ r z) (tr_ (su_ t z) (tr_ (su_ m z) (tr_ (su_ F z) (tr_ (su_ C z) (tr_ (su_ D z) (tr_ (su_ H z) (tr_ (su_ J z) (su_ K z)))))))))), bg, bf⟩ (.cons z (.cons z (.cons z (.cons z .nil))))
   ·refine WC.condF' z W (WC.exit (At.thenX (At.loopX ?_)))
    obtain ⟨bW, Q, bh⟩ := OwnSl.rlb 1002 rfl U
    have bi := L.st Q z
    exact At.hitB (σ := (List relabel_rule × Own × Value)) (bY, bW, b0) ⟨brk1 h V, (tr_ (su_ o z) (su_ Q z)), bh, bi⟩ (.cons z .nil)
  ·rintro ⟨cz, b7, b8⟩ az ⟨rfl, M, aA, aC⟩
   replace h := flowK_go ao
   try dsimp only at h M aA aC
   refine (show At _ _ _ [(5, pt I 0)] _ from ?_)
   refine At.inBlockHit (th (sq (rg (wY (ym z) z (wY (ya z) z (wY (ya z) z (wY (ya z) z (nl (th ?_)))))))))
   refine rt ?_
   obtain ⟨rfl, rfl, rfl⟩ := tup3 h
   have bj : Stp [11, 12, 13, 15, 1001] (Lg.O0 A) w b7 az := (tr_ (su_ E z) (su_ M z))
   obtain ⟨bX, S, bk⟩ := OwnSl.giveB rfl aA bj low0
   have ah : Stp [11, 12, 13, 15, 1001, 1002] (Lg.O0 A) w bX az := (tr_ (su_ E z) (tr_ (su_ M z) (su_ S z)))
   have ai := aC.st S z
   exact At.res (.inl z) z (.tmp z (.tmp z (.tmp z .nil))) ⟨pt I 0, z, (se_ ah z z), ⟨I, b8, z, (Blk.outF ai ah low0 z), (Sl.outFNb bk ai.lab z)⟩⟩
theorem c_relabel_Rules_Len {A : Nat → Prop} {v0_0 : Value} {a0 : relabel_Rules} {b0 : Nat} {w : World} (hs0_0 : Sl rep_relabel_rule w A v0_0 a0.l) (hb0 : w.heap[b0]? = some (.cells (List.toArray [v0_0]) 71 (0, 0))) (hm0 : A b0) {r0 : Int} (h : relabel_Rules_Len a0 = some r0) : Rets Tryd.prog 12 [pt b0 0] w (fun v w' => v = vi r0 ∧ Ext w w') := by
 unfold relabel_Rules_Len at h
 refine Rets.enter Tryd.func12 z z ?_
 have j : Sl rep_relabel_rule w (imm (Lg.O0 A)) v0_0 a0.l := (Sl.start hs0_0)
 have m : Blk 0 (Lg.O0 A) w b0 71 [v0_0] := ⟨(if_pos hm0), hb0⟩
 refine (show WC _ _ _ _ [(0, pt b0 0)] _ from ?_)
 refine sq (rg (wY (ya z) z (nl (th (sq (rg (wY (ym z) z (wY (yn z) z (wY (yf fo71_0 z) z ?_)))))))))
 refine wY (yl ty69 z z (m.cell 0 _ z)) z (wY (Y.len ty69 z j) z ?_)
 obtain ⟨t, o, h⟩ := lt1 h
 refine WL.yE (ya z) (congrArg vi o.symm) z (nl (th (rt ?_)))
 obtain rfl := some1 h
 have r : Stp [] (Lg.O0 A) w (Lg.O0 A) w := (sr_ _ _ _)
 exact At.res (.inl z) z (.tmp z .nil) ⟨z, (se_ r z z)⟩
theorem c_slices_Clone_api_Pair_api_Pair {A : Nat → Prop} {a0 : List api_Pair} {v0 : Value} {w : World} (hs0 : Sl rep_api_Pair w A v0 a0) {r0 : List api_Pair} (h : slices_Clone_api_Pair_api_Pair a0 = some r0) : Rets Tryd.prog 43 [v0] w (fun v w' => ∃ (r : Value), v = r ∧ Ext w w' ∧ RowF rep_api_Pair 59 w w' r r0) := by
  unfold slices_Clone_api_Pair_api_Pair at h
  refine Rets.enter Tryd.func43 z z ?_
  refine (show WC _ _ _ _ [(0, v0)] _ from ?_)
  refine sq (rg (wY (ya z) z (nl (th ?_))))
  refine sq (sq (rg ?_))
  refine wY (ym z) z ?_
  rcases hs0.nilOr with ⟨rfl, rfl⟩ | ⟨q, n, c, rfl⟩
  · refine wY (Y.slnil (p := none) (n := 0) (c := 0) ty33.u z z) z (nl (th ?_))
    refine WC.condT z (sq (rg (wY (ya z) z (nl (th (rt (At.thenR ?_)))))))
    have : r0 = [] := by simpa [app] using h.symm
    subst this
    exact At.res (.inl z) z (.tmp z .nil) ⟨_, z, Ext.refl w, RowF.nil⟩
  · refine wY (Y.slnil (p := some _) ty33.u z z) z (nl (th ?_))
    refine WC.condF z (sk (th ?_))
    refine sq (rg ?_)
    have hs := hs0
    refine WL.buildSlice (O := Lg.O0 A) (R := rep_api_Pair) (vals := []) 11 [] (xs := []) (by decide) ty33 ty59 (by decide) (by decide) (fe_ z) (by kernel_rfl) z z z ?_
    intro v G H j t
    refine wY (ym z) z ?_
    have C := (Sl.start hs).i j z z
    refine WL.append (by decide) ty33 ty59 z (by decide) z z t C.src h z ?_
    intro I E F o D
    refine wY (ya z) z (nl (th (rt ?_)))
    have m : Stp [11] (Lg.O0 A) w E F := (tr_ (su_ j z) o)
    exact At.res (.inl z) z (.tmp z .nil) ⟨_, z, se_ m z z, OwnSl.outF D m low0 z⟩
theorem c_slices_Clone_uint64_uint64 {A : Nat → Prop} {a0 : List UInt64} {v0 : Value} {w : World} (hs0 : Sl Rep.u w A v0 a0) {r0 : List UInt64} (h : slices_Clone_uint64_uint64 a0 = some r0) : Rets Tryd.prog 66 [v0] w (fun v w' => ∃ (r : Value), v = r ∧ Ext w w' ∧ RowF Rep.u 34 w w' r r0) := by
  unfold slices_Clone_uint64_uint64 at h
  refine Rets.enter Tryd.func66 z z ?_
  refine (show WC _ _ _ _ [(0, v0)] _ from ?_)
  refine sq (rg (wY (ya z) z (nl (th ?_))))
  refine sq (sq (rg ?_))
  refine wY (ym z) z ?_
  rcases hs0.nilOr with ⟨rfl, rfl⟩ | ⟨q, n, c, rfl⟩
  · refine wY (Y.slnil (p := none) (n := 0) (c := 0) ty35.u z z) z (nl (th ?_))
    refine WC.condT z (sq (rg (wY (ya z) z (nl (th (rt (At.thenR ?_)))))))
    have : r0 = [] := by simpa [app] using h.symm
    subst this
    exact At.res (.inl z) z (.tmp z .nil) ⟨_, z, Ext.refl w, RowF.nil⟩
  · refine wY (Y.slnil (p := some _) ty35.u z z) z (nl (th ?_))
    refine WC.condF z (sk (th ?_))
    refine sq (rg ?_)
    have hs := hs0
    refine WL.buildSlice (O := Lg.O0 A) (R := Rep.u) (vals := []) 11 [] (xs := []) (by decide) ty35 ty34 (by decide) (by decide) (fe_ z) (by kernel_rfl) z z z ?_
    intro v G H j t
    refine wY (ym z) z ?_
    have C := (Sl.start hs).i j z z
    refine WL.append (by decide) ty35 ty34 z (by decide) z z t C.src h z ?_
    intro I E F o D
    refine wY (ya z) z (nl (th (rt ?_)))
    have m : Stp [11] (Lg.O0 A) w E F := (tr_ (su_ j z) o)
    exact At.res (.inl z) z (.tmp z .nil) ⟨_, z, se_ m z z, OwnSl.outF D m low0 z⟩
theorem c_hist_Clone {A : Nat → Prop} {v0_3 : Value} {v0_5 : Value} {a0 : api_Hist} {w : World} (hs0_3 : Sl Rep.u w A v0_3 a0.Pos.Counts) (hs0_5 : Sl Rep.u w A v0_5 a0.Neg.Counts) {r0 : api_Hist} (h : hist_Clone a0 = some r0) : Rets Tryd.prog 44 [ag (hl a0 v0_3 v0_5)] w (fun v w' => ∃ (M : Value) (P : Value), v = ag (hl r0 M P) ∧ Ext w w' ∧ RowF Rep.u 34 w w' M r0.Pos.Counts ∧ RowF Rep.u 34 w w' P r0.Neg.Counts ∧ (∀ k, ob M = some k → ob P ≠ some k)) := by
 unfold hist_Clone at h
 refine Rets.enter Tryd.func44 z z ?_
 have V : Sl Rep.u w (imm (Lg.O0 A)) v0_3 a0.Pos.Counts := (Sl.start hs0_3)
 have W : Sl Rep.u w (imm (Lg.O0 A)) v0_5 a0.Neg.Counts := (Sl.start hs0_5)
 refine (show WC _ _ _ _ [(0, ag (hl a0 v0_3 v0_5))] _ from ?_)
 refine sq (rg ?_)
 have aJ := h
 obtain ⟨aD, aE, aF, rfl⟩ := V.shape
 have h := aJ
 have aK := h
 obtain ⟨X, Z, aa, rfl⟩ := W.shape
 have h := aK
 refine WL.box (O := (Lg.O0 A)) 11 (hl a0 (vl aD aE aF) (vl X Z aa)) z z z ?_
 intro bq bb bl K Q
 refine WL.alloc (O := bb) 12 hzr ty39 z z ?_
 intro br aG bm r aL
 refine nl (th (sq (WC.drawH [] [0, 1, 2, 3, 4, 5, 6, 7, 8, 9] aG 14 fmix z (by kernel_rfl) ?_)))
 intro bn j
 refine WD.y 0 z (by kernel_rfl) (fun _ _ _ => yf fo39_2 z) z (WD.y 1 z (by kernel_rfl) (fun _ _ _ => yf fo37_1 z) z (WD.y 2 z (by kernel_rfl) (fun bo bs ah => have aM := Q.st r z; have aN := aM.st j z; have aO := aN.st ah z; yl ty35 z z (aO.cell 3 _ z)) z (WD.y 4 z (by kernel_rfl) (fun _ _ _ => yf fo39_3 z) z (WD.y 5 z (by kernel_rfl) (fun _ _ _ => yf fo37_1 z) z (WD.y 6 z (by kernel_rfl) (fun bp bt ai => have aP := Q.st r z; have aQ := aP.st j z; have aR := aQ.st ai z; yl ty35 z z (aR.cell 5 _ z)) z (WD.heavy 3 z (by kernel_rfl) ?_))))))
 have aU := ((V.i K z z).i r z z).i j z z
 obtain ⟨bc, aW, h⟩ := bnd h
 refine WL.call (vals := [(vl aD aE aF)]) kok66 z z (c_slices_Clone_uint64_uint64 (A := fun _ => True) (Sl.all aU) aW) ?_
 rintro ab aX ⟨_, rfl, aY, bd⟩
 obtain ⟨aH, bf, ac, E⟩ := adoptE aG (fun k => if ob ab = some k then 13 else 1) aY
 have aZ : OwnSl 13 Rep.u 34 aH aX ab bc := RowF.adopt 13 Flat.u bd ac (fun k hk => if_pos hk)
 refine nl (At.dq (su_ E z) (WD.y 8 z (by kernel_rfl) (fun _ _ _ => yf fo39_2 z) z (WD.y 9 z (by kernel_rfl) (fun _ _ _ => yf fo37_1 z) z (WD.heavy 7 z (by kernel_rfl) ?_))))
 have a4 := (((W.i K z z).i r z z).i j z z).i E z z
 obtain ⟨bg, a5, h⟩ := bnd h
 refine WL.call (vals := [(vl X Z aa)]) kok66 z z (c_slices_Clone_uint64_uint64 (A := fun _ => True) (Sl.all a4) a5) ?_
 rintro ad a6 ⟨_, rfl, a7, bh⟩
 obtain ⟨aI, bi, ae, F⟩ := adoptE aH (fun k => if ob ad = some k then 14 else 1) a7
 have a8 : OwnSl 14 Rep.u 34 aI a6 ad bg := RowF.adopt 14 Flat.u bh ae (fun k hk => if_pos hk)
 refine nl (At.dq (su_ F z) (WD.phase [11] [0, 1, 2, 3, 4, 5, 6, 7, 8, 9, 10, 11, 12] (by kernel_rfl) (by kernel_rfl) (WD.heavy 10 z (by kernel_rfl) ?_)))
 have af := aZ.st F z z z
 have a9 := h
 obtain ⟨G, H, I, rfl⟩ := af.shape
 have h := a9
 have al := (((Q.st r z).st j z).st E z).st F z
 refine WL.store (v := (vl G H I)) (cells' := (hl a0 (vl G H I) (vl X Z aa))) ty35 z z al z (le_ z) z z ?_
 intro bj m am
 refine nl (At.dq (su_ m z) (WD.y 11 z (by kernel_rfl) (fun _ _ _ => yf fo39_3 z) z (WD.y 12 z (by kernel_rfl) (fun _ _ _ => yf fo37_1 z) z (WD.phase [11] [0, 1, 2, 3, 4, 5, 6, 7, 8, 9, 10, 11, 12, 13] (by kernel_rfl) (by kernel_rfl) (WD.heavy 13 z (by kernel_rfl) ?_)))))
 have S := a8.st m z z z
 have an := h
 obtain ⟨t, C, D, rfl⟩ := S.shape
 have h := an
 refine WL.store (v := (vl t C D)) (cells' := (hl a0 (vl G H I) (vl t C D))) ty35 z z am z (le_ z) z z ?_
 intro bk o ao
 refine nl (At.dq (su_ o z) (WD.done_ (by kernel_rfl) (th (sq (rg (wY (yL ty39 z z (ao.cells 0 (hl a0 (vl G H I) (vl t C D)) z) z) z ?_))))))
 have av := ((((aL.st j z).st E z).st F z).st m z).st o z
 refine WL.store (v := ag (hl a0 (vl G H I) (vl t C D))) (cells' := (hl a0 (vl G H I) (vl t C D))) ty39 z z av z (le_ z) z z ?_
 intro ax J ay
 refine nl (th (rt ?_))
 obtain rfl := some1 h
 have L : Stp [11, 12] (Lg.O0 A) w aI ax := (tr_ (su_ K z) (tr_ (su_ r z) (tr_ (su_ j z) (tr_ (su_ E z) (tr_ (su_ F z) (tr_ (su_ m z) (tr_ (su_ o z) (su_ J z))))))))
 have T := ((af.st m z z z).st o z z z).st J z z z
 have U := (S.st o z z z).st J z z z
 exact At.res (.inl z) z (.cell z (ay.runAg 0 (hl a0 (vl G H I) (vl t C D)) ty39 z z z) .nil) ⟨(vl G H I), (vl t C D), z, (se_ L z z), (OwnSl.outF T L low0 z), (OwnSl.outF U L low0 z), (ne_own T U z)⟩
theorem c_point_Clone {A : Nat → Prop} {v0_1 : Value} {v0_13 : Value} {v0_15 : Value} {a0 : api_Point} {w : World} (hs0_1 : Sl rep_api_Pair w A v0_1 a0.Attrs) (hs0_13 : Sl Rep.u w A v0_13 a0.Hist.Pos.Counts) (hs0_15 : Sl Rep.u w A v0_15 a0.Hist.Neg.Counts) {r0 : api_Point} (h : point_Clone a0 = some r0) : Rets Tryd.prog 21 [ag (cp a0 v0_1 v0_13 v0_15)] w (fun v w' => ∃ (U : Value) (G : Value) (H : Value), v = ag (cp r0 U G H) ∧ Ext w w' ∧ RowF rep_api_Pair 59 w w' U r0.Attrs ∧ RowF Rep.u 34 w w' G r0.Hist.Pos.Counts ∧ RowF Rep.u 34 w w' H r0.Hist.Neg.Counts ∧ (∀ k, ob U = some k → ob G ≠ some k) ∧ (∀ k, ob U = some k → ob H ≠ some k) ∧ (∀ k, ob G = some k → ob H ≠ some k)) := by
 unfold point_Clone at h
 refine Rets.enter Tryd.func21 z z ?_
 have ah : Sl rep_api_Pair w (imm (Lg.O0 A)) v0_1 a0.Attrs := (Sl.start hs0_1)
 have ai : Sl Rep.u w (imm (Lg.O0 A)) v0_13 a0.Hist.Pos.Counts := (Sl.start hs0_13)
 have aj : Sl Rep.u w (imm (Lg.O0 A)) v0_15 a0.Hist.Neg.Counts := (Sl.start hs0_15)
 refine (show WC _ _ _ _ [(0, ag (cp a0 v0_1 v0_13 v0_15))] _ from ?_)
 refine sq (rg ?_)
 have aJ := h
 obtain ⟨aE, aF, aG, rfl⟩ := ah.shape
 have h := aJ
 have aK := h
 obtain ⟨aa, ab, ac, rfl⟩ := ai.shape
 have h := aK
 have aL := h
 obtain ⟨ad, ae, af, rfl⟩ := aj.shape
 have h := aL
 refine WL.box (O := (Lg.O0 A)) 11 (cp a0 (vl aE aF aG) (vl aa ab ac) (vl ad ae af)) z z z ?_
 intro bw bh bq I aM
 refine WL.alloc (O := bh) 12 [vs [], sn, vi 0, vi 0, vB false, vi 0, vi 0, vi 0, vu 0, vu 0, vi 0, vu 0, vi 0, sn, vi 0, sn, vi 0] ty41 z z ?_
 intro bx bi br m aN
 refine nl (th (sq (rg (wY (yf fo41_1 z) z ?_))))
 have ak := aM.st m z
 refine wY (yl ty33 z z (ak.cell 1 _ z)) z ?_
 have aP := (ah.i I z z).i m z z
 obtain ⟨bj, aQ, h⟩ := bnd h
 refine WL.call (vals := [(vl aE aF aG)]) kok43 z z (c_slices_Clone_api_Pair_api_Pair (A := fun _ => True) (Sl.all aP) aQ) ?_
 rintro al aR ⟨_, rfl, aS, bk⟩
 obtain ⟨aH, bl, am, o⟩ := adoptE bi (fun k => if ob al = some k then 13 else 1) aS
 have an : OwnSl 13 rep_api_Pair 59 aH aR al bj := RowF.adopt 13 flat_api_Pair bk am (fun k hk => if_pos hk)
 refine wY (yf fo41_1 z) z ?_
 have aT := h
 obtain ⟨D, E, F, rfl⟩ := an.shape
 have h := aT
 have aU := ak.st o z
 refine WL.store (v := (vl D E F)) (cells' := (cp a0 (vl D E F) (vl aa ab ac) (vl ad ae af))) ty33 z z aU z (le_ z) z z ?_
 intro bs r ao
 refine nl (th (sq (rg (wY (yf fo41_10 z) z (wY (yL ty39 z z (ao.cells 10 (hl a0.Hist (vl aa ab ac) (vl ad ae af)) z) z) z ?_)))))
 have aZ := (((ai.i I z z).i m z z).i o z z).i r z z
 have a4 := (((aj.i I z z).i m z z).i o z z).i r z z
 obtain ⟨j, a5, h⟩ := bnd h
 refine WL.call (vals := [ag (hl a0.Hist (vl aa ab ac) (vl ad ae af))]) kok44 z z (c_hist_Clone (A := fun _ => True) (a0 := a0.Hist) (Sl.all aZ) (Sl.all a4) a5) ?_
 rintro bt ap ⟨aq, aI, rfl, a6, bm, bn, bo⟩
 obtain ⟨ar, bp, Z, J⟩ := adoptE aH (fun k => if ob aq = some k then 14 else if ob aI = some k then 15 else 1) a6
 have au : OwnSl 14 Rep.u 34 ar ap aq j.Pos.Counts := RowF.adopt 14 Flat.u bm Z (fun k hk => if_pos hk)
 have av : OwnSl 15 Rep.u 34 ar ap aI j.Neg.Counts := RowF.adopt 15 Flat.u bn Z (fun k hk => (if_neg (fun (e : ob aq = some k) => bo k e hk)).trans (if_pos hk))
 refine wY (yf fo41_10 z) z ?_
 have a7 := h
 obtain ⟨L, M, P, rfl⟩ := au.shape
 have h := a7
 have a8 := h
 obtain ⟨Q, S, T, rfl⟩ := av.shape
 have h := a8
 have a9 := ao.st J z
 refine WL.store (v := ag (hl j (vl L M P) (vl Q S T))) (cells' := [vs a0.Name, (vl D E F), vi a0.Kind, vi a0.Temp, vB a0.Mono, vi a0.Start, vi a0.Time, vi a0.Int_, vu a0.Re, vu a0.Im, vi j.Scale, vu j.Zero, vi j.Pos.Offset, (vl L M P), vi j.Neg.Offset, (vl Q S T), vi a0.Flags]) ty39 z z a9 z (le_ z) z z ?_
 intro bu t ba
 refine nl (th (sq (rg (wY (yL ty41 z z (ba.cells 0 [vs a0.Name, (vl D E F), vi a0.Kind, vi a0.Temp, vB a0.Mono, vi a0.Start, vi a0.Time, vi a0.Int_, vu a0.Re, vu a0.Im, vi j.Scale, vu j.Zero, vi j.Pos.Offset, (vl L M P), vi j.Neg.Offset, (vl Q S T), vi a0.Flags] z) z) z ?_))))
 have bf := (((aN.st o z).st r z).st J z).st t z
 refine WL.store (v := ag [vs a0.Name, (vl D E F), vi a0.Kind, vi a0.Temp, vB a0.Mono, vi a0.Start, vi a0.Time, vi a0.Int_, vu a0.Re, vu a0.Im, vi j.Scale, vu j.Zero, vi j.Pos.Offset, (vl L M P), vi j.Neg.Offset, (vl Q S T), vi a0.Flags]) (cells' := [vs a0.Name, (vl D E F), vi a0.Kind, vi a0.Temp, vB a0.Mono, vi a0.Start, vi a0.Time, vi a0.Int_, vu a0.Re, vu a0.Im, vi j.Scale, vu j.Zero, vi j.Pos.Offset, (vl L M P), vi j.Neg.Offset, (vl Q S T), vi a0.Flags]) ty41 z z bf z (le_ z) z z ?_
 intro bg C ax
 refine nl (th (rt ?_))
 obtain rfl := some1 h
 have K : Stp [11, 12] (Lg.O0 A) w ar bg := (tr_ (su_ I z) (tr_ (su_ m z) (tr_ (su_ o z) (tr_ (su_ r z) (tr_ (su_ J z) (tr_ (su_ t z) (su_ C z)))))))
 have V := (((an.st r z z z).st J z z z).st t z z z).st C z z z
 have W := (au.st t z z z).st C z z z
 have X := (av.st t z z z).st C z z z
 exact At.res (.inl z) z (.cell z (ax.runAg 0 [vs a0.Name, (vl D E F), vi a0.Kind, vi a0.Temp, vB a0.Mono, vi a0.Start, vi a0.Time, vi a0.Int_, vu a0.Re, vu a0.Im, vi j.Scale, vu j.Zero, vi j.Pos.Offset, (vl L M P), vi j.Neg.Offset, (vl Q S T), vi a0.Flags] ty41 z z z) .nil) ⟨(vl D E F), (vl L M P), (vl Q S T), z, (se_ K z z), (OwnSl.outF V K low0 z), (OwnSl.outF W K low0 z), (OwnSl.outF X K low0 z), (ne_own V W z), (ne_own V X z), (ne_own W X z)⟩
theorem c_point_kinds {A : Nat → Prop} {v0_1 : Value} {v0_13 : Value} {v0_15 : Value} {a0 : api_Point} {w : World} (hs0_1 : Sl rep_api_Pair w A v0_1 a0.Attrs) (hs0_13 : Sl Rep.u w A v0_13 a0.Hist.Pos.Counts) (hs0_15 : Sl Rep.u w A v0_15 a0.Hist.Neg.Counts) {r0 : Bool} (h : point_kinds a0 = some r0) : Rets Tryd.prog 50 [ag (cp a0 v0_1 v0_13 v0_15)] w (fun v w' => v = vB r0 ∧ Ext w w') := by
 unfold point_kinds at h
 refine Rets.enter Tryd.func50 z z ?_
 have I : Sl rep_api_Pair w (imm (Lg.O0 A)) v0_1 a0.Attrs := (Sl.start hs0_1)
 have J : Sl Rep.u w (imm (Lg.O0 A)) v0_13 a0.Hist.Pos.Counts := (Sl.start hs0_13)
 have K : Sl Rep.u w (imm (Lg.O0 A)) v0_15 a0.Hist.Neg.Counts := (Sl.start hs0_15)
 refine (show WC _ _ _ _ [(0, ag (cp a0 v0_1 v0_13 v0_15))] _ from ?_)
 refine sq (rg ?_)
 have L := h
 obtain ⟨ad, ae, af, rfl⟩ := I.shape
 have h := L
 have M := h
 obtain ⟨ah, ai, aj, rfl⟩ := J.shape
 have h := M
 have P := h
 obtain ⟨ak, al, am, rfl⟩ := K.shape
 have h := P
 refine WL.box (O := (Lg.O0 A)) 11 (cp a0 (vl ad ae af) (vl ah ai aj) (vl ak al am)) z z z ?_
 intro H G j m o
 refine wY (ya z) z (nl (th (sq (sq (rg (wY (yf fo41_2 z) z (wY (yl ty3 z z (o.cell 2 _ z)) z (nl (th ?_)))))))))
 refine WC.block (sq (rg (wY (Y.eql_i z z) z ?_)))
 obtain ⟨av, Q, h⟩ := lt1 h
 refine WL.yE (ya z) (congrArg vB Q.symm) z (nl (th ?_))
 rcases cnd h with ⟨r, h⟩ | ⟨r, h⟩
 ·refine WC.condT' z r (sq (rg (wY (yf fo41_3 z) z (wY (yl ty3 z z (o.cell 3 _ z)) z (wY (Y.eql_i z z) z ?_)))))
  obtain ⟨ax, S, h⟩ := lt1 h
  refine WL.yE (ya z) (congrArg vB S.symm) z (nl (th (rt (At.inBlockR (At.thenR ?_)))))
  obtain rfl := some1 h
  have T : Stp [] (Lg.O0 A) w G j := (su_ m z)
  exact At.res (.inl z) z (.tmp z .nil) ⟨z, (se_ T z z)⟩
 ·refine WC.condF' z r (sq ?_)
  obtain ⟨an, h, U⟩ := bnd h
  refine WC.join (σ := Bool) (fun x w' => x = an ∧ j = w') (fun x => [(1, pt H 0), (10, vB x)]) ?_ ?_
  ·refine sq (rg (wY (Y.eql_i z z) z ?_))
   obtain ⟨ao, V, h⟩ := lt1 h
   refine WL.yE (ya z) (congrArg vB V.symm) z (nl (th ?_))
   rcases cnd h with ⟨t, h⟩ | ⟨t, h⟩
   ·refine WC.condT' z t (sk ?_)
    exact At.join (σ := Bool) ao ⟨some1 h, z⟩ (.cons z (.cons z .nil))
   ·refine WC.condF' z t (sq (rg (wY (Y.eql_i z z) z ?_)))
    obtain ⟨ap, W, h⟩ := lt1 h
    refine WL.yE (ya z) (congrArg vB W.symm) z (nl (th ?_))
    rcases cnd h with ⟨C, h⟩ | ⟨C, h⟩
    ·refine WC.condT' z C (sk ?_)
     exact At.join (σ := Bool) ap ⟨some1 h, z⟩ (.cons z (.cons z .nil))
    ·refine WC.condF' z C (sq (rg (wY (Y.eql_i z z) z ?_)))
     obtain ⟨aq, X, h⟩ := lt1 h
     refine WL.yE (ya z) (congrArg vB X.symm) z (nl (th ?_))
     rcases cnd h with ⟨D, h⟩ | ⟨D, h⟩
     ·refine WC.condT' z D (sk ?_)
      exact At.join (σ := Bool) aq ⟨some1 h, z⟩ (.cons z (.cons z .nil))
     ·refine WC.condF' z D (rg (wY (Y.eql_i z z) z ?_))
      obtain ⟨ar, Z, h⟩ := lt1 h
      refine WL.yE (ya z) (congrArg vB Z.symm) z (nl ?_)
      exact At.join (σ := Bool) ar ⟨some1 h, z⟩ (.cons z (.cons z .nil))
  ·rintro au _ ⟨rfl, rfl⟩
   replace h := U
   try dsimp only at h
   refine (show At _ _ _ [(1, pt H 0), (10, vB au)] _ from ?_)
   refine th ?_
   rcases cnd h with ⟨E, h⟩ | ⟨E, h⟩
   ·refine WC.condT' z E (sq (rg (wY (yf fo41_3 z) z (wY (yl ty3 z z (o.cell 3 _ z)) z (wY (Y.eql_i z z) z (wY (ym z) z ?_))))))
    refine WL.cut 4 (σ := Unit) (fun _ w' => j = w') (fun _ => [(22, vB ((decide (a0.Temp = 1)) || (decide (a0.Temp = 2))))]) ?_ ?_
    ·refine WL.part 18 z (fun F => ?_) (fun F => ?_)
     ·refine WL.gS z z z z (WL.gS z z z z (WL.gS z z z z (wY (Y.pick (b := true) z z) z (WL.ren (v' := vB ((decide (a0.Temp = 1)) || (decide (a0.Temp = 2)))) 22 z (congrArg vB (orT F)) ?_))))
      exact nl (At.join () z (.cons z .nil))
     ·refine ug z z (wY (yf fo41_3 z) z (ug z z (wY (yl ty3 z z (o.cell 3 _ z)) z (ug z z (wY (Y.eql_i z z) z (wY (Y.pick (b := false) z z) z (WL.ren (v' := vB ((decide (a0.Temp = 1)) || (decide (a0.Temp = 2)))) 22 z (congrArg vB (orF F)) ?_)))))))
      exact nl (At.join () z (.cons z .nil))
    ·rintro _ _ rfl
     refine (show WL _ _ _ _ _ [(22, vB ((decide (a0.Temp = 1)) || (decide (a0.Temp = 2))))] _ from ?_)
     obtain ⟨ay, aa, h⟩ := lt1 h
     refine WL.yE (ya z) (congrArg vB aa.symm) z (nl (th (rt (At.inBlockR (At.thenR ?_)))))
     obtain rfl := some1 h
     have ab : Stp [] (Lg.O0 A) w G j := (su_ m z)
     exact At.res (.inl z) z (.tmp z .nil) ⟨z, (se_ ab z z)⟩
   ·refine WC.condF' z E (sk (At.inBlock (th (sq (rg (wY (ya z) z (nl (th (rt ?_)))))))))
    obtain rfl := some1 h
    have ac : Stp [] (Lg.O0 A) w G j := (su_ m z)
    exact At.res (.inl z) z (.tmp z .nil) ⟨z, (se_ ac z z)⟩
theorem c_point_sum {A : Nat → Prop} {v0_1 : Value} {v0_13 : Value} {v0_15 : Value} {a0 : api_Point} {w : World} (hs0_1 : Sl rep_api_Pair w A v0_1 a0.Attrs) (hs0_13 : Sl Rep.u w A v0_13 a0.Hist.Pos.Counts) (hs0_15 : Sl Rep.u w A v0_15 a0.Hist.Neg.Counts) {r0 : Bool} (h : point_sum a0 = some r0) : Rets Tryd.prog 51 [ag (cp a0 v0_1 v0_13 v0_15)] w (fun v w' => v = vB r0 ∧ Ext w w') := by
 unfold point_sum at h
 refine Rets.enter Tryd.func51 z z ?_
 have t : Sl rep_api_Pair w (imm (Lg.O0 A)) v0_1 a0.Attrs := (Sl.start hs0_1)
 have C : Sl Rep.u w (imm (Lg.O0 A)) v0_13 a0.Hist.Pos.Counts := (Sl.start hs0_13)
 have D : Sl Rep.u w (imm (Lg.O0 A)) v0_15 a0.Hist.Neg.Counts := (Sl.start hs0_15)
 refine (show WC _ _ _ _ [(0, ag (cp a0 v0_1 v0_13 v0_15))] _ from ?_)
 refine sq (rg ?_)
 have E := h
 obtain ⟨J, K, L, rfl⟩ := t.shape
 have h := E
 have F := h
 obtain ⟨M, P, Q, rfl⟩ := C.shape
 have h := F
 have G := h
 obtain ⟨S, T, U, rfl⟩ := D.shape
 have h := G
 refine WL.box (O := (Lg.O0 A)) 11 (cp a0 (vl J K L) (vl M P Q) (vl S T U)) z z z ?_
 intro W V m r o
 refine wY (ya z) z (nl (th (sq (rg (wY (yf fo41_2 z) z (wY (yl ty3 z z (o.cell 2 _ z)) z (wY (Y.eql_i z z) z (wY (ym z) z ?_))))))))
 refine WL.cut 4 (σ := Unit) (fun _ w' => m = w') (fun _ => [(10, vB ((decide (a0.Kind = 1)) || (decide (a0.Kind = 2))))]) ?_ ?_
 ·refine WL.part 6 z (fun j => ?_) (fun j => ?_)
  ·refine WL.gS z z z z (WL.gS z z z z (WL.gS z z z z (wY (Y.pick (b := true) z z) z (WL.ren (v' := vB ((decide (a0.Kind = 1)) || (decide (a0.Kind = 2)))) 10 z (congrArg vB (orT j)) ?_))))
   exact nl (At.join () z (.cons z .nil))
  ·refine ug z z (wY (yf fo41_2 z) z (ug z z (wY (yl ty3 z z (o.cell 2 _ z)) z (ug z z (wY (Y.eql_i z z) z (wY (Y.pick (b := false) z z) z (WL.ren (v' := vB ((decide (a0.Kind = 1)) || (decide (a0.Kind = 2)))) 10 z (congrArg vB (orF j)) ?_)))))))
   exact nl (At.join () z (.cons z .nil))
 ·rintro _ _ rfl
  refine (show WL _ _ _ _ _ [(10, vB ((decide (a0.Kind = 1)) || (decide (a0.Kind = 2))))] _ from ?_)
  obtain ⟨X, H, h⟩ := lt1 h
  refine WL.yE (ya z) (congrArg vB H.symm) z (nl (th (rt ?_)))
  obtain rfl := some1 h
  have I : Stp [] (Lg.O0 A) w V m := (su_ r z)
  exact At.res (.inl z) z (.tmp z .nil) ⟨z, (se_ I z z)⟩
theorem c_point_times {A : Nat → Prop} {v0_1 : Value} {v0_13 : Value} {v0_15 : Value} {a0 : api_Point} {w : World} (hs0_1 : Sl rep_api_Pair w A v0_1 a0.Attrs) (hs0_13 : Sl Rep.u w A v0_13 a0.Hist.Pos.Counts) (hs0_15 : Sl Rep.u w A v0_15 a0.Hist.Neg.Counts) {r0 : Bool} (h : point_times a0 = some r0) : Rets Tryd.prog 52 [ag (cp a0 v0_1 v0_13 v0_15)] w (fun v w' => v = vB r0 ∧ Ext w w') := by
 unfold point_times at h
 refine Rets.enter Tryd.func52 z z ?_
 have F : Sl rep_api_Pair w (imm (Lg.O0 A)) v0_1 a0.Attrs := (Sl.start hs0_1)
 have G : Sl Rep.u w (imm (Lg.O0 A)) v0_13 a0.Hist.Pos.Counts := (Sl.start hs0_13)
 have H : Sl Rep.u w (imm (Lg.O0 A)) v0_15 a0.Hist.Neg.Counts := (Sl.start hs0_15)
 refine (show WC _ _ _ _ [(0, ag (cp a0 v0_1 v0_13 v0_15))] _ from ?_)
 refine sq (rg ?_)
 have I := h
 obtain ⟨T, U, V, rfl⟩ := F.shape
 have h := I
 have J := h
 obtain ⟨W, X, Z, rfl⟩ := G.shape
 have h := J
 have K := h
 obtain ⟨aa, ab, ac, rfl⟩ := H.shape
 have h := K
 refine WL.box (O := (Lg.O0 A)) 11 (cp a0 (vl T U V) (vl W X Z) (vl aa ab ac)) z z z ?_
 intro E D m o j
 refine wY (ya z) z (nl (th (sq (sq (rg (wY (yf fo41_5 z) z (wY (yl ty3 z z (j.cell 5 _ z)) z (wY (Y.lss_i z z) z (wY (ym z) z ?_)))))))))
 refine WL.cut 4 (σ := Unit) (fun _ w' => m = w') (fun _ => [(1, pt E 0), (10, vB ((decide (a0.Start < 0)) || (decide (4503599627370496 < a0.Time))))]) ?_ ?_
 ·refine WL.part 6 z (fun r => ?_) (fun r => ?_)
  ·refine WL.gS z z z z (WL.gS z z z z (WL.gS z z z z (wY (Y.pick (b := true) z z) z (WL.ren (v' := vB ((decide (a0.Start < 0)) || (decide (4503599627370496 < a0.Time)))) 10 z (congrArg vB (orT r)) ?_))))
   exact nl (At.join () z (.cons z (.cons z .nil)))
  ·refine ug z z (wY (yf fo41_6 z) z (ug z z (wY (yl ty3 z z (j.cell 6 _ z)) z (ug z z (wY (Y.gtr_i z z) z (wY (Y.pick (b := false) z z) z (WL.ren (v' := vB ((decide (a0.Start < 0)) || (decide (4503599627370496 < a0.Time)))) 10 z (congrArg vB (orF r)) ?_)))))))
   exact nl (At.join () z (.cons z (.cons z .nil)))
 ·rintro _ _ rfl
  refine (show WL _ _ _ _ _ [(1, pt E 0), (10, vB ((decide (a0.Start < 0)) || (decide (4503599627370496 < a0.Time))))] _ from ?_)
  refine nl (th ?_)
  rcases cnd h with ⟨t, h⟩ | ⟨t, h⟩
  ·refine WC.condT' z t (sq (rg (wY (ya z) z (nl (th (rt (At.thenR ?_)))))))
   obtain rfl := some1 h
   have L : Stp [] (Lg.O0 A) w D m := (su_ o z)
   exact At.res (.inl z) z (.tmp z .nil) ⟨z, (se_ L z z)⟩
  ·refine WC.condF' z t (sk (th (sq (sq (rg (wY (yf fo41_2 z) z (wY (yl ty3 z z (j.cell 2 _ z)) z (wY (Y.eql_i z z) z (nl ?_)))))))))
   refine th ?_
   rcases cnd h with ⟨C, h⟩ | ⟨C, h⟩
   ·refine WC.condT' z C (sq (rg (wY (yf fo41_5 z) z (wY (yl ty3 z z (j.cell 5 _ z)) z (wY (yf fo41_6 z) z (wY (yl ty3 z z (j.cell 6 _ z)) z (wY (Y.eql_i z z) z ?_)))))))
    obtain ⟨ad, M, h⟩ := lt1 h
    refine WL.yE (ya z) (congrArg vB M.symm) z (nl (th (rt (At.thenR ?_))))
    obtain rfl := some1 h
    have P : Stp [] (Lg.O0 A) w D m := (su_ o z)
    exact At.res (.inl z) z (.tmp z .nil) ⟨z, (se_ P z z)⟩
   ·refine WC.condF' z C (sk (th (sq (rg (wY (yf fo41_5 z) z (wY (yl ty3 z z (j.cell 5 _ z)) z (wY (yf fo41_6 z) z (wY (yl ty3 z z (j.cell 6 _ z)) z (wY (Y.lss_i z z) z ?_)))))))))
    obtain ⟨ae, Q, h⟩ := lt1 h
    refine WL.yE (ya z) (congrArg vB Q.symm) z (nl (th (rt ?_)))
    obtain rfl := some1 h
    have S : Stp [] (Lg.O0 A) w D m := (su_ o z)
    exact At.res (.inl z) z (.tmp z .nil) ⟨z, (se_ S z z)⟩
theorem c_point_bare {A : Nat → Prop} {v0_3 : Value} {v0_5 : Value} {a0 : api_Hist} {w : World} (hs0_3 : Sl Rep.u w A v0_3 a0.Pos.Counts) (hs0_5 : Sl Rep.u w A v0_5 a0.Neg.Counts) {r0 : Bool} (h : point_bare a0 = some r0) : Rets Tryd.prog 76 [ag (hl a0 v0_3 v0_5)] w (fun v w' => v = vB r0 ∧ Ext w w') := by
 unfold point_bare at h
 refine Rets.enter Tryd.func76 z z ?_
 have F : Sl Rep.u w (imm (Lg.O0 A)) v0_3 a0.Pos.Counts := (Sl.start hs0_3)
 have G : Sl Rep.u w (imm (Lg.O0 A)) v0_5 a0.Neg.Counts := (Sl.start hs0_5)
 refine (show WC _ _ _ _ [(0, ag (hl a0 v0_3 v0_5))] _ from ?_)
 refine sq (rg ?_)
 have H := h
 obtain ⟨P, Q, S, rfl⟩ := F.shape
 have h := H
 have I := h
 obtain ⟨T, U, V, rfl⟩ := G.shape
 have h := I
 refine WL.box (O := (Lg.O0 A)) 11 (hl a0 (vl P Q S) (vl T U V)) z z z ?_
 intro o W m r j
 refine wY (ya z) z (nl (th (sq (rg (wY (yf fo39_0 z) z (wY (yl ty3 z z (j.cell 0 _ z)) z (wY (Y.eql_i z z) z (wY (ym z) z ?_))))))))
 refine WL.cut 4 (σ := Unit) (fun _ w' => m = w') (fun _ => [(1, pt o 0), (10, vB ((decide (a0.Scale = 0)) && (decide (a0.Zero = 0))))]) ?_ ?_
 ·refine WL.part 6 z (fun t => ?_) (fun t => ?_)
  ·refine ug z z (wY (yf fo39_1 z) z (ug z z (wY (yl ty34 z z (j.cell 1 _ z)) z (ug z z (wY (Y.eql_u (b := 0) z z) z (wY (Y.pick (b := true) z z) z (WL.ren (v' := vB ((decide (a0.Scale = 0)) && (decide (a0.Zero = 0)))) 10 z (congrArg vB (andT t)) ?_)))))))
   exact nl (At.join () z (.cons z (.cons z .nil)))
  ·refine WL.gS z z z z (WL.gS z z z z (WL.gS z z z z (wY (Y.pick (b := false) z z) z (WL.ren (v' := vB ((decide (a0.Scale = 0)) && (decide (a0.Zero = 0)))) 10 z (congrArg vB (andF t)) ?_))))
   exact nl (At.join () z (.cons z (.cons z .nil)))
 ·rintro _ _ rfl
  refine (show WL _ _ _ _ _ [(1, pt o 0), (10, vB ((decide (a0.Scale = 0)) && (decide (a0.Zero = 0))))] _ from ?_)
  refine wY (ym z) z ?_
  refine WL.cut 5 (σ := Unit) (fun _ w' => m = w') (fun _ => [(1, pt o 0), (16, vB (((decide (a0.Scale = 0)) && (decide (a0.Zero = 0))) && (decide (a0.Pos.Offset = 0))))]) ?_ ?_
  ·refine WL.part 11 z (fun C => ?_) (fun C => ?_)
   ·refine ug z z (wY (yf fo39_2 z) z (ug z z (wY (yf fo37_0 z) z (ug z z (wY (yl ty3 z z (j.cell 2 _ z)) z (ug z z (wY (Y.eql_i z z) z (wY (Y.pick (b := true) z z) z (WL.ren (v' := vB (((decide (a0.Scale = 0)) && (decide (a0.Zero = 0))) && (decide (a0.Pos.Offset = 0)))) 16 z (congrArg vB (andT C)) ?_)))))))))
    exact nl (At.join () z (.cons z (.cons z .nil)))
   ·refine WL.gS z z z z (WL.gS z z z z (WL.gS z z z z (WL.gS z z z z (wY (Y.pick (b := false) z z) z (WL.ren (v' := vB (((decide (a0.Scale = 0)) && (decide (a0.Zero = 0))) && (decide (a0.Pos.Offset = 0)))) 16 z (congrArg vB (andF C)) ?_)))))
    exact nl (At.join () z (.cons z (.cons z .nil)))
  ·rintro _ _ rfl
   refine (show WL _ _ _ _ _ [(1, pt o 0), (16, vB (((decide (a0.Scale = 0)) && (decide (a0.Zero = 0))) && (decide (a0.Pos.Offset = 0))))] _ from ?_)
   refine wY (ym z) z ?_
   refine WL.cut 5 (σ := Unit) (fun _ w' => m = w') (fun _ => [(1, pt o 0), (22, vB ((((decide (a0.Scale = 0)) && (decide (a0.Zero = 0))) && (decide (a0.Pos.Offset = 0))) && (decide (a0.Neg.Offset = 0))))]) ?_ ?_
   ·refine WL.part 17 z (fun D => ?_) (fun D => ?_)
    ·refine ug z z (wY (yf fo39_3 z) z (ug z z (wY (yf fo37_0 z) z (ug z z (wY (yl ty3 z z (j.cell 4 _ z)) z (ug z z (wY (Y.eql_i z z) z (wY (Y.pick (b := true) z z) z (WL.ren (v' := vB ((((decide (a0.Scale = 0)) && (decide (a0.Zero = 0))) && (decide (a0.Pos.Offset = 0))) && (decide (a0.Neg.Offset = 0)))) 22 z (congrArg vB (andT D)) ?_)))))))))
     exact nl (At.join () z (.cons z (.cons z .nil)))
    ·refine WL.gS z z z z (WL.gS z z z z (WL.gS z z z z (WL.gS z z z z (wY (Y.pick (b := false) z z) z (WL.ren (v' := vB ((((decide (a0.Scale = 0)) && (decide (a0.Zero = 0))) && (decide (a0.Pos.Offset = 0))) && (decide (a0.Neg.Offset = 0)))) 22 z (congrArg vB (andF D)) ?_)))))
     exact nl (At.join () z (.cons z (.cons z .nil)))
   ·rintro _ _ rfl
    refine (show WL _ _ _ _ _ [(1, pt o 0), (22, vB ((((decide (a0.Scale = 0)) && (decide (a0.Zero = 0))) && (decide (a0.Pos.Offset = 0))) && (decide (a0.Neg.Offset = 0))))] _ from ?_)
    refine wY (ym z) z ?_
    refine WL.cut 11 (σ := Unit) (fun _ w' => m = w') (fun _ => [(34, vB (((((decide (a0.Scale = 0)) && (decide (a0.Zero = 0))) && (decide (a0.Pos.Offset = 0))) && (decide (a0.Neg.Offset = 0))) && (decide (w64 ((a0.Pos.Counts.length : Int) + (a0.Neg.Counts.length : Int)) = 0))))]) ?_ ?_
    ·refine WL.part 23 z (fun E => ?_) (fun E => ?_)
     ·refine ug z z (wY (yf fo39_2 z) z (ug z z (wY (yf fo37_1 z) z (ug z z (wY (yl ty35 z z (j.cell 3 _ z)) z (ug z z ?_))))))
      have J := F.i r z z
      refine wY (Y.len ty35 z J) z (ug z z (wY (yf fo39_3 z) z (ug z z (wY (yf fo37_1 z) z (ug z z (wY (yl ty35 z z (j.cell 5 _ z)) z (ug z z ?_)))))))
      have K := G.i r z z
      refine wY (Y.len ty35 z K) z (ug z z (wY (Y.add_i z z) z (ug z z (wY (Y.eql_i z z) z (wY (Y.pick (b := true) z z) z (WL.ren (v' := vB (((((decide (a0.Scale = 0)) && (decide (a0.Zero = 0))) && (decide (a0.Pos.Offset = 0))) && (decide (a0.Neg.Offset = 0))) && (decide (w64 ((a0.Pos.Counts.length : Int) + (a0.Neg.Counts.length : Int)) = 0)))) 34 z (congrArg vB (andT E)) ?_))))))
      exact nl (At.join () z (.cons z .nil))
     ·refine WL.gS z z z z (WL.gS z z z z (WL.gS z z z z (WL.gS z z z z (WL.gS z z z z (WL.gS z z z z (WL.gS z z z z (WL.gS z z z z (WL.gS z z z z (WL.gS z z z z ?_)))))))))
      refine wY (Y.pick (b := false) z z) z (WL.ren (v' := vB (((((decide (a0.Scale = 0)) && (decide (a0.Zero = 0))) && (decide (a0.Pos.Offset = 0))) && (decide (a0.Neg.Offset = 0))) && (decide (w64 ((a0.Pos.Counts.length : Int) + (a0.Neg.Counts.length : Int)) = 0)))) 34 z (congrArg vB (andF E)) ?_)
      exact nl (At.join () z (.cons z .nil))
    ·rintro _ _ rfl
     refine (show WL _ _ _ _ _ [(34, vB (((((decide (a0.Scale = 0)) && (decide (a0.Zero = 0))) && (decide (a0.Pos.Offset = 0))) && (decide (a0.Neg.Offset = 0))) && (decide (w64 ((a0.Pos.Counts.length : Int) + (a0.Neg.Counts.length : Int)) = 0))))] _ from ?_)
     obtain ⟨X, L, h⟩ := lt1 h
     refine WL.yE (ya z) (congrArg vB L.symm) z (nl (th (rt ?_)))
     obtain rfl := some1 h
     have M : Stp [] (Lg.O0 A) w W m := (su_ r z)
     exact At.res (.inl z) z (.tmp z .nil) ⟨z, (se_ M z z)⟩
theorem c_point_own {A : Nat → Prop} {v0_1 : Value} {v0_13 : Value} {v0_15 : Value} {a0 : api_Point} {w : World} (hs0_1 : Sl rep_api_Pair w A v0_1 a0.Attrs) (hs0_13 : Sl Rep.u w A v0_13 a0.Hist.Pos.Counts) (hs0_15 : Sl Rep.u w A v0_15 a0.Hist.Neg.Counts) {r0 : Bool} (h : point_own a0 = some r0) : Rets Tryd.prog 53 [ag (cp a0 v0_1 v0_13 v0_15)] w (fun v w' => v = vB r0 ∧ Ext w w') := by
 unfold point_own at h
 refine Rets.enter Tryd.func53 z z ?_
 have am : Sl rep_api_Pair w (imm (Lg.O0 A)) v0_1 a0.Attrs := (Sl.start hs0_1)
 have ab : Sl Rep.u w (imm (Lg.O0 A)) v0_13 a0.Hist.Pos.Counts := (Sl.start hs0_13)
 have ac : Sl Rep.u w (imm (Lg.O0 A)) v0_15 a0.Hist.Neg.Counts := (Sl.start hs0_15)
 refine (show WC _ _ _ _ [(0, ag (cp a0 v0_1 v0_13 v0_15))] _ from ?_)
 refine sq (rg ?_)
 have an := h
 obtain ⟨aN, aO, aP, rfl⟩ := am.shape
 have h := an
 have ao := h
 obtain ⟨ad, ae, af, rfl⟩ := ab.shape
 have h := ao
 have ap := h
 obtain ⟨ah, ai, aj, rfl⟩ := ac.shape
 have h := ap
 refine WL.box (O := (Lg.O0 A)) 11 (cp a0 (vl aN aO aP) (vl ad ae af) (vl ah ai aj)) z z z ?_
 intro t D m j r
 refine wY (ya z) z (nl (th (sq (rg (wY (yf fo41_2 z) z (wY (yl ty3 z z (r.cell 2 _ z)) z (wY (Y.eql_i z z) z (wY (ym z) z ?_))))))))
 refine WL.cut 4 (σ := Unit) (fun _ w' => m = w') (fun _ => [(1, pt t 0), (11, vB ((decide (a0.Kind = 2)) || (decide (a0.Kind = 3))))]) ?_ ?_
 ·refine WL.part 7 z (fun F => ?_) (fun F => ?_)
  ·refine WL.gS z z z z (WL.gS z z z z (WL.gS z z z z (wY (Y.pick (b := true) z z) z (WL.ren (v' := vB ((decide (a0.Kind = 2)) || (decide (a0.Kind = 3)))) 11 z (congrArg vB (orT F)) ?_))))
   exact nl (At.join () z (.cons z (.cons z .nil)))
  ·refine ug z z (wY (yf fo41_2 z) z (ug z z (wY (yl ty3 z z (r.cell 2 _ z)) z (ug z z (wY (Y.eql_i z z) z (wY (Y.pick (b := false) z z) z (WL.ren (v' := vB ((decide (a0.Kind = 2)) || (decide (a0.Kind = 3)))) 11 z (congrArg vB (orF F)) ?_)))))))
   exact nl (At.join () z (.cons z (.cons z .nil)))
 ·rintro _ _ rfl
  refine (show WL _ _ _ _ _ [(1, pt t 0), (11, vB ((decide (a0.Kind = 2)) || (decide (a0.Kind = 3))))] _ from ?_)
  refine wY (ym z) z ?_
  refine WL.cut 4 (σ := Unit) (fun _ w' => m = w') (fun _ => [(1, pt t 0), (16, vB (((decide (a0.Kind = 2)) || (decide (a0.Kind = 3))) || (decide (a0.Kind = 5))))]) ?_ ?_
  ·refine WL.part 12 z (fun G => ?_) (fun G => ?_)
   ·refine WL.gS z z z z (WL.gS z z z z (WL.gS z z z z (wY (Y.pick (b := true) z z) z (WL.ren (v' := vB (((decide (a0.Kind = 2)) || (decide (a0.Kind = 3))) || (decide (a0.Kind = 5)))) 16 z (congrArg vB (orT G)) ?_))))
    exact nl (At.join () z (.cons z (.cons z .nil)))
   ·refine ug z z (wY (yf fo41_2 z) z (ug z z (wY (yl ty3 z z (r.cell 2 _ z)) z (ug z z (wY (Y.eql_i z z) z (wY (Y.pick (b := false) z z) z (WL.ren (v' := vB (((decide (a0.Kind = 2)) || (decide (a0.Kind = 3))) || (decide (a0.Kind = 5)))) 16 z (congrArg vB (orF G)) ?_)))))))
    exact nl (At.join () z (.cons z (.cons z .nil)))
  ·rintro _ _ rfl
   refine (show WL _ _ _ _ _ [(1, pt t 0), (16, vB (((decide (a0.Kind = 2)) || (decide (a0.Kind = 3))) || (decide (a0.Kind = 5))))] _ from ?_)
   obtain ⟨o, H, h⟩ := lt1 h
   refine WL.yE (ya z) (congrArg vB H.symm) z (nl (th (sq (WC.block (sq (sq (rg (wY (yf fo41_2 z) z (wY (yl ty3 z z (r.cell 2 _ z)) z ?_)))))))))
   refine wY (Y.neq_i z z) z (wY (ym z) z ?_)
   refine WL.cut 4 (σ := Unit) (fun _ w' => m = w') (fun _ => [(1, pt t 0), (3, vB o), (25, vB ((!decide (a0.Kind = 1)) && (!decide (a0.Int_ = 0))))]) ?_ ?_
   ·refine WL.part 21 z (fun I => ?_) (fun I => ?_)
    ·refine ug z z (wY (yf fo41_7 z) z (ug z z (wY (yl ty3 z z (r.cell 7 _ z)) z (ug z z (wY (Y.neq_i z z) z (wY (Y.pick (b := true) z z) z (WL.ren (v' := vB ((!decide (a0.Kind = 1)) && (!decide (a0.Int_ = 0)))) 25 z (congrArg vB (andT I)) ?_)))))))
     exact nl (At.join () z (.cons z (.cons z (.cons z .nil))))
    ·refine WL.gS z z z z (WL.gS z z z z (WL.gS z z z z (wY (Y.pick (b := false) z z) z (WL.ren (v' := vB ((!decide (a0.Kind = 1)) && (!decide (a0.Int_ = 0)))) 25 z (congrArg vB (andF I)) ?_))))
     exact nl (At.join () z (.cons z (.cons z (.cons z .nil))))
   ·rintro _ _ rfl
    refine (show WL _ _ _ _ _ [(1, pt t 0), (3, vB o), (25, vB ((!decide (a0.Kind = 1)) && (!decide (a0.Int_ = 0))))] _ from ?_)
    obtain ⟨aZ, aq, h⟩ := lt1 h
    refine WL.yE (ya z) (congrArg vB aq.symm) z (nl (th ?_))
    rcases cnd h with ⟨J, h⟩ | ⟨J, h⟩
    ·refine WC.condT' z J (sk (th ?_))
     rcases cnd h with ⟨K, h⟩ | ⟨K, h⟩
     ·refine WC.condT' z K (sq (rg (wY (ya z) z (nl (th (rt (At.inBlockR (At.thenR ?_))))))))
      obtain rfl := some1 h
      have ar : Stp [] (Lg.O0 A) w D m := (su_ j z)
      exact At.res (.inl z) z (.tmp z .nil) ⟨z, (se_ ar z z)⟩
     ·refine WC.condF' z K (sk (At.inBlock (th (sq (rg (wY (ya z) z (nl (th (rt ?_)))))))))
      obtain rfl := some1 h
      have au : Stp [] (Lg.O0 A) w D m := (su_ j z)
      exact At.res (.inl z) z (.tmp z .nil) ⟨z, (se_ au z z)⟩
    ·refine WC.condF' z J (sq (rg (wY (ym z) z (wY (Y.not z) z (wY (ym z) z ?_)))))
     refine WL.cut 4 (σ := Unit) (fun _ w' => m = w') (fun _ => [(1, pt t 0), (32, vB ((!o) && (!decide (a0.Re = 0))))]) ?_ ?_
     ·refine WL.part 28 z (fun L => ?_) (fun L => ?_)
      ·refine ug z z (wY (yf fo41_8 z) z (ug z z (wY (yl ty34 z z (r.cell 8 _ z)) z (ug z z (wY (Y.neq_u (b := 0) z z) z (wY (Y.pick (b := true) z z) z (WL.ren (v' := vB ((!o) && (!decide (a0.Re = 0)))) 32 z (congrArg vB (andT L)) ?_)))))))
       exact nl (At.join () z (.cons z (.cons z .nil)))
      ·refine WL.gS z z z z (WL.gS z z z z (WL.gS z z z z (wY (Y.pick (b := false) z z) z (WL.ren (v' := vB ((!o) && (!decide (a0.Re = 0)))) 32 z (congrArg vB (andF L)) ?_))))
       exact nl (At.join () z (.cons z (.cons z .nil)))
     ·rintro _ _ rfl
      refine (show WL _ _ _ _ _ [(1, pt t 0), (32, vB ((!o) && (!decide (a0.Re = 0))))] _ from ?_)
      obtain ⟨a1, av, h⟩ := lt1 h
      refine WL.yE (ya z) (congrArg vB av.symm) z (nl (th ?_))
      rcases cnd h with ⟨M, h⟩ | ⟨M, h⟩
      ·refine WC.condT' z M (sk (th ?_))
       rcases cnd h with ⟨P, h⟩ | ⟨P, h⟩
       ·refine WC.condT' z P (sq (rg (wY (ya z) z (nl (th (rt (At.inBlockR (At.thenR ?_))))))))
        obtain rfl := some1 h
        have ax : Stp [] (Lg.O0 A) w D m := (su_ j z)
        exact At.res (.inl z) z (.tmp z .nil) ⟨z, (se_ ax z z)⟩
       ·refine WC.condF' z P (sk (At.inBlock (th (sq (rg (wY (ya z) z (nl (th (rt ?_)))))))))
        obtain rfl := some1 h
        have ay : Stp [] (Lg.O0 A) w D m := (su_ j z)
        exact At.res (.inl z) z (.tmp z .nil) ⟨z, (se_ ay z z)⟩
      ·refine WC.condF' z M (sq (rg (wY (yf fo41_2 z) z (wY (yl ty3 z z (r.cell 2 _ z)) z (wY (Y.neq_i z z) z (wY (ym z) z ?_))))))
       refine WL.cut 4 (σ := Unit) (fun _ w' => m = w') (fun _ => [(1, pt t 0), (40, vB ((!decide (a0.Kind = 5)) && (!decide (a0.Im = 0))))]) ?_ ?_
       ·refine WL.part 36 z (fun Q => ?_) (fun Q => ?_)
        ·refine ug z z (wY (yf fo41_9 z) z (ug z z (wY (yl ty34 z z (r.cell 9 _ z)) z (ug z z (wY (Y.neq_u (b := 0) z z) z (wY (Y.pick (b := true) z z) z (WL.ren (v' := vB ((!decide (a0.Kind = 5)) && (!decide (a0.Im = 0)))) 40 z (congrArg vB (andT Q)) ?_)))))))
         exact nl (At.join () z (.cons z (.cons z .nil)))
        ·refine WL.gS z z z z (WL.gS z z z z (WL.gS z z z z (wY (Y.pick (b := false) z z) z (WL.ren (v' := vB ((!decide (a0.Kind = 5)) && (!decide (a0.Im = 0)))) 40 z (congrArg vB (andF Q)) ?_))))
         exact nl (At.join () z (.cons z (.cons z .nil)))
       ·rintro _ _ rfl
        refine (show WL _ _ _ _ _ [(1, pt t 0), (40, vB ((!decide (a0.Kind = 5)) && (!decide (a0.Im = 0))))] _ from ?_)
        obtain ⟨a2, az, h⟩ := lt1 h
        refine WL.yE (ya z) (congrArg vB az.symm) z (nl (th ?_))
        rcases cnd h with ⟨S, h⟩ | ⟨S, h⟩
        ·refine WC.condT' z S (sk (th ?_))
         rcases cnd h with ⟨T, h⟩ | ⟨T, h⟩
         ·refine WC.condT' z T (sq (rg (wY (ya z) z (nl (th (rt (At.inBlockR (At.thenR ?_))))))))
          obtain rfl := some1 h
          have aA : Stp [] (Lg.O0 A) w D m := (su_ j z)
          exact At.res (.inl z) z (.tmp z .nil) ⟨z, (se_ aA z z)⟩
         ·refine WC.condF' z T (sk (At.inBlock (th (sq (rg (wY (ya z) z (nl (th (rt ?_)))))))))
          obtain rfl := some1 h
          have aC : Stp [] (Lg.O0 A) w D m := (su_ j z)
          exact At.res (.inl z) z (.tmp z .nil) ⟨z, (se_ aC z z)⟩
        ·refine WC.condF' z S (sq (rg (wY (yf fo41_2 z) z (wY (yl ty3 z z (r.cell 2 _ z)) z (wY (Y.neq_i z z) z (wY (ym z) z ?_))))))
         obtain ⟨aQ, h, aD⟩ := bnd h
         refine WL.cut 5 (σ := (Bool × Own)) (fun x w' => x.1 = aQ ∧ Stp [] D m x.2 w') (fun x => [(1, pt t 0), (49, vB x.1)]) ?_ ?_
         ·rcases cnd h with ⟨U, h⟩ | ⟨U, h⟩
          ·refine WL.ren 44 z (congrArg vB U) (ug z z (wY (yf fo41_10 z) z (ug z z (wY (yL ty39 z z (r.cells 10 (hl a0.Hist (vl ad ae af) (vl ah ai aj)) z) z) z (ug z z ?_)))))
           have aE := ab.i j z z
           have aF := ac.i j z z
           obtain ⟨aR, aG, h⟩ := bnd h
           refine WL.call (vals := [ag (hl a0.Hist (vl ad ae af) (vl ah ai aj))]) kok76 z z (c_point_bare (A := fun _ => True) (a0 := a0.Hist) (Sl.all aE) (Sl.all aF) aG) ?_
           rintro aX aY ⟨rfl, aH⟩
           obtain ⟨aS, aT, aU, al⟩ := adoptE D (fun k => 1) aH
           refine ug z z (wY (Y.not z) z (wY (Y.pick (b := true) z z) z ?_))
           exact nl (At.join (σ := (Bool × Own)) ((!aR), aS) ⟨some1 h, (su_ al z)⟩ (.cons z (.cons z .nil)))
          ·refine WL.ren 44 z (congrArg vB U) (WL.gS z z z z (WL.gS z z z z (WL.gS z z z z (WL.gS z z z z (wY (Y.pick (b := false) z z) z ?_)))))
           exact nl (At.join (σ := (Bool × Own)) (false, D) ⟨some1 h, (sr_ _ _ _)⟩ (.cons z (.cons z .nil)))
         ·rintro ⟨aW, aa⟩ E ⟨rfl, C⟩
          replace h := aD
          try dsimp only at h C
          refine (show WL _ _ _ _ _ [(1, pt t 0), (49, vB aW)] _ from ?_)
          refine wY (ya z) z (nl (th ?_))
          rcases cnd h with ⟨V, h⟩ | ⟨V, h⟩
          ·refine WC.condT' z V (sk (th ?_))
           rcases cnd h with ⟨W, h⟩ | ⟨W, h⟩
           ·refine WC.condT' z W (sq (rg (wY (ya z) z (nl (th (rt (At.inBlockR (At.thenR ?_))))))))
            obtain rfl := some1 h
            have aI : Stp [] (Lg.O0 A) w aa E := (tr_ (su_ j z) (su_ C z))
            exact At.res (.inl z) z (.tmp z .nil) ⟨z, (se_ aI z z)⟩
           ·refine WC.condF' z W (sk (At.inBlock (th (sq (rg (wY (ya z) z (nl (th (rt ?_)))))))))
            obtain rfl := some1 h
            have aJ : Stp [] (Lg.O0 A) w aa E := (tr_ (su_ j z) (su_ C z))
            exact At.res (.inl z) z (.tmp z .nil) ⟨z, (se_ aJ z z)⟩
          ·refine WC.condF' z V (rg (wY (yf fo41_11 z) z ?_))
           have ak := r.st C z
           refine wY (yl ty3 z z (ak.cell 16 _ z)) z (wY (Y.lss_i z z) z (wY (ym z) z ?_))
           refine WL.cut 4 (σ := Unit) (fun _ w' => E = w') (fun _ => [(57, vB ((decide (a0.Flags < 0)) || (decide (31 < a0.Flags))))]) ?_ ?_
           ·refine WL.part 53 z (fun X => ?_) (fun X => ?_)
            ·refine WL.gS z z z z (WL.gS z z z z (WL.gS z z z z (wY (Y.pick (b := true) z z) z (WL.ren (v' := vB ((decide (a0.Flags < 0)) || (decide (31 < a0.Flags)))) 57 z (congrArg vB (orT X)) ?_))))
             exact nl (At.join () z (.cons z .nil))
            ·refine ug z z (wY (yf fo41_11 z) z (ug z z (wY (yl ty3 z z (ak.cell 16 _ z)) z (ug z z (wY (Y.gtr_i z z) z (wY (Y.pick (b := false) z z) z (WL.ren (v' := vB ((decide (a0.Flags < 0)) || (decide (31 < a0.Flags)))) 57 z (congrArg vB (orF X)) ?_)))))))
             exact nl (At.join () z (.cons z .nil))
           ·rintro _ _ rfl
            refine (show WL _ _ _ _ _ [(57, vB ((decide (a0.Flags < 0)) || (decide (31 < a0.Flags))))] _ from ?_)
            obtain ⟨a3, aK, h⟩ := lt1 h
            refine WL.yE (ya z) (congrArg vB aK.symm) z (nl (th ?_))
            rcases cnd h with ⟨Z, h⟩ | ⟨Z, h⟩
            ·refine WC.condT' z Z (sq (rg (wY (ya z) z (nl (th (rt (At.inBlockR (At.thenR ?_))))))))
             obtain rfl := some1 h
             have aL : Stp [] (Lg.O0 A) w aa E := (tr_ (su_ j z) (su_ C z))
             exact At.res (.inl z) z (.tmp z .nil) ⟨z, (se_ aL z z)⟩
            ·refine WC.condF' z Z (sk (At.inBlock (th (sq (rg (wY (ya z) z (nl (th (rt ?_)))))))))
             obtain rfl := some1 h
             have aM : Stp [] (Lg.O0 A) w aa E := (tr_ (su_ j z) (su_ C z))
             exact At.res (.inl z) z (.tmp z .nil) ⟨z, (se_ aM z z)⟩
theorem c_num_Finite {a0 : UInt64} {w : World} {r0 : Bool} (h : num_Finite a0 = some r0) : Rets Tryd.prog 54 [vu a0] w (fun v w' => v = vB r0 ∧ Ext w w') := by
 unfold num_Finite at h
 refine Rets.enter Tryd.func54 z z ?_
 refine (show WC _ _ _ _ [(0, vu a0)] _ from ?_)
 refine sq (rg (wY (ya z) z (nl (th (sq (rg (wY (ym z) z (wY (Y.and_u (b := 9218868437227405312) z z) z (wY (Y.neq_u (b := 9218868437227405312) z z) z ?_)))))))))
 obtain ⟨o, j, h⟩ := lt1 h
 refine WL.yE (ya z) (congrArg vB j.symm) z (nl (th (rt ?_)))
 obtain rfl := some1 h
 have m : Stp [] (Lg.O0 (fun _ => False)) w (Lg.O0 (fun _ => False)) w := (sr_ _ _ _)
 exact At.res (.inl z) z (.tmp z .nil) ⟨z, (se_ m z z)⟩
theorem c_num_of {a0 : UInt64} {w : World} : Rets Tryd.prog 77 [vu a0] w (fun v w' => v = .float .f64 a0.toNat ∧ Ext w w') := by
  refine Rets.enter Tryd.func77 z z ?_
  refine (show WC _ _ _ _ [(0, vu a0)] _ from ?_)
  refine sq (rg (wY (ya (v := .float .f64 0) z) z (nl (th ?_))))
  refine sq (rg ?_)
  refine wY (ym z) z (wY (Y.ffrom xfrom_95 z) z ?_)
  refine wY (ya z) z (nl (th (rt ?_)))
  exact At.res (.inl z) z (.tmp z .nil) ⟨z, Ext.refl w⟩
theorem c_num_Less {a0 : UInt64} {a1 : UInt64} {w : World} {r0 : Bool} (h : num_Less a0 a1 = some r0) : Rets Tryd.prog 55 [vu a0, vu a1] w (fun v w' => v = vB r0 ∧ Ext w w') := by
  unfold num_Less at h
  obtain rfl := some1 h
  refine Rets.enter Tryd.func55 z z ?_
  refine (show WC _ _ _ _ [(0, vu a0), (1, vu a1)] _ from ?_)
  refine sq (rg (wY (ya (v := .bool false) z) z (nl (th ?_))))
  refine sq (rg ?_)
  refine wY (ym z) z (WL.call (vals := [vu a0]) kok77 z z (c_num_of) ?_)
  rintro I J ⟨rfl, o⟩
  obtain ⟨G, C, D, j⟩ := adoptE (Lg.O0 (fun _ => False)) (fun k => 1) o
  refine wY (ym z) z (WL.call (vals := [vu a1]) kok77 z z (c_num_of) ?_)
  rintro K r ⟨rfl, t⟩
  obtain ⟨H, E, F, m⟩ := adoptE G (fun k => 1) t
  refine wY (Y.fless z z) z ?_
  refine wY (ya z) z (nl (th (rt ?_)))
  have hs : Stp [] (Lg.O0 (fun _ => False)) w H r := (tr_ (su_ j z) (su_ m z))
  exact At.res (.inl z) z (.tmp z .nil) ⟨z, se_ hs z z⟩
end Go.Lg
