/- The walks of RelabelChecks and of what it calls, printed by gen.py. -/
import Derived.Test.YtihlealbhlgikaaDoorRcLgPart0
import Derived.Test.YtihlealbhlgikaaDoorRcLgPart1
import Derived.Test.YtihlealbhlgikaaDoorProg
set_option linter.unusedVariables false
namespace Go.Lg
open Go Go.Proofs
set_option maxRecDepth 100000
set_option maxHeartbeats 4000000
abbrev cp (p : api_Point) (a b c : Value) : List Value := [vs p.Name, a, vi p.Kind, vi p.Temp, .bool p.Mono, vi p.Start, vi p.Time, vi p.Int_, vu p.Re, vu p.Im, vi p.Hist.Scale, vu p.Hist.Zero, vi p.Hist.Pos.Offset, b, vi p.Hist.Neg.Offset, c, vi p.Flags]
abbrev hl (h : api_Hist) (a b : Value) : List Value := [vi h.Scale, vu h.Zero, vi h.Pos.Offset, a, vi h.Neg.Offset, b]
abbrev hzr : List Value := [vi 0, vu 0, vi 0, sn, vi 0, sn]
theorem fmix : Tryd.prog.follows .mixedOrders = true := by kernel_rfl
theorem ty3 : TyOk Tryd.prog 3 (.int .i64) 1 8 (.int .i64 0) := tyOk Tryd.underlying3 (by kernel_rfl)
theorem ty4 : TyOk Tryd.prog 4 .bool 1 1 (.bool false) := tyOk Tryd.underlying4 (by kernel_rfl)
theorem ty5 : TyOk Tryd.prog 5 (.int .u8) 1 1 (.int .u8 0) := tyOk Tryd.underlying5 (by kernel_rfl)
theorem ty9 : TyOk Tryd.prog 9 .string 1 16 (.string ⟨#[]⟩) := tyOk Tryd.underlying9 (by kernel_rfl)
theorem ty22 : TyOk Tryd.prog 22 (.slice 28) 1 24 (.slice none 0 0) := tyOk Tryd.underlying22 (by kernel_rfl)
theorem ty25 : TyOk Tryd.prog 25 (.int .i64) 1 8 (.int .i64 0) := tyOk Tryd.underlying25 (by kernel_rfl)
theorem ty28 : TyOk Tryd.prog 28 (.struct #[(Field.mk "Kind" 3 0 false "" "" 0), (Field.mk "Key" 9 1 false "" "" 8), (Field.mk "Glob" 9 2 false "" "" 24), (Field.mk "To" 9 3 false "" "" 40), (Field.mk "Val" 9 4 false "" "" 56)]) 5 72 (.agg #[(.int .i64 0), (.string ⟨#[]⟩), (.string ⟨#[]⟩), (.string ⟨#[]⟩), (.string ⟨#[]⟩)]) := tyOk Tryd.underlying28 (by kernel_rfl)
theorem ty29 : TyOk Tryd.prog 29 (.pointer 71) 1 8 (.pointer none) := tyOk Tryd.underlying29 (by kernel_rfl)
theorem ty33 : TyOk Tryd.prog 33 (.slice 59) 1 24 (.slice none 0 0) := tyOk Tryd.underlying33 (by kernel_rfl)
theorem ty34 : TyOk Tryd.prog 34 (.int .u64) 1 8 (.int .u64 0) := tyOk Tryd.underlying34 (by kernel_rfl)
theorem ty35 : TyOk Tryd.prog 35 (.slice 34) 1 24 (.slice none 0 0) := tyOk Tryd.underlying35 (by kernel_rfl)
theorem ty37 : TyOk Tryd.prog 37 (.struct #[(Field.mk "Offset" 3 0 false "" "" 0), (Field.mk "Counts" 35 1 false "" "" 8)]) 2 32 (.agg #[(.int .i64 0), (.slice none 0 0)]) := tyOk Tryd.underlying37 (by kernel_rfl)
theorem ty39 : TyOk Tryd.prog 39 (.struct #[(Field.mk "Scale" 3 0 false "" "" 0), (Field.mk "Zero" 34 1 false "" "" 8), (Field.mk "Pos" 37 2 false "" "" 16), (Field.mk "Neg" 37 4 false "" "" 48)]) 6 80 (.agg #[(.int .i64 0), (.int .u64 0), (.int .i64 0), (.slice none 0 0), (.int .i64 0), (.slice none 0 0)]) := tyOk Tryd.underlying39 (by kernel_rfl)
theorem ty41 : TyOk Tryd.prog 41 (.struct #[(Field.mk "Name" 9 0 false "" "" 0), (Field.mk "Attrs" 33 1 false "" "" 16), (Field.mk "Kind" 3 2 false "" "" 40), (Field.mk "Temp" 3 3 false "" "" 48), (Field.mk "Mono" 4 4 false "" "" 56), (Field.mk "Start" 3 5 false "" "" 64), (Field.mk "Time" 3 6 false "" "" 72), (Field.mk "Int" 3 7 false "" "" 80), (Field.mk "Re" 34 8 false "" "" 88), (Field.mk "Im" 34 9 false "" "" 96), (Field.mk "Hist" 39 10 false "" "" 104), (Field.mk "Flags" 3 16 false "" "" 184)]) 17 192 (.agg #[(.string ⟨#[]⟩), (.slice none 0 0), (.int .i64 0), (.int .i64 0), (.bool false), (.int .i64 0), (.int .i64 0), (.int .i64 0), (.int .u64 0), (.int .u64 0), (.int .i64 0), (.int .u64 0), (.int .i64 0), (.slice none 0 0), (.int .i64 0), (.slice none 0 0), (.int .i64 0)]) := tyOk Tryd.underlying41 (by kernel_rfl)
theorem ty59 : TyOk Tryd.prog 59 (.struct #[(Field.mk "Key" 9 0 false "" "" 0), (Field.mk "Val" 9 1 false "" "" 16)]) 2 32 (.agg #[(.string ⟨#[]⟩), (.string ⟨#[]⟩)]) := tyOk Tryd.underlying59 (by kernel_rfl)
theorem ty61 : TyOk Tryd.prog 61 (.slice 91) 1 24 (.slice none 0 0) := tyOk Tryd.underlying61 (by kernel_rfl)
theorem ty63 : TyOk Tryd.prog 63 (.struct #[(Field.mk "L" 61 0 false "" "" 0), (Field.mk "At" 3 1 false "" "" 24), (Field.mk "E" 25 2 false "" "" 32)]) 3 40 (.agg #[(.slice none 0 0), (.int .i64 0), (.int .i64 0)]) := tyOk Tryd.underlying63 (by kernel_rfl)
theorem ty66 : TyOk Tryd.prog 66 (.pointer 96) 1 8 (.pointer none) := tyOk Tryd.underlying66 (by kernel_rfl)
theorem ty69 : TyOk Tryd.prog 69 (.slice 73) 1 24 (.slice none 0 0) := tyOk Tryd.underlying69 (by kernel_rfl)
theorem ty73 : TyOk Tryd.prog 73 (.struct #[(Field.mk "Rule" 28 0 true "" "" 0), (Field.mk "g" 66 5 false "" "limnograph/relabel" 72)]) 6 80 (.agg #[(.int .i64 0), (.string ⟨#[]⟩), (.string ⟨#[]⟩), (.string ⟨#[]⟩), (.string ⟨#[]⟩), (.pointer none)]) := tyOk Tryd.underlying73 (by kernel_rfl)
theorem ty89 : TyOk Tryd.prog 89 (.slice 4) 1 24 (.slice none 0 0) := tyOk Tryd.underlying89 (by kernel_rfl)
theorem ty91 : TyOk Tryd.prog 91 (.struct #[(Field.mk "Many" 4 0 false "" "" 0), (Field.mk "Plain" 4 1 false "" "" 1), (Field.mk "In" 89 2 false "" "" 8), (Field.mk "C" 5 3 false "" "" 32)]) 4 40 (.agg #[(.bool false), (.bool false), (.slice none 0 0), (.int .u8 0)]) := tyOk Tryd.underlying91 (by kernel_rfl)
theorem ty94 : TyOk Tryd.prog 94 (.slice 100) 1 24 (.slice none 0 0) := tyOk Tryd.underlying94 (by kernel_rfl)
theorem ty98 : TyOk Tryd.prog 98 (.array 4 34) 4 32 (.agg #[(.int .u64 0), (.int .u64 0), (.int .u64 0), (.int .u64 0)]) := tyOk Tryd.underlying98 (by kernel_rfl)
theorem ty100 : TyOk Tryd.prog 100 (.struct #[(Field.mk "kind" 3 0 false "" "limnograph/glob" 0), (Field.mk "set" 98 1 false "" "limnograph/glob" 8), (Field.mk "plain" 4 5 false "" "limnograph/glob" 40), (Field.mk "c" 5 6 false "" "limnograph/glob" 41)]) 7 48 (.agg #[(.int .i64 0), (.int .u64 0), (.int .u64 0), (.int .u64 0), (.int .u64 0), (.bool false), (.int .u8 0)]) := tyOk Tryd.underlying100 (by kernel_rfl)
theorem ty102 : TyOk Tryd.prog 102 (.struct #[(Field.mk "at" 3 0 false "" "limnograph/glob" 0), (Field.mk "e" 25 1 false "" "limnograph/glob" 8)]) 2 16 (.agg #[(.int .i64 0), (.int .i64 0)]) := tyOk Tryd.underlying102 (by kernel_rfl)
theorem ty117 : TyOk Tryd.prog 117 (.struct #[(Field.mk "C" 5 0 false "" "" 0), (Field.mk "Next" 3 1 false "" "" 8)]) 2 16 (.agg #[(.int .u8 0), (.int .i64 0)]) := tyOk Tryd.underlying117 (by kernel_rfl)
theorem ty125 : TyOk Tryd.prog 125 (.array 2 37) 4 64 (.agg #[(.int .i64 0), (.slice none 0 0), (.int .i64 0), (.slice none 0 0)]) := tyOk Tryd.underlying125 (by kernel_rfl)
theorem ty137 : TyOk Tryd.prog 137 (.slice 5) 1 24 (.slice none 0 0) := tyOk Tryd.underlying137 (by kernel_rfl)
theorem ty143 : TyOk Tryd.prog 143 (.int .u64) 1 8 (.int .u64 0) := tyOk Tryd.underlying143 (by kernel_rfl)
theorem fo28_0 : FieldOk Tryd.prog 28 0 0 := fieldOk Tryd.underlying28 rfl rfl (by kernel_rfl)
theorem fo28_1 : FieldOk Tryd.prog 28 1 1 := fieldOk Tryd.underlying28 rfl rfl (by kernel_rfl)
theorem fo28_2 : FieldOk Tryd.prog 28 2 2 := fieldOk Tryd.underlying28 rfl rfl (by kernel_rfl)
theorem fo28_3 : FieldOk Tryd.prog 28 3 3 := fieldOk Tryd.underlying28 rfl rfl (by kernel_rfl)
theorem fo28_4 : FieldOk Tryd.prog 28 4 4 := fieldOk Tryd.underlying28 rfl rfl (by kernel_rfl)
theorem fo37_0 : FieldOk Tryd.prog 37 0 0 := fieldOk Tryd.underlying37 rfl rfl (by kernel_rfl)
theorem fo37_1 : FieldOk Tryd.prog 37 1 1 := fieldOk Tryd.underlying37 rfl rfl (by kernel_rfl)
theorem fo39_0 : FieldOk Tryd.prog 39 0 0 := fieldOk Tryd.underlying39 rfl rfl (by kernel_rfl)
theorem fo39_1 : FieldOk Tryd.prog 39 1 1 := fieldOk Tryd.underlying39 rfl rfl (by kernel_rfl)
theorem fo39_2 : FieldOk Tryd.prog 39 2 2 := fieldOk Tryd.underlying39 rfl rfl (by kernel_rfl)
theorem fo39_3 : FieldOk Tryd.prog 39 3 4 := fieldOk Tryd.underlying39 rfl rfl (by kernel_rfl)
theorem fo41_0 : FieldOk Tryd.prog 41 0 0 := fieldOk Tryd.underlying41 rfl rfl (by kernel_rfl)
theorem fo41_1 : FieldOk Tryd.prog 41 1 1 := fieldOk Tryd.underlying41 rfl rfl (by kernel_rfl)
theorem fo41_2 : FieldOk Tryd.prog 41 2 2 := fieldOk Tryd.underlying41 rfl rfl (by kernel_rfl)
theorem fo41_3 : FieldOk Tryd.prog 41 3 3 := fieldOk Tryd.underlying41 rfl rfl (by kernel_rfl)
theorem fo41_4 : FieldOk Tryd.prog 41 4 4 := fieldOk Tryd.underlying41 rfl rfl (by kernel_rfl)
theorem fo41_5 : FieldOk Tryd.prog 41 5 5 := fieldOk Tryd.underlying41 rfl rfl (by kernel_rfl)
theorem fo41_6 : FieldOk Tryd.prog 41 6 6 := fieldOk Tryd.underlying41 rfl rfl (by kernel_rfl)
theorem fo41_7 : FieldOk Tryd.prog 41 7 7 := fieldOk Tryd.underlying41 rfl rfl (by kernel_rfl)
theorem fo41_8 : FieldOk Tryd.prog 41 8 8 := fieldOk Tryd.underlying41 rfl rfl (by kernel_rfl)
theorem fo41_9 : FieldOk Tryd.prog 41 9 9 := fieldOk Tryd.underlying41 rfl rfl (by kernel_rfl)
theorem fo41_10 : FieldOk Tryd.prog 41 10 10 := fieldOk Tryd.underlying41 rfl rfl (by kernel_rfl)
theorem fo41_11 : FieldOk Tryd.prog 41 11 16 := fieldOk Tryd.underlying41 rfl rfl (by kernel_rfl)
theorem fo59_0 : FieldOk Tryd.prog 59 0 0 := fieldOk Tryd.underlying59 rfl rfl (by kernel_rfl)
theorem fo59_1 : FieldOk Tryd.prog 59 1 1 := fieldOk Tryd.underlying59 rfl rfl (by kernel_rfl)
theorem fo63_0 : FieldOk Tryd.prog 63 0 0 := fieldOk Tryd.underlying63 rfl rfl (by kernel_rfl)
theorem fo63_1 : FieldOk Tryd.prog 63 1 1 := fieldOk Tryd.underlying63 rfl rfl (by kernel_rfl)
theorem fo63_2 : FieldOk Tryd.prog 63 2 2 := fieldOk Tryd.underlying63 rfl rfl (by kernel_rfl)
theorem fo71_0 : FieldOk Tryd.prog 71 0 0 := fieldOk Tryd.underlying71 rfl rfl (by kernel_rfl)
theorem fo73_0 : FieldOk Tryd.prog 73 0 0 := fieldOk Tryd.underlying73 rfl rfl (by kernel_rfl)
theorem fo73_1 : FieldOk Tryd.prog 73 1 5 := fieldOk Tryd.underlying73 rfl rfl (by kernel_rfl)
theorem fo96_1 : FieldOk Tryd.prog 96 1 1 := fieldOk Tryd.underlying96 rfl rfl (by kernel_rfl)
theorem fo100_0 : FieldOk Tryd.prog 100 0 0 := fieldOk Tryd.underlying100 rfl rfl (by kernel_rfl)
theorem fo100_1 : FieldOk Tryd.prog 100 1 1 := fieldOk Tryd.underlying100 rfl rfl (by kernel_rfl)
theorem fo102_0 : FieldOk Tryd.prog 102 0 0 := fieldOk Tryd.underlying102 rfl rfl (by kernel_rfl)
theorem fo102_1 : FieldOk Tryd.prog 102 1 1 := fieldOk Tryd.underlying102 rfl rfl (by kernel_rfl)
theorem fo117_0 : FieldOk Tryd.prog 117 0 0 := fieldOk Tryd.underlying117 rfl rfl (by kernel_rfl)
theorem fo117_1 : FieldOk Tryd.prog 117 1 1 := fieldOk Tryd.underlying117 rfl rfl (by kernel_rfl)
theorem agok102 : AgOk Tryd.prog 102 #[(Field.mk "at" 3 0 false "" "limnograph/glob" 0), (Field.mk "e" 25 1 false "" "limnograph/glob" 8)] := ⟨Tryd.underlying102, by kernel_rfl, by kernel_rfl⟩
theorem x64_96 : X64 Tryd.prog 96 := x64 Tryd.func96 (by kernel_rfl) rfl (by kernel_rfl) (by kernel_rfl)
theorem xfrom_95 : XFrom Tryd.prog 95 := xfrom Tryd.func95 (by kernel_rfl) rfl (by kernel_rfl) (by kernel_rfl)
theorem kok7 : CallOk Tryd.prog 7 := callOk Tryd.func7 (by kernel_rfl) rfl
theorem kok8 : CallOk Tryd.prog 8 := callOk Tryd.func8 (by kernel_rfl) rfl
theorem kok9 : CallOk Tryd.prog 9 := callOk Tryd.func9 (by kernel_rfl) rfl
theorem kok10 : CallOk Tryd.prog 10 := callOk Tryd.func10 (by kernel_rfl) rfl
theorem kok11 : CallOk Tryd.prog 11 := callOk Tryd.func11 (by kernel_rfl) rfl
theorem kok12 : CallOk Tryd.prog 12 := callOk Tryd.func12 (by kernel_rfl) rfl
theorem kok14 : CallOk Tryd.prog 14 := callOk Tryd.func14 (by kernel_rfl) rfl
theorem kok20 : CallOk Tryd.prog 20 := callOk Tryd.func20 (by kernel_rfl) rfl
theorem kok21 : CallOk Tryd.prog 21 := callOk Tryd.func21 (by kernel_rfl) rfl
theorem kok23 : CallOk Tryd.prog 23 := callOk Tryd.func23 (by kernel_rfl) rfl
theorem kok24 : CallOk Tryd.prog 24 := callOk Tryd.func24 (by kernel_rfl) rfl
theorem kok25 : CallOk Tryd.prog 25 := callOk Tryd.func25 (by kernel_rfl) rfl
theorem kok26 : CallOk Tryd.prog 26 := callOk Tryd.func26 (by kernel_rfl) rfl
theorem kok27 : CallOk Tryd.prog 27 := callOk Tryd.func27 (by kernel_rfl) rfl
theorem kok28 : CallOk Tryd.prog 28 := callOk Tryd.func28 (by kernel_rfl) rfl
theorem kok31 : CallOk Tryd.prog 31 := callOk Tryd.func31 (by kernel_rfl) rfl
theorem kok32 : CallOk Tryd.prog 32 := callOk Tryd.func32 (by kernel_rfl) rfl
theorem kok33 : CallOk Tryd.prog 33 := callOk Tryd.func33 (by kernel_rfl) rfl
theorem kok43 : CallOk Tryd.prog 43 := callOk Tryd.func43 (by kernel_rfl) rfl
theorem kok44 : CallOk Tryd.prog 44 := callOk Tryd.func44 (by kernel_rfl) rfl
theorem kok45 : CallOk Tryd.prog 45 := callOk Tryd.func45 (by kernel_rfl) rfl
theorem kok46 : CallOk Tryd.prog 46 := callOk Tryd.func46 (by kernel_rfl) rfl
theorem kok47 : CallOk Tryd.prog 47 := callOk Tryd.func47 (by kernel_rfl) rfl
theorem kok48 : CallOk Tryd.prog 48 := callOk Tryd.func48 (by kernel_rfl) rfl
theorem kok49 : CallOk Tryd.prog 49 := callOk Tryd.func49 (by kernel_rfl) rfl
theorem kok50 : CallOk Tryd.prog 50 := callOk Tryd.func50 (by kernel_rfl) rfl
theorem kok51 : CallOk Tryd.prog 51 := callOk Tryd.func51 (by kernel_rfl) rfl
theorem kok52 : CallOk Tryd.prog 52 := callOk Tryd.func52 (by kernel_rfl) rfl
theorem kok53 : CallOk Tryd.prog 53 := callOk Tryd.func53 (by kernel_rfl) rfl
theorem kok54 : CallOk Tryd.prog 54 := callOk Tryd.func54 (by kernel_rfl) rfl
theorem kok55 : CallOk Tryd.prog 55 := callOk Tryd.func55 (by kernel_rfl) rfl
theorem kok56 : CallOk Tryd.prog 56 := callOk Tryd.func56 (by kernel_rfl) rfl
theorem kok57 : CallOk Tryd.prog 57 := callOk Tryd.func57 (by kernel_rfl) rfl
theorem kok58 : CallOk Tryd.prog 58 := callOk Tryd.func58 (by kernel_rfl) rfl
theorem kok59 : CallOk Tryd.prog 59 := callOk Tryd.func59 (by kernel_rfl) rfl
theorem kok60 : CallOk Tryd.prog 60 := callOk Tryd.func60 (by kernel_rfl) rfl
theorem kok66 : CallOk Tryd.prog 66 := callOk Tryd.func66 (by kernel_rfl) rfl
theorem kok67 : CallOk Tryd.prog 67 := callOk Tryd.func67 (by kernel_rfl) rfl
theorem kok68 : CallOk Tryd.prog 68 := callOk Tryd.func68 (by kernel_rfl) rfl
theorem kok69 : CallOk Tryd.prog 69 := callOk Tryd.func69 (by kernel_rfl) rfl
theorem kok70 : CallOk Tryd.prog 70 := callOk Tryd.func70 (by kernel_rfl) rfl
theorem kok71 : CallOk Tryd.prog 71 := callOk Tryd.func71 (by kernel_rfl) rfl
theorem kok72 : CallOk Tryd.prog 72 := callOk Tryd.func72 (by kernel_rfl) rfl
theorem kok73 : CallOk Tryd.prog 73 := callOk Tryd.func73 (by kernel_rfl) rfl
theorem kok74 : CallOk Tryd.prog 74 := callOk Tryd.func74 (by kernel_rfl) rfl
theorem kok75 : CallOk Tryd.prog 75 := callOk Tryd.func75 (by kernel_rfl) rfl
theorem kok76 : CallOk Tryd.prog 76 := callOk Tryd.func76 (by kernel_rfl) rfl
theorem kok77 : CallOk Tryd.prog 77 := callOk Tryd.func77 (by kernel_rfl) rfl
theorem kok78 : CallOk Tryd.prog 78 := callOk Tryd.func78 (by kernel_rfl) rfl
theorem kok79 : CallOk Tryd.prog 79 := callOk Tryd.func79 (by kernel_rfl) rfl
theorem kok80 : CallOk Tryd.prog 80 := callOk Tryd.func80 (by kernel_rfl) rfl
theorem kok81 : CallOk Tryd.prog 81 := callOk Tryd.func81 (by kernel_rfl) rfl
theorem kok82 : CallOk Tryd.prog 82 := callOk Tryd.func82 (by kernel_rfl) rfl
theorem kok83 : CallOk Tryd.prog 83 := callOk Tryd.func83 (by kernel_rfl) rfl
theorem kok84 : CallOk Tryd.prog 84 := callOk Tryd.func84 (by kernel_rfl) rfl
theorem kok85 : CallOk Tryd.prog 85 := callOk Tryd.func85 (by kernel_rfl) rfl
theorem kok86 : CallOk Tryd.prog 86 := callOk Tryd.func86 (by kernel_rfl) rfl
theorem kok87 : CallOk Tryd.prog 87 := callOk Tryd.func87 (by kernel_rfl) rfl
theorem kok88 : CallOk Tryd.prog 88 := callOk Tryd.func88 (by kernel_rfl) rfl
theorem kok90 : CallOk Tryd.prog 90 := callOk Tryd.func90 (by kernel_rfl) rfl
theorem kok91 : CallOk Tryd.prog 91 := callOk Tryd.func91 (by kernel_rfl) rfl
theorem kok92 : CallOk Tryd.prog 92 := callOk Tryd.func92 (by kernel_rfl) rfl
theorem kok93 : CallOk Tryd.prog 93 := callOk Tryd.func93 (by kernel_rfl) rfl
theorem kok94 : CallOk Tryd.prog 94 := callOk Tryd.func94 (by kernel_rfl) rfl
theorem kok97 : CallOk Tryd.prog 97 := callOk Tryd.func97 (by kernel_rfl) rfl
theorem kok98 : CallOk Tryd.prog 98 := callOk Tryd.func98 (by kernel_rfl) rfl
theorem kok99 : CallOk Tryd.prog 99 := callOk Tryd.func99 (by kernel_rfl) rfl
theorem kok100 : CallOk Tryd.prog 100 := callOk Tryd.func100 (by kernel_rfl) rfl
theorem c_glob_closed {a0 : List UInt8} {a1 : Int} {w : World} {r0 : Bool} (h : glob_closed a0 a1 = some r0) : Rets Tryd.prog 91 [vs a0, vi a1] w (fun v w' => v = vB r0 ∧ Ext w w') := by
 unfold glob_closed at h
 refine Rets.enter Tryd.func91 z z ?_
 refine (show WC _ _ _ _ [(0, vs a0), (1, vi a1)] _ from ?_)
 refine sq (rg (wY (ya z) z (nl (th (sq ?_)))))
 obtain ⟨ac, h, K⟩ := bnd h
 refine WC.join (σ := Int) (fun x w' => x = ac ∧ w = w') (fun x => [(0, vs a0), (1, vi x)]) ?_ ?_
 ·refine WC.block ?_
  obtain ⟨I, h, M⟩ := flow1 h
  obtain ⟨J, h⟩ := loop_some h
  refine WC.joinB 0 (σ := Int) (fun x w' => I = .go x ∧ w = w') (fun x => [(0, vs a0), (1, vi x)]) ?_ ?_
  ·refine WC.loop (σ := Int) (fun x k w' => loopN k (glob_closed_lp1 a0) x = some I ∧ w = w') (fun x => [(0, vs a0), (1, vi x)]) a1 J (.cons z (.cons z .nil)) ⟨h, z⟩ ?_
   rintro j J _ ⟨h, rfl⟩
   obtain ⟨ad, ak, rfl, h, t⟩ := rnd1 h
   unfold glob_closed_lp1 at h
   try dsimp only at h
   refine (show WC _ _ _ _ [(0, vs a0), (1, vi j)] _ from ?_)
   refine sq (sq (rg (wY (ym z) z (wY (ym z) z (wY (Y.len_s ty9 z) z (wY (Y.lss_i z z) z (wY (ym z) z ?_)))))))
   obtain ⟨ae, h, P⟩ := bnd h
   refine WL.cut 5 (σ := Bool) (fun x w' => x = ae ∧ w = w') (fun x => [(0, vs a0), (1, vi j), (14, vB x)]) ?_ ?_
   ·rcases cnd h with ⟨m, h⟩ | ⟨m, h⟩
    ·refine WL.ren 9 z (congrArg vB m) (ug z z (wY (ym z) z (ug z z (wY (ym z) z (ug z z ?_)))))
     obtain ⟨af, Q, h⟩ := bnd h
     refine wY (Y.index_s ty9 z z Q) z (ug z z (wY (Y.neq_b (b := 93) z z) z (wY (Y.pick (b := true) z z) z ?_)))
     exact nl (At.join (σ := Bool) (!decide (af = 93)) ⟨some1 h, z⟩ (.cons z (.cons z (.cons z .nil))))
    ·refine WL.ren 9 z (congrArg vB m) (WL.gS z z z z (WL.gS z z z z (WL.gS z z z z (WL.gS z z z z (wY (Y.pick (b := false) z z) z ?_)))))
     exact nl (At.join (σ := Bool) false ⟨some1 h, z⟩ (.cons z (.cons z (.cons z .nil))))
   ·rintro ah _ ⟨rfl, rfl⟩
    replace h := P
    try dsimp only at h
    refine (show WL _ _ _ _ _ [(0, vs a0), (1, vi j), (14, vB ah)] _ from ?_)
    refine nl (th ?_)
    rcases cnd h with ⟨o, h⟩ | ⟨o, h⟩
    ·refine WC.condT' z o (sk (th ?_))
     obtain ⟨ai, h, S⟩ := bnd h
     refine WC.join (σ := Int) (fun x w' => x = ai ∧ w = w') (fun x => [(0, vs a0), (1, vi x)]) ?_ ?_
     ·refine WC.block (sq ?_)
      obtain ⟨aj, h, T⟩ := bnd h
      refine WC.join (σ := Int) (fun x w' => x = aj ∧ w = w') (fun x => [(0, vs a0), (1, vi x)]) ?_ ?_
      ·refine sq (rg (wY (ym z) z (wY (ym z) z ?_)))
       obtain ⟨al, U, h⟩ := bnd h
       refine wY (Y.index_s ty9 z z U) z (wY (Y.eql_b (b := 92) z z) z (nl (th ?_)))
       rcases cnd h with ⟨r, h⟩ | ⟨r, h⟩
       ·refine WC.condT' z r (rg (wY (ym z) z (wY (Y.add_i z z) z ?_)))
        obtain ⟨V, G, h⟩ := lt1 h
        refine WL.yE (ya z) (congrArg vi G.symm) z (nl ?_)
        exact At.join (σ := Int) V ⟨some1 h, z⟩ (.cons z (.cons z .nil))
       ·refine WC.condF' z r (sk ?_)
        exact At.join (σ := Int) j ⟨some1 h, z⟩ (.cons z (.cons z .nil))
      ·rintro W _ ⟨rfl, rfl⟩
       replace h := T
       try dsimp only at h
       refine (show At _ _ _ [(0, vs a0), (1, vi W)] _ from ?_)
       refine th (rg (wY (ym z) z (wY (Y.add_i z z) z ?_)))
       obtain ⟨X, H, h⟩ := lt1 h
       refine WL.yE (ya z) (congrArg vi H.symm) z (nl (At.inBlock ?_))
       exact At.join (σ := Int) X ⟨some1 h, z⟩ (.cons z (.cons z .nil))
     ·rintro D _ ⟨rfl, rfl⟩
      replace h := S
      try dsimp only at h
      refine (show At _ _ _ [(0, vs a0), (1, vi D)] _ from ?_)
      exact At.round D ad (Nat.lt_succ_self _) ⟨next1 h t, z⟩ (.cons z (.cons z .nil))
    ·refine WC.condF' z o (WC.exit (At.thenX (At.loopX ?_)))
     exact At.hitB (σ := Int) j ⟨brk1 h t, z⟩ (.cons z (.cons z .nil))
  ·rintro F _ ⟨rfl, rfl⟩
   replace h := flowK_go M
   try dsimp only at h
   refine (show At _ _ _ [(0, vs a0), (1, vi F)] _ from ?_)
   refine At.inBlockHit ?_
   exact At.join (σ := Int) F ⟨some1 h, z⟩ (.cons z (.cons z .nil))
 ·rintro Z _ ⟨rfl, rfl⟩
  replace h := K
  try dsimp only at h
  refine (show At _ _ _ [(0, vs a0), (1, vi Z)] _ from ?_)
  refine th (sq (rg (wY (ym z) z (wY (ym z) z (wY (Y.len_s ty9 z) z (wY (Y.lss_i z z) z ?_))))))
  obtain ⟨am, aa, h⟩ := lt1 h
  refine WL.yE (ya z) (congrArg vB aa.symm) z (nl (th (rt ?_)))
  obtain rfl := some1 h
  have ab : Stp [] (Lg.O0 (fun _ => False)) w (Lg.O0 (fun _ => False)) w := (sr_ _ _ _)
  exact At.res (.inl z) z (.tmp z .nil) ⟨z, (se_ ab z z)⟩
theorem c_glob_member {a0 : List UInt8} {a1 : Int} {w : World} {r0 : UInt8} {r1 : Int} (h : glob_member a0 a1 = some (r0, r1)) : Rets Tryd.prog 92 [vs a0, vi a1] w (fun v w' => v = tp [vb r0, vi r1] ∧ Ext w w') := by
 unfold glob_member at h
 refine Rets.enter Tryd.func92 z z ?_
 refine (show WC _ _ _ _ [(0, vs a0), (1, vi a1)] _ from ?_)
 refine sq (rg (wY (ya (v := vb 0) z) z (wY (ya z) z (nl (th (sq (sq (rg (wY (ym z) z ?_)))))))))
 refine wY (ym z) z ?_
 obtain ⟨F, m, h⟩ := bnd h
 refine wY (Y.index_s ty9 z z m) z (wY (Y.eql_b (b := 92) z z) z (nl (th ?_)))
 rcases cnd h with ⟨j, h⟩ | ⟨j, h⟩
 ·refine WC.condT' z j (sq (rg (wY (ym z) z (wY (ym z) z (wY (Y.add_i z z) z ?_)))))
  obtain ⟨G, o, h⟩ := bnd h
  refine wY (Y.index_s ty9 z z o) z (wY (ya z) z (wY (ya z) z (nl (th (rt (At.thenR ?_))))))
  obtain ⟨rfl, rfl⟩ := tup2 h
  have r : Stp [] (Lg.O0 (fun _ => False)) w (Lg.O0 (fun _ => False)) w := (sr_ _ _ _)
  exact At.res (.inl z) z (.tmp z (.tmp z .nil)) ⟨z, (se_ r z z)⟩
 ·refine WC.condF' z j (sk (th (sq (rg (wY (ym z) z (wY (ym z) z ?_))))))
  obtain ⟨H, t, h⟩ := bnd h
  refine wY (Y.index_s ty9 z z t) z (wY (ya z) z (wY (ya z) z (nl (th (rt ?_)))))
  obtain ⟨rfl, rfl⟩ := tup2 h
  have D : Stp [] (Lg.O0 (fun _ => False)) w (Lg.O0 (fun _ => False)) w := (sr_ _ _ _)
  exact At.res (.inl z) z (.tmp z (.tmp z .nil)) ⟨z, (se_ D z z)⟩
theorem c_glob_class {A : Nat → Prop} {a0 : List UInt8} {a1 : Int} {w : World} (hG0 : CellsAt w 0 0 [vi 0, vi 0]) (hGA0 : A 0) {r0 : glob_piece} {r1 : Int} {r2 : glob_fault} (h : glob_class a0 a1 = some (r0, r1, r2)) : Rets Tryd.prog 70 [vs a0, vi a1] w (fun v w' => v = Value.tuple (List.toArray [ag [vi r0.kind, vu r0.set.a0, vu r0.set.a1, vu r0.set.a2, vu r0.set.a3, vB r0.plain, vb r0.c], vi r1, ag [vi r2.at_, vi r2.e]]) ∧ Ext w w') := by
 unfold glob_class at h
 refine Rets.enter Tryd.func70 z z ?_
 have eg : CAt [0, 1] (Lg.O0 A) w 0 0 [vi 0, vi 0] := CAt.glob hG0 (if_pos hGA0)
 refine (show WC _ _ _ _ [(0, vs a0), (1, vi a1)] _ from ?_)
 refine sq (rg (WL.alloc (O := (Lg.O0 A)) 11 [vi 0, vu 0, vu 0, vu 0, vu 0, vB false, vb 0] ty100 z z ?_))
 intro r fA gj ad aq
 refine wY (ya z) z (WL.alloc (O := fA) 12 [vi 0, vi 0] ty102 z z ?_)
 intro t fB gk G ar
 refine nl (th (sq (rg (WL.alloc (O := fB) 13 [vi 0, vu 0, vu 0, vu 0, vu 0, vB false, vb 0] ty100 z z ?_))))
 intro j fC b5 o b6
 refine nl (th (sq (rg (wY (ym z) z (wY (Y.add_i z z) z ?_)))))
 obtain ⟨bt, cq, h⟩ := lt1 h
 refine WL.yE (ya z) (congrArg vi cq.symm) z (nl (th (sq (rg (wY (ym z) z (wY (ym z) z (wY (Y.len_s ty9 z) z (wY (Y.lss_i z z) z (wY (ym z) z ?_)))))))))
 obtain ⟨fD, h, eh⟩ := bnd h
 refine WL.cut 5 (σ := Bool) (fun x w' => x = fD ∧ b5 = w') (fun x => [(0, vs a0), (1, vi a1), (4, pt r 0), (6, pt t 0), (7, pt j 0), (8, vi bt), (29, vB x)]) ?_ ?_
 ·rcases cnd h with ⟨bu, h⟩ | ⟨bu, h⟩
  ·refine WL.ren 24 z (congrArg vB bu) (ug z z (wY (ym z) z (ug z z (wY (ym z) z (ug z z ?_)))))
   obtain ⟨fF, ei, h⟩ := bnd h
   refine wY (Y.index_s ty9 z z ei) z (ug z z (wY (Y.eql_b (b := 33) z z) z (wY (Y.pick (b := true) z z) z ?_)))
   exact nl (At.join (σ := Bool) (decide (fF = 33)) ⟨some1 h, z⟩ (.cons z (.cons z (.cons z (.cons z (.cons z (.cons z (.cons z .nil))))))))
  ·refine WL.ren 24 z (congrArg vB bu) (WL.gS z z z z (WL.gS z z z z (WL.gS z z z z (WL.gS z z z z (wY (Y.pick (b := false) z z) z ?_)))))
   exact nl (At.join (σ := Bool) false ⟨some1 h, z⟩ (.cons z (.cons z (.cons z (.cons z (.cons z (.cons z (.cons z .nil))))))))
 ·rintro K _ ⟨rfl, rfl⟩
  replace h := eh
  try dsimp only at h
  refine (show WL _ _ _ _ _ [(0, vs a0), (1, vi a1), (4, pt r 0), (6, pt t 0), (7, pt j 0), (8, vi bt), (29, vB K)] _ from ?_)
  refine wY (ya z) z (nl (th (sq ?_)))
  obtain ⟨fG, h, ej⟩ := bnd h
  refine WC.join (σ := Int) (fun x w' => x = fG ∧ b5 = w') (fun x => [(0, vs a0), (1, vi a1), (4, pt r 0), (6, pt t 0), (7, pt j 0), (8, vi x), (9, vB K)]) ?_ ?_
  ·refine sq (rg (wY (ym z) z (nl (th ?_))))
   rcases cnd h with ⟨bw, h⟩ | ⟨bw, h⟩
   ·refine WC.condT' z bw (rg (wY (ym z) z (wY (Y.add_i z z) z ?_)))
    obtain ⟨ek, cr, h⟩ := lt1 h
    refine WL.yE (ya z) (congrArg vi cr.symm) z (nl ?_)
    exact At.join (σ := Int) ek ⟨some1 h, z⟩ (.cons z (.cons z (.cons z (.cons z (.cons z (.cons z (.cons z .nil)))))))
   ·refine WC.condF' z bw (sk ?_)
    exact At.join (σ := Int) bt ⟨some1 h, z⟩ (.cons z (.cons z (.cons z (.cons z (.cons z (.cons z (.cons z .nil)))))))
  ·rintro F _ ⟨rfl, rfl⟩
   replace h := ej
   try dsimp only at h
   refine (show At _ _ _ [(0, vs a0), (1, vi a1), (4, pt r 0), (6, pt t 0), (7, pt j 0), (8, vi F), (9, vB K)] _ from ?_)
   refine th (sq (rg (wY (ym z) z (wY (ya z) z (nl (th (sq (sq (rg ?_)))))))))
   refine wY (ym z) z (wY (ym z) z ?_)
   obtain ⟨gI, em, h⟩ := bnd h
   refine WL.call (vals := [vs a0, vi F]) kok91 z z (c_glob_closed em) ?_
   rintro gl bx ⟨rfl, en⟩
   obtain ⟨bc, fH, fI, m⟩ := adoptE fC (fun k => 1) en
   refine wY (Y.not z) z (nl (th ?_))
   rcases cnd h with ⟨bz, h⟩ | ⟨bz, h⟩
   ·refine WC.condT' z bz (sq (rg ?_))
    have eo := b6.st m z
    refine wY (yL ty100 z z (eo.cells 0 [vi 0, vu 0, vu 0, vu 0, vu 0, vB false, vb 0] z) z) z (wY (ym z) z (wY (yb (vals := [(0, vi a1), (1, vi 2)]) (cells := [vi a1, vi 2]) (fe_ z) (by kernel_rfl)) z ?_))
    have es := ((aq.st G z).st o z).st m z
    refine WL.store (v := ag [vi 0, vu 0, vu 0, vu 0, vu 0, vB false, vb 0]) (cells' := [vi 0, vu 0, vu 0, vu 0, vu 0, vB false, vb 0]) ty100 z z es z (le_ z) z z ?_
    intro gm bE et
    refine wY (ya z) z ?_
    have ex := ((ar.st o z).st m z).st bE z
    refine WL.store (v := ag [vi a1, vi 2]) (cells' := [vi a1, vi 2]) ty102 z z ex z (le_ z) z z ?_
    intro ey bF ez
    refine nl (th (rt (At.thenR ?_)))
    obtain ⟨rfl, rfl, rfl⟩ := tup3 h
    have eA : Stp [11, 12] (Lg.O0 A) w bc ey := (tr_ (su_ ad z) (tr_ (su_ G z) (tr_ (su_ o z) (tr_ (su_ m z) (tr_ (su_ bE z) (su_ bF z))))))
    have eB := et.st bF z
    exact At.res (.inl z) z (.cell z (eB.runAg 0 [vi 0, vu 0, vu 0, vu 0, vu 0, vB false, vb 0] ty100 z z z) (.tmp z (.cell z (ez.runAg 0 [vi a1, vi 2] ty102 z z z) .nil))) ⟨z, (se_ eA z z)⟩
   ·refine WC.condF' z bz (sk (th (sq ?_)))
    obtain ⟨fJ, h, bA⟩ := flow1 h
    refine WC.join (σ := (UInt64 × UInt64 × UInt64 × UInt64 × Int × Own)) (fun x w' => fJ = .go (x.1, x.2.1, x.2.2.1, x.2.2.2.1, x.2.2.2.2.1) ∧ Stp [13] bc bx x.2.2.2.2.2 w' ∧ Blk 13 x.2.2.2.2.2 w' j 100 [vi 0, vu x.1, vu x.2.1, vu x.2.2.1, vu x.2.2.2.1, vB false, vb 0]) (fun x => [(1, vi a1), (4, pt r 0), (6, pt t 0), (7, pt j 0), (8, vi x.2.2.2.2.1), (9, vB K), (10, vi F)]) ?_ ?_
    ·refine WC.block ?_
     obtain ⟨ee, h, bB⟩ := flow1 h
     obtain ⟨ef, h⟩ := loop_some h
     refine WC.joinB 0 (σ := (UInt64 × UInt64 × UInt64 × UInt64 × Int × Own)) (fun x w' => ee = .go (x.1, x.2.1, x.2.2.1, x.2.2.2.1, x.2.2.2.2.1) ∧ Stp [13] bc bx x.2.2.2.2.2 w' ∧ Blk 13 x.2.2.2.2.2 w' j 100 [vi 0, vu x.1, vu x.2.1, vu x.2.2.1, vu x.2.2.2.1, vB false, vb 0]) (fun x => [(1, vi a1), (4, pt r 0), (6, pt t 0), (7, pt j 0), (8, vi x.2.2.2.2.1), (9, vB K), (10, vi F)]) ?_ ?_
     ·have eC := b6.st m z
      refine WC.loop (σ := (UInt64 × UInt64 × UInt64 × UInt64 × Int × Own)) (fun x k w' => loopN k (glob_class_lp1 a0) (x.1, x.2.1, x.2.2.1, x.2.2.2.1, x.2.2.2.2.1) = some ee ∧ Stp [13] bc bx x.2.2.2.2.2 w' ∧ Blk 13 x.2.2.2.2.2 w' j 100 [vi 0, vu x.1, vu x.2.1, vu x.2.2.1, vu x.2.2.2.1, vB false, vb 0]) (fun x => [(0, vs a0), (1, vi a1), (4, pt r 0), (6, pt t 0), (7, pt j 0), (8, vi x.2.2.2.2.1), (9, vB K), (10, vi F)]) (0, 0, 0, 0, F, bc) ef (.cons z (.cons z (.cons z (.cons z (.cons z (.cons z (.cons z (.cons z .nil)))))))) ⟨h, (sr_ _ _ _), eC⟩ ?_
      rintro ⟨ae, T, U, V, D, au⟩ ef b7 ⟨h, M, ao⟩
      obtain ⟨fK, gJ, rfl, h, aJ⟩ := rnd1 h
      unfold glob_class_lp1 at h
      try dsimp only at h M ao
      refine (show WC _ _ _ _ [(0, vs a0), (1, vi a1), (4, pt r 0), (6, pt t 0), (7, pt j 0), (8, vi D), (9, vB K), (10, vi F)] _ from ?_)
      refine sq (sq (rg (wY (ym z) z (wY (ym z) z ?_))))
      obtain ⟨gK, eD, h⟩ := bnd h
      refine wY (Y.index_s ty9 z z eD) z (wY (Y.neq_b (b := 93) z z) z (nl (th ?_)))
      rcases cnd h with ⟨aK, h⟩ | ⟨aK, h⟩
      ·refine WC.condT' z aK (sk (th ?_))
       obtain ⟨eE, h, aL⟩ := flow1 h
       refine WC.join (σ := (UInt64 × UInt64 × UInt64 × UInt64 × Int × Own)) (fun x w' => eE = .go (x.1, x.2.1, x.2.2.1, x.2.2.2.1, x.2.2.2.2.1) ∧ Stp [13] au b7 x.2.2.2.2.2 w' ∧ Blk 13 x.2.2.2.2.2 w' j 100 [vi 0, vu x.1, vu x.2.1, vu x.2.2.1, vu x.2.2.2.1, vB false, vb 0]) (fun x => [(0, vs a0), (1, vi a1), (4, pt r 0), (6, pt t 0), (7, pt j 0), (8, vi x.2.2.2.2.1), (9, vB K), (10, vi F)]) ?_ ?_
       ·refine WC.block (sq (sq (rg (wY (ym z) z (wY (ym z) z ?_)))))
        obtain ⟨gn, cs, h⟩ := bnd h
        refine wY (Y.index_s ty9 z z cs) z (wY (Y.eql_b (b := 45) z z) z (nl (th ?_)))
        rcases cnd h with ⟨aM, h⟩ | ⟨aM, h⟩
        ·refine WC.condT' z aM (sq (sq (rg (wY (ym z) z (wY (ym z) z (wY (Y.add_i z z) z ?_))))))
         obtain ⟨gp, ct, h⟩ := bnd h
         refine wY (Y.index_s ty9 z z ct) z (wY (Y.neq_b (b := 93) z z) z (nl (th ?_)))
         rcases cnd h with ⟨aN, h⟩ | ⟨aN, h⟩
         ·refine WC.condT' z aN (sq (rg (wY (yL ty100 z z (ao.cells 0 [vi 0, vu ae, vu T, vu U, vu V, vB false, vb 0] z) z) z (wY (ym z) z (wY (yb (vals := [(0, vi D), (1, vi 3)]) (cells := [vi D, vi 3]) (fe_ z) (by kernel_rfl)) z ?_)))))
          have cy := (((aq.st G z).st o z).st m z).st M z
          refine WL.store (v := ag [vi 0, vu ae, vu T, vu U, vu V, vB false, vb 0]) (cells' := [vi 0, vu ae, vu T, vu U, vu V, vB false, vb 0]) ty100 z z cy z (le_ z) z z ?_
          intro fR bd cz
          refine wY (ya z) z ?_
          have cE := (((ar.st o z).st m z).st M z).st bd z
          refine WL.store (v := ag [vi D, vi 3]) (cells' := [vi D, vi 3]) ty102 z z cE z (le_ z) z z ?_
          intro cF bf cG
          refine nl (th (rt (At.thenR (At.thenR (At.inBlockR ?_)))))
          have h := outs1 h aL
          refine At.joinR (At.loopR ?_)
          have h := outr1 h aJ bB
          refine At.joinBR (At.inBlockR ?_)
          have h := outs1 h bA
          refine At.joinR (At.thenR ?_)
          obtain ⟨rfl, rfl, rfl⟩ := tup3 h
          have cH : Stp [11, 12, 13] (Lg.O0 A) w au cF := (tr_ (su_ ad z) (tr_ (su_ G z) (tr_ (su_ o z) (tr_ (su_ m z) (tr_ (su_ M z) (tr_ (su_ bd z) (su_ bf z)))))))
          have cI := cz.st bf z
          exact At.res (.inl z) z (.cell z (cI.runAg 0 [vi 0, vu ae, vu T, vu U, vu V, vB false, vb 0] ty100 z z z) (.tmp z (.cell z (cG.runAg 0 [vi D, vi 3] ty102 z z z) .nil))) ⟨z, (se_ cH z z)⟩
         ·refine WC.condF' z aN (sk (th (sq (rg (wY (yf fo100_1 z) z ?_)))))
          obtain ⟨eF, h, cJ⟩ := bnd h
          refine WL.callJ (vals := [pt j 1, vb 45]) (σ := (UInt64 × Own)) (fun x w' => x.1 = eF ∧ Stp [13] au b7 x.2 w' ∧ Blk 13 x.2 w' j 100 [vi 0, vu x.1, vu T, vu U, vu V, vB false, vb 0]) (fun x => tp []) kok90 z z ?_ ?_
          ·refine Rets.enter Tryd.func90 z z ?_
           refine (show WC _ _ _ _ [(0, pt j 1), (1, vb 45)] _ from ?_)
           refine WC.draw 13 au fmix (by kernel_rfl) ?_
           intro fT bg
           refine WS.y (ym z) z (WS.y (ym z) z (WS.yE (Y.quo_b (b := 64) (by decide) z z) (show vb ((45 : UInt8) / 64) = vb 0 from congrArg vb (by decide)) z (WS.y (yn z) z (WS.yE (Y.indexAddrA ty98 ty34 z z (by decide) (by decide)) (show (Value.pointer (some ⟨j, 1 + ((0 : UInt8).toNat : Int).toNat * 1, none⟩)) = .pointer (some ⟨j, 1, none⟩) from z) z ?_))))
           have bG := ao.st bg z
           refine WS.y (yl ty34 z z (bG.cell 1 _ z)) z (WS.y (ym z) z (WS.yE (Y.rem_b (b := 64) (by decide) z z) (show vb ((45 : UInt8) % 64) = vb 45 from congrArg vb (by decide)) z (WS.y (Y.conv_bu ty5.u ty143.u z) z (WS.y (Y.shl_uu (a := 1) z z) z (WS.y (Y.or_u z z) z (WS.y (yn z) z (WS.yE (Y.indexAddrA ty98 ty34 z z (by decide) (by decide)) (show (Value.pointer (some ⟨j, 1 + ((0 : UInt8).toNat : Int).toNat * 1, none⟩)) = .pointer (some ⟨j, 1, none⟩) from z) z (WS.tail ?_))))))))
           obtain ⟨bC, cK, h⟩ := lt1 h
           refine WL.ren 14 z (congrArg vu cK.symm) (WL.store (v := vu bC) (cells' := [vi 0, vu bC, vu T, vu U, vu V, vB false, vb 0]) ty34 z z bG z (le_ z) z z ?_)
           intro fU b8 cL
           refine nl ?_
           exact At.res (.inr z) z .nil ⟨(bC, au), ⟨some1 h, (tr_ (su_ bg z) (su_ b8 z)), cL⟩, z⟩
          ·rintro ⟨eG, eH⟩ fV ⟨rfl, bh, bH⟩
           replace h := cJ
           try dsimp only at h bh bH
           refine (show WL _ _ _ _ _ ((58, tp []) :: _) _ from ?_)
           refine nl (th (sq (rg (wY (ym z) z (wY (Y.add_i z z) z ?_)))))
           obtain ⟨cM, b9, h⟩ := lt1 h
           refine WL.yE (ya z) (congrArg vi b9.symm) z (nl (th (WC.exit (At.thenX (At.inBlockHit ?_)))))
           exact At.join (σ := (UInt64 × UInt64 × UInt64 × UInt64 × Int × Own)) (eG, T, U, V, cM, eH) ⟨go2 h, (su_ bh z), bH⟩ (.cons z (.cons z (.cons z (.cons z (.cons z (.cons z (.cons z (.cons z .nil))))))))
        ·refine WC.condF' z aM (sk (th (sq (rg (wY (ym z) z (wY (ym z) z ?_))))))
         obtain ⟨⟨H, av⟩, cN, h⟩ := bnd h
         refine WL.call (vals := [vs a0, vi D]) kok92 z z (c_glob_member cN) ?_
         rintro fY aO ⟨rfl, cO⟩
         obtain ⟨bD, fw, fx, W⟩ := adoptE au (fun k => 1) cO
         refine wY (ym z) z (wY (yx z z) z (wY (yx z z) z (wY (ya z) z (wY (ya z) z (nl (th (sq (rg (wY (ym z) z ?_)))))))))
         refine wY (ya z) z (nl (th (sq ?_)))
         obtain ⟨eI, h, bI⟩ := flow1 h
         refine WC.join (σ := (Int × UInt8 × Own)) (fun x w' => eI = .go (x.1, x.2.1) ∧ Stp [] bD aO x.2.2 w') (fun x => [(0, vs a0), (1, vi a1), (4, pt r 0), (6, pt t 0), (7, pt j 0), (8, vi D), (9, vB K), (10, vi F), (11, vb H), (12, vi x.1), (13, vb x.2.1)]) ?_ ?_
         ·refine sq (rg (wY (ym z) z (wY (ym z) z (wY (Y.add_i z z) z ?_))))
          obtain ⟨ax, cP, h⟩ := lt1 h
          refine WL.yE (ya z) (congrArg vi cP.symm) z (nl (th (sq (rg (wY (ym z) z (wY (ym z) z ?_))))))
          obtain ⟨gq, cQ, h⟩ := bnd h
          refine wY (Y.index_s ty9 z z cQ) z (wY (Y.eql_b (b := 45) z z) z (wY (ym z) z ?_))
          obtain ⟨eJ, h, cR⟩ := bnd h
          refine WL.cut 6 (σ := Bool) (fun x w' => x = eJ ∧ aO = w') (fun x => [(0, vs a0), (1, vi a1), (4, pt r 0), (6, pt t 0), (7, pt j 0), (8, vi D), (9, vB K), (10, vi F), (11, vb H), (12, vi av), (13, vb H), (14, vi ax), (81, vB x)]) ?_ ?_
          ·rcases cnd h with ⟨aP, h⟩ | ⟨aP, h⟩
           ·refine WL.ren 75 z (congrArg vB aP) (ug z z (wY (ym z) z (ug z z (wY (ym z) z (ug z z (wY (Y.add_i z z) z (ug z z ?_)))))))
            obtain ⟨eK, cS, h⟩ := bnd h
            refine wY (Y.index_s ty9 z z cS) z (ug z z (wY (Y.neq_b (b := 93) z z) z (wY (Y.pick (b := true) z z) z ?_)))
            exact nl (At.join (σ := Bool) (!decide (eK = 93)) ⟨some1 h, z⟩ (.cons z (.cons z (.cons z (.cons z (.cons z (.cons z (.cons z (.cons z (.cons z (.cons z (.cons z (.cons z (.cons z .nil))))))))))))))
           ·refine WL.ren 75 z (congrArg vB aP) (WL.gS z z z z (WL.gS z z z z (WL.gS z z z z (WL.gS z z z z (WL.gS z z z z (wY (Y.pick (b := false) z z) z ?_))))))
            exact nl (At.join (σ := Bool) false ⟨some1 h, z⟩ (.cons z (.cons z (.cons z (.cons z (.cons z (.cons z (.cons z (.cons z (.cons z (.cons z (.cons z (.cons z (.cons z .nil))))))))))))))
          ·rintro eL _ ⟨rfl, rfl⟩
           replace h := cR
           try dsimp only at h
           refine (show WL _ _ _ _ _ [(0, vs a0), (1, vi a1), (4, pt r 0), (6, pt t 0), (7, pt j 0), (8, vi D), (9, vB K), (10, vi F), (11, vb H), (12, vi av), (13, vb H), (14, vi ax), (81, vB eL)] _ from ?_)
           refine wY (ym z) z ?_
           obtain ⟨eM, h, cT⟩ := bnd h
           refine WL.cut 6 (σ := Bool) (fun x w' => x = eM ∧ aO = w') (fun x => [(0, vs a0), (1, vi a1), (4, pt r 0), (6, pt t 0), (7, pt j 0), (8, vi D), (9, vB K), (10, vi F), (11, vb H), (12, vi av), (13, vb H), (14, vi ax), (88, vB x)]) ?_ ?_
           ·rcases cnd h with ⟨aQ, h⟩ | ⟨aQ, h⟩
            ·refine WL.ren 82 z (congrArg vB aQ) (ug z z (wY (ym z) z (ug z z (wY (ym z) z (ug z z (wY (Y.add_i z z) z (ug z z ?_)))))))
             obtain ⟨eN, cU, h⟩ := bnd h
             refine wY (Y.index_s ty9 z z cU) z (ug z z (wY (Y.neq_b (b := 45) z z) z (wY (Y.pick (b := true) z z) z ?_)))
             exact nl (At.join (σ := Bool) (!decide (eN = 45)) ⟨some1 h, z⟩ (.cons z (.cons z (.cons z (.cons z (.cons z (.cons z (.cons z (.cons z (.cons z (.cons z (.cons z (.cons z (.cons z .nil))))))))))))))
            ·refine WL.ren 82 z (congrArg vB aQ) (WL.gS z z z z (WL.gS z z z z (WL.gS z z z z (WL.gS z z z z (WL.gS z z z z (wY (Y.pick (b := false) z z) z ?_))))))
             exact nl (At.join (σ := Bool) false ⟨some1 h, z⟩ (.cons z (.cons z (.cons z (.cons z (.cons z (.cons z (.cons z (.cons z (.cons z (.cons z (.cons z (.cons z (.cons z .nil))))))))))))))
           ·rintro eO _ ⟨rfl, rfl⟩
            replace h := cT
            try dsimp only at h
            refine (show WL _ _ _ _ _ [(0, vs a0), (1, vi a1), (4, pt r 0), (6, pt t 0), (7, pt j 0), (8, vi D), (9, vB K), (10, vi F), (11, vb H), (12, vi av), (13, vb H), (14, vi ax), (88, vB eO)] _ from ?_)
            refine nl (th ?_)
            rcases cnd h with ⟨aR, h⟩ | ⟨aR, h⟩
            ·refine WC.condT' z aR (sq (rg (wY (ym z) z (wY (ym z) z (wY (Y.add_i z z) z ?_)))))
             obtain ⟨⟨eP, gr⟩, cV, h⟩ := bnd h
             refine WL.call (vals := [vs a0, vi (w64 (ax + 1))]) kok92 z z (c_glob_member cV) ?_
             rintro f0 f1 ⟨rfl, cW⟩
             obtain ⟨ca, fy, fz, aa⟩ := adoptE bD (fun k => 1) cW
             refine wY (ym z) z (wY (yx z z) z (wY (yx z z) z (wY (ya z) z (wY (ya z) z (nl (th (sq (sq (rg ?_)))))))))
             refine wY (ym z) z (wY (ym z) z (wY (Y.lss_b z z) z (nl (th ?_))))
             rcases cnd h with ⟨aS, h⟩ | ⟨aS, h⟩
             ·refine WC.condT' z aS (sq (rg ?_))
              have cY := (ao.st W z).st aa z
              refine wY (yL ty100 z z (cY.cells 0 [vi 0, vu ae, vu T, vu U, vu V, vB false, vb 0] z) z) z (wY (ym z) z (wY (yb (vals := [(0, vi D), (1, vi 3)]) (cells := [vi D, vi 3]) (fe_ z) (by kernel_rfl)) z ?_))
              have c4 := (((((aq.st G z).st o z).st m z).st M z).st W z).st aa z
              refine WL.store (v := ag [vi 0, vu ae, vu T, vu U, vu V, vB false, vb 0]) (cells' := [vi 0, vu ae, vu T, vu U, vu V, vB false, vb 0]) ty100 z z c4 z (le_ z) z z ?_
              intro f2 bi c5
              refine wY (ya z) z ?_
              have db := (((((ar.st o z).st m z).st M z).st W z).st aa z).st bi z
              refine WL.store (v := ag [vi D, vi 3]) (cells' := [vi D, vi 3]) ty102 z z db z (le_ z) z z ?_
              intro dc bj dd
              refine nl (th (rt (At.thenR ?_)))
              have h := outs1 h bI
              refine At.joinR (At.thenR (At.inBlockR ?_))
              have h := outs1 h aL
              refine At.joinR (At.loopR ?_)
              have h := outr1 h aJ bB
              refine At.joinBR (At.inBlockR ?_)
              have h := outs1 h bA
              refine At.joinR (At.thenR ?_)
              obtain ⟨rfl, rfl, rfl⟩ := tup3 h
              have de : Stp [11, 12, 13] (Lg.O0 A) w ca dc := (tr_ (su_ ad z) (tr_ (su_ G z) (tr_ (su_ o z) (tr_ (su_ m z) (tr_ (su_ M z) (tr_ (su_ W z) (tr_ (su_ aa z) (tr_ (su_ bi z) (su_ bj z)))))))))
              have df := c5.st bj z
              exact At.res (.inl z) z (.cell z (df.runAg 0 [vi 0, vu ae, vu T, vu U, vu V, vB false, vb 0] ty100 z z z) (.tmp z (.cell z (dd.runAg 0 [vi D, vi 3] ty102 z z z) .nil))) ⟨z, (se_ de z z)⟩
             ·refine WC.condF' z aS (sk (th (rg (wY (ym z) z (wY (ym z) z (wY (Y.add_i z z) z (wY (ym z) z (wY (Y.add_i z z) z (wY (ya z) z ?_)))))))))
              obtain ⟨dg, cb, h⟩ := lt1 h
              refine WL.yE (ya z) (congrArg vi cb.symm) z (nl ?_)
              exact At.join (σ := (Int × UInt8 × Own)) (dg, eP, ca) ⟨go2 h, (su_ aa z)⟩ (.cons z (.cons z (.cons z (.cons z (.cons z (.cons z (.cons z (.cons z (.cons z (.cons z (.cons z .nil)))))))))))
            ·refine WC.condF' z aR (sk ?_)
             exact At.join (σ := (Int × UInt8 × Own)) (av, H, bD) ⟨go2 h, (sr_ _ _ _)⟩ (.cons z (.cons z (.cons z (.cons z (.cons z (.cons z (.cons z (.cons z (.cons z (.cons z (.cons z .nil)))))))))))
         ·rintro ⟨dh, X, aT⟩ aU ⟨rfl, ay⟩
          replace h := flowK_go bI
          try dsimp only at h ay
          refine (show At _ _ _ [(0, vs a0), (1, vi a1), (4, pt r 0), (6, pt t 0), (7, pt j 0), (8, vi D), (9, vB K), (10, vi F), (11, vb H), (12, vi dh), (13, vb X)] _ from ?_)
          refine th (sq (rg (wY (yf fo100_1 z) z (wY (ym z) z (wY (ym z) z ?_)))))
          obtain ⟨eQ, h, di⟩ := bnd h
          refine WL.callJ (vals := [pt j 1, vb H, vb X]) (σ := (UInt64 × UInt64 × UInt64 × UInt64 × Own)) (fun x w' => (x.1, x.2.1, x.2.2.1, x.2.2.2.1) = eQ ∧ Stp [13] aT aU x.2.2.2.2 w' ∧ Blk 13 x.2.2.2.2 w' j 100 [vi 0, vu x.1, vu x.2.1, vu x.2.2.1, vu x.2.2.2.1, vB false, vb 0]) (fun x => tp []) kok69 z z ?_ ?_
          ·refine Rets.enter Tryd.func69 z z ?_
           refine (show WC _ _ _ _ [(0, pt j 1), (1, vb H), (2, vb X)] _ from ?_)
           refine sq (rg (wY (ym z) z (wY (Y.conv_bi ty5.u ty3.u z) z ?_)))
           obtain ⟨eR, dj, h⟩ := lt1 h
           refine WL.yE (ya z) (congrArg vi dj.symm) z (nl (th (WC.block ?_)))
           obtain ⟨cc, h, dk⟩ := flow1 h
           obtain ⟨cd, h⟩ := loop_some h
           refine WC.joinB 0 (σ := (UInt64 × UInt64 × UInt64 × UInt64 × Own)) (fun x w' => cc = .go (x.1, x.2.1, x.2.2.1, x.2.2.2.1) ∧ Stp [13] aT aU x.2.2.2.2 w' ∧ Blk 13 x.2.2.2.2 w' j 100 [vi 0, vu x.1, vu x.2.1, vu x.2.2.1, vu x.2.2.2.1, vB false, vb 0]) (fun x => []) ?_ ?_
           ·have dm := (ao.st W z).st ay z
            refine WC.loop (σ := (UInt64 × UInt64 × UInt64 × UInt64 × Int × Own)) (fun x k w' => loopN k (glob_class_lp2 X) (x.1, x.2.1, x.2.2.1, x.2.2.2.1, x.2.2.2.2.1) = some cc ∧ Stp [13] aT aU x.2.2.2.2.2 w' ∧ Blk 13 x.2.2.2.2.2 w' j 100 [vi 0, vu x.1, vu x.2.1, vu x.2.2.1, vu x.2.2.2.1, vB false, vb 0]) (fun x => [(0, pt j 1), (2, vb X), (6, vi x.2.2.2.2.1)]) (ae, T, U, V, eR, aT) cd (.cons z (.cons z (.cons z .nil))) ⟨h, (sr_ _ _ _), dm⟩ ?_
            rintro ⟨af, ah, ai, aj, P, aW⟩ cd dn ⟨h, az, aX⟩
            obtain ⟨eS, gs, rfl, h, bJ⟩ := rnd1 h
            unfold glob_class_lp2 at h
            try dsimp only at h az aX
            refine (show WC _ _ _ _ [(0, pt j 1), (2, vb X), (6, vi P)] _ from ?_)
            refine sq (sq (rg (wY (ym z) z (wY (ym z) z (wY (Y.conv_bi ty5.u ty3.u z) z (wY (Y.leq_i z z) z (nl (th ?_))))))))
            rcases cnd h with ⟨aY, h⟩ | ⟨aY, h⟩
            ·refine WC.condT' z aY (sk (th (sq (WC.block (rg (wY (ym z) z (wY (ym z) z (wY (Y.conv_ib ty3.u ty5.u z) z ?_))))))))
             obtain ⟨p256, h, dp⟩ := bnd h
             refine WL.callJ (vals := [pt j 1, vb (toU8 P)]) (σ := (UInt64 × UInt64 × UInt64 × UInt64 × Own)) (fun x w' => (x.1, x.2.1, x.2.2.1, x.2.2.2.1) = p256 ∧ Stp [13] aW dn x.2.2.2.2 w' ∧ Blk 13 x.2.2.2.2 w' j 100 [vi 0, vu x.1, vu x.2.1, vu x.2.2.1, vu x.2.2.2.1, vB false, vb 0]) (fun x => tp []) kok90 z z ?_ ?_
             ·refine Rets.enter Tryd.func90 z z ?_
              refine (show WC _ _ _ _ [(0, pt j 1), (1, vb (toU8 P))] _ from ?_)
              refine WC.draw 13 aW fmix (by kernel_rfl) ?_
              intro f3 bk
              refine WS.y (ym z) z (WS.y (ym z) z (WS.y (Y.quo_b (b := 64) (by decide) z z) z (WS.y (yn z) z ?_)))
              obtain ⟨gt, bK, h⟩ := bnd h
              have bL := idx_in bK
              refine WS.y (Y.indexAddrA ty98 ty34 z z bL.1 bL.2) z ?_
              have bM := aX.st bk z
              refine WS.y (yl ty34 z z (CellsAt.idxU (xs := ([af, ah, ai, aj] : List UInt64)) (bM.cells 1 [vu af, vu ah, vu ai, vu aj] z) bK)) z (WS.y (ym z) z (WS.y (Y.rem_b (b := 64) (by decide) z z) z (WS.y (Y.conv_bu ty5.u ty143.u z) z (WS.y (Y.shl_uu (a := 1) z z) z (WS.y (Y.or_u z z) z (WS.y (yn z) z ?_))))))
              obtain ⟨gu, bO, h⟩ := bnd h
              have bP := idx_in bO
              refine WS.y (Y.indexAddrA ty98 ty34 z z bP.1 bP.2) z (WS.tail ?_)
              obtain ⟨I, dr, h⟩ := lt1 h
              refine WL.ren 14 z (congrArg vu dr.symm) (WL.store4 (xs := ([af, ah, ai, aj] : List UInt64)) (off := 1) (v := I) (fun i => [vi 0, vu (up4 i 0 I af), vu (up4 i 1 I ah), vu (up4 i 2 I ai), vu (up4 i 3 I aj), vB false, vb 0]) ty34 z z bO z bM (le_ z) z z z z ?_)
              intro f4 ce aZ
              replace aZ : Blk _ _ _ _ _ [vi 0, vu (up4 (((toU8 P) / 64).toNat : Int) 0 I af), vu (up4 (((toU8 P) / 64).toNat : Int) 1 I ah), vu (up4 (((toU8 P) / 64).toNat : Int) 2 I ai), vu (up4 (((toU8 P) / 64).toNat : Int) 3 I aj), vB false, vb 0] := aZ
              refine nl ?_
              exact At.res (.inr z) z .nil ⟨((up4 (((toU8 P) / 64).toNat : Int) 0 I af), (up4 (((toU8 P) / 64).toNat : Int) 1 I ah), (up4 (((toU8 P) / 64).toNat : Int) 2 I ai), (up4 (((toU8 P) / 64).toNat : Int) 3 I aj), aW), ⟨some1 h, (tr_ (su_ bk z) (su_ ce z)), aZ⟩, z⟩
             ·rintro ⟨eT, eU, eV, eW, eX⟩ f5 ⟨rfl, bl, bQ⟩
              replace h := dp
              try dsimp only at h bl bQ
              refine (show WL _ _ _ _ _ ((18, tp []) :: _) _ from ?_)
              refine nl (At.inBlock (th (rg (wY (ym z) z (wY (Y.add_i z z) z ?_)))))
              obtain ⟨eY, ds, h⟩ := lt1 h
              refine WL.yE (ya z) (congrArg vi ds.symm) z (nl ?_)
              exact At.round (eT, eU, eV, eW, eY, eX) eS (Nat.lt_succ_self _) ⟨next1 h bJ, (tr_ (su_ az z) (su_ bl z)), bQ⟩ (.cons z (.cons z (.cons z .nil)))
            ·refine WC.condF' z aY (WC.exit (At.thenX (At.loopX ?_)))
             exact At.hitB (σ := (UInt64 × UInt64 × UInt64 × UInt64 × Own)) (af, ah, ai, aj, aW) ⟨brk1 h bJ, (su_ az z), aX⟩ .nil
           ·rintro ⟨eZ, e0, e1, e2, e5⟩ f6 ⟨rfl, bm, bR⟩
            replace h := flowK_go dk
            try dsimp only at h bm bR
            refine (show At _ _ _ [] _ from ?_)
            refine At.inBlockHit ?_
            exact At.res (.inr z) z .nil ⟨(eZ, e0, e1, e2, e5), ⟨some1 h, (su_ bm z), bR⟩, z⟩
          ·rintro ⟨e6, e7, e8, e9, fa⟩ f7 ⟨rfl, bn, bS⟩
           replace h := di
           try dsimp only at h bn bS
           refine (show WL _ _ _ _ _ ((110, tp []) :: _) _ from ?_)
           refine nl (th (rg (wY (ym z) z (wY (ym z) z (wY (Y.add_i z z) z ?_)))))
           obtain ⟨dt, cf, h⟩ := lt1 h
           refine WL.yE (ya z) (congrArg vi cf.symm) z (nl (At.inBlock ?_))
           exact At.join (σ := (UInt64 × UInt64 × UInt64 × UInt64 × Int × Own)) (e6, e7, e8, e9, dt, fa) ⟨go2 h, (tr_ (su_ W z) (tr_ (su_ ay z) (su_ bn z))), bS⟩ (.cons z (.cons z (.cons z (.cons z (.cons z (.cons z (.cons z (.cons z .nil))))))))
       ·rintro ⟨fc, fd, fe, ff, bT, fg⟩ f8 ⟨rfl, bo, bU⟩
        replace h := flowK_go aL
        try dsimp only at h bo bU
        refine (show At _ _ _ [(0, vs a0), (1, vi a1), (4, pt r 0), (6, pt t 0), (7, pt j 0), (8, vi bT), (9, vB K), (10, vi F)] _ from ?_)
        exact At.round (fc, fd, fe, ff, bT, fg) fK (Nat.lt_succ_self _) ⟨next1 h aJ, (tr_ (su_ M z) (su_ bo z)), bU⟩ (.cons z (.cons z (.cons z (.cons z (.cons z (.cons z (.cons z (.cons z .nil))))))))
      ·refine WC.condF' z aK (WC.exit (At.thenX (At.loopX ?_)))
       exact At.hitB (σ := (UInt64 × UInt64 × UInt64 × UInt64 × Int × Own)) (ae, T, U, V, D, au) ⟨brk1 h aJ, (su_ M z), ao⟩ (.cons z (.cons z (.cons z (.cons z (.cons z (.cons z (.cons z .nil)))))))
     ·rintro ⟨fL, fN, fO, fP, cg, fQ⟩ gw ⟨rfl, bW, ch⟩
      replace h := flowK_go bB
      try dsimp only at h bW ch
      refine (show At _ _ _ [(1, vi a1), (4, pt r 0), (6, pt t 0), (7, pt j 0), (8, vi cg), (9, vB K), (10, vi F)] _ from ?_)
      refine At.inBlockHit ?_
      exact At.join (σ := (UInt64 × UInt64 × UInt64 × UInt64 × Int × Own)) (fL, fN, fO, fP, cg, fQ) ⟨go2 h, (su_ bW z), ch⟩ (.cons z (.cons z (.cons z (.cons z (.cons z (.cons z (.cons z .nil)))))))
    ·rintro ⟨aF, aG, aH, aI, Z, aA⟩ a2 ⟨rfl, Q, a3⟩
     replace h := flowK_go bA
     try dsimp only at h Q a3
     refine (show At _ _ _ [(1, vi a1), (4, pt r 0), (6, pt t 0), (7, pt j 0), (8, vi Z), (9, vB K), (10, vi F)] _ from ?_)
     refine th (sq (sq (rg (wY (ym z) z (wY (ym z) z (wY (Y.eql_i z z) z (nl (th ?_))))))))
     rcases cnd h with ⟨a4, h⟩ | ⟨a4, h⟩
     ·refine WC.condT' z a4 (sq (rg (wY (yL ty100 z z (a3.cells 0 [vi 0, vu aF, vu aG, vu aH, vu aI, vB false, vb 0] z) z) z (wY (ym z) z (wY (yb (vals := [(0, vi a1), (1, vi 3)]) (cells := [vi a1, vi 3]) (fe_ z) (by kernel_rfl)) z ?_)))))
      have dy := (((aq.st G z).st o z).st m z).st Q z
      refine WL.store (v := ag [vi 0, vu aF, vu aG, vu aH, vu aI, vB false, vb 0]) (cells' := [vi 0, vu aF, vu aG, vu aH, vu aI, vB false, vb 0]) ty100 z z dy z (le_ z) z z ?_
      intro f9 bp dz
      refine wY (ya z) z ?_
      have dD := (((ar.st o z).st m z).st Q z).st bp z
      refine WL.store (v := ag [vi a1, vi 3]) (cells' := [vi a1, vi 3]) ty102 z z dD z (le_ z) z z ?_
      intro dE bq dF
      refine nl (th (rt (At.thenR ?_)))
      obtain ⟨rfl, rfl, rfl⟩ := tup3 h
      have dG : Stp [11, 12, 13] (Lg.O0 A) w aA dE := (tr_ (su_ ad z) (tr_ (su_ G z) (tr_ (su_ o z) (tr_ (su_ m z) (tr_ (su_ Q z) (tr_ (su_ bp z) (su_ bq z)))))))
      have dH := dz.st bq z
      exact At.res (.inl z) z (.cell z (dH.runAg 0 [vi 0, vu aF, vu aG, vu aH, vu aI, vB false, vb 0] ty100 z z z) (.tmp z (.cell z (dF.runAg 0 [vi a1, vi 3] ty102 z z z) .nil))) ⟨z, (se_ dG z z)⟩
     ·refine WC.condF' z a4 (sk (th (sq ?_)))
      obtain ⟨fh, h, dI⟩ := bnd h
      refine WC.join (σ := (UInt64 × UInt64 × UInt64 × UInt64 × Own)) (fun x w' => (x.1, x.2.1, x.2.2.1, x.2.2.2.1) = fh ∧ Stp [13] aA a2 x.2.2.2.2 w' ∧ Blk 13 x.2.2.2.2 w' j 100 [vi 0, vu x.1, vu x.2.1, vu x.2.2.1, vu x.2.2.2.1, vB false, vb 0]) (fun x => [(1, vi a1), (4, pt r 0), (6, pt t 0), (7, pt j 0), (8, vi Z)]) ?_ ?_
      ·refine sq (rg (wY (ym z) z (nl (th ?_))))
       rcases cnd h with ⟨a5, h⟩ | ⟨a5, h⟩
       ·refine WC.condT' z a5 (sq (rg (wY (ym z) z (nl (th ?_)))))
        obtain ⟨fi, h, dJ⟩ := bnd h
        refine WC.join (σ := (UInt64 × UInt64 × UInt64 × UInt64 × Own)) (fun x w' => (x.1, x.2.1, x.2.2.1, x.2.2.2.1) = fi ∧ Stp [13] aA a2 x.2.2.2.2 w' ∧ Blk 13 x.2.2.2.2 w' j 100 [vi 0, vu x.1, vu x.2.1, vu x.2.2.1, vu x.2.2.2.1, vB false, vb 0]) (fun x => [(1, vi a1), (4, pt r 0), (6, pt t 0), (7, pt j 0), (8, vi Z)]) ?_ ?_
        ·refine WC.block ?_
         obtain ⟨ci, h, dK⟩ := flow1 h
         obtain ⟨cj, h⟩ := loop_some h
         refine WC.joinB 2 (σ := (UInt64 × UInt64 × UInt64 × UInt64 × Own)) (fun x w' => ci = .go (x.1, x.2.1, x.2.2.1, x.2.2.2.1) ∧ Stp [13] aA a2 x.2.2.2.2 w' ∧ Blk 13 x.2.2.2.2 w' j 100 [vi 0, vu x.1, vu x.2.1, vu x.2.2.1, vu x.2.2.2.1, vB false, vb 0]) (fun x => [(1, vi a1), (4, pt r 0), (6, pt t 0), (7, pt j 0), (8, vi Z)]) ?_ ?_
         ·refine WC.loop (σ := (UInt64 × UInt64 × UInt64 × UInt64 × Int × Own)) (fun x k w' => loopN k (glob_class_lp3) (x.1, x.2.1, x.2.2.1, x.2.2.2.1, x.2.2.2.2.1) = some ci ∧ Stp [13] aA a2 x.2.2.2.2.2 w' ∧ Blk 13 x.2.2.2.2.2 w' j 100 [vi 0, vu x.1, vu x.2.1, vu x.2.2.1, vu x.2.2.2.1, vB false, vb 0]) (fun x => [(1, vi a1), (4, pt r 0), (6, pt t 0), (7, pt j 0), (8, vi Z), (121, vi x.2.2.2.2.1)]) (aF, aG, aH, aI, 0, aA) cj (.cons z (.cons z (.cons z (.cons z (.cons z (.cons z .nil)))))) ⟨h, (sr_ _ _ _), a3⟩ ?_
          rintro ⟨ak, al, am, an, S, ck⟩ cj ga ⟨h, aC, ap⟩
          obtain ⟨fj, gz, rfl, h, bX⟩ := rnd1 h
          unfold glob_class_lp3 at h
          try dsimp only at h aC ap
          refine (show WC _ _ _ _ [(1, vi a1), (4, pt r 0), (6, pt t 0), (7, pt j 0), (8, vi Z), (121, vi S)] _ from ?_)
          refine sq (rg (wY (Y.lss_i z z) z (nl (th (sq ?_)))))
          rcases cnd h with ⟨a6, h⟩ | ⟨a6, h⟩
          ·refine WC.condT' z a6 (sk (th (sq (WC.block (sq (rg (wY (ym z) z (wY (ya z) z (nl ?_)))))))))
           refine th (rg (wY (ym z) z (wY (ym z) z (wY (yf fo100_1 z) z ?_))))
           obtain ⟨gB, bY, h⟩ := bnd h
           have bZ := idx_in bY
           refine wY (Y.indexAddrA ty98 ty34 z z bZ.1 bZ.2) z (wY (yl ty34 z z (CellsAt.idxU (xs := ([ak, al, am, an] : List UInt64)) (ap.cells 1 [vu ak, vu al, vu am, vu an] z) bY)) z (wY (Y.not_u z) z (wY (yf fo100_1 z) z ?_)))
           obtain ⟨gC, b0, h⟩ := bnd h
           have b1 := idx_in b0
           refine wY (Y.indexAddrA ty98 ty34 z z b1.1 b1.2) z ?_
           obtain ⟨J, dL, h⟩ := lt1 h
           refine WL.ren 129 z (congrArg vu dL.symm) (WL.store4 (xs := ([ak, al, am, an] : List UInt64)) (off := 1) (v := J) (fun i => [vi 0, vu (up4 i 0 J ak), vu (up4 i 1 J al), vu (up4 i 2 J am), vu (up4 i 3 J an), vB false, vb 0]) ty34 z z b0 z ap (le_ z) z z z z ?_)
           intro gb cl a7
           replace a7 : Blk _ _ _ _ _ [vi 0, vu (up4 S 0 J ak), vu (up4 S 1 J al), vu (up4 S 2 J am), vu (up4 S 3 J an), vB false, vb 0] := a7
           refine nl (At.inBlock (th (rg (wY (Y.add_i z z) z (wY (ym z) z (nl ?_))))))
           exact At.round ((up4 S 0 J ak), (up4 S 1 J al), (up4 S 2 J am), (up4 S 3 J an), w64 (S + 1), ck) fj (Nat.lt_succ_self _) ⟨next1 h bX, (tr_ (su_ aC z) (su_ cl z)), a7⟩ (.cons z (.cons z (.cons z (.cons z (.cons z (.cons z .nil))))))
          ·refine WC.condF' z a6 (WC.exit (At.thenX (At.loopX ?_)))
           exact At.hitB (σ := (UInt64 × UInt64 × UInt64 × UInt64 × Own)) (ak, al, am, an, ck) ⟨brk1 h bX, (su_ aC z), ap⟩ (.cons z (.cons z (.cons z (.cons z (.cons z .nil)))))
         ·rintro ⟨fk, fl, fm, fn, fo⟩ gc ⟨rfl, br, b2⟩
          replace h := flowK_go dK
          try dsimp only at h br b2
          refine (show At _ _ _ [(1, vi a1), (4, pt r 0), (6, pt t 0), (7, pt j 0), (8, vi Z)] _ from ?_)
          refine At.inBlockHit ?_
          exact At.join (σ := (UInt64 × UInt64 × UInt64 × UInt64 × Own)) (fk, fl, fm, fn, fo) ⟨some1 h, (su_ br z), b2⟩ (.cons z (.cons z (.cons z (.cons z (.cons z .nil)))))
        ·rintro ⟨fp, fq, fs, ft, fu⟩ gd ⟨rfl, bs, b3⟩
         replace h := dJ
         try dsimp only at h bs b3
         refine (show At _ _ _ [(1, vi a1), (4, pt r 0), (6, pt t 0), (7, pt j 0), (8, vi Z)] _ from ?_)
         exact At.join (σ := (UInt64 × UInt64 × UInt64 × UInt64 × Own)) (fp, fq, fs, ft, fu) ⟨some1 h, (su_ bs z), b3⟩ (.cons z (.cons z (.cons z (.cons z (.cons z .nil)))))
       ·refine WC.condF' z a5 (sk ?_)
        exact At.join (σ := (UInt64 × UInt64 × UInt64 × UInt64 × Own)) (aF, aG, aH, aI, aA) ⟨some1 h, (sr_ _ _ _), a3⟩ (.cons z (.cons z (.cons z (.cons z (.cons z .nil)))))
      ·rintro ⟨a8, a9, ba, bb, cm⟩ ge ⟨rfl, ab, b4⟩
       replace h := dI
       try dsimp only at h ab b4
       refine (show At _ _ _ [(1, vi a1), (4, pt r 0), (6, pt t 0), (7, pt j 0), (8, vi Z)] _ from ?_)
       refine th (sq (WC.drawH [11] [0, 1, 2, 3, 4, 5, 6, 7] cm 9 fmix z (by kernel_rfl) ?_))
       intro gf ac
       refine WD.y 0 z (by kernel_rfl) (fun gg gE cn => have dM := b4.st ac z; have dN := dM.st cn z; yL ty100 z z (dN.cells 0 [vi 0, vu a8, vu a9, vu ba, vu bb, vB false, vb 0] z) z) z (WD.y 1 z (by kernel_rfl) (fun _ _ _ => ym z) z (WD.y 2 z (by kernel_rfl) (fun _ _ _ => Y.add_i z z) z (WD.y 3 z (by kernel_rfl) (fun _ _ _ => ym z) z (WD.y 4 z (by kernel_rfl) (fun _ _ _ => Y.sub_i z z) z (WD.y 5 z (by kernel_rfl) (fun gh gG co => have dO := eg.st ad z; have dP := dO.st G z; have dQ := dP.st o z; have dR := dQ.st m z; have dS := dR.st Q z; have dT := dS.st ab z; have dU := dT.st ac z; have dV := dU.st co z; yL ty102 z z dV.at_ z) z (WD.heavy 6 z (by kernel_rfl) ?_))))))
       have d1 := (((((aq.st G z).st o z).st m z).st Q z).st ab z).st ac z
       refine WL.store (v := ag [vi 0, vu a8, vu a9, vu ba, vu bb, vB false, vb 0]) (cells' := [vi 0, vu a8, vu a9, vu ba, vu bb, vB false, vb 0]) ty100 z z d1 z (le_ z) z z ?_
       intro gi aD d2
       refine nl (At.dq (su_ aD z) ?_)
       obtain ⟨gH, d3, h⟩ := lt1 h
       refine WD.yE 7 z (by kernel_rfl) (fun _ _ _ => ya z) (congrArg vi d3.symm) z (WD.phase [12] [0, 1, 2, 3, 4, 5, 6, 7, 8] (by kernel_rfl) (by kernel_rfl) (WD.heavy 8 z (by kernel_rfl) ?_))
       have d9 := (((((ar.st o z).st m z).st Q z).st ab z).st ac z).st aD z
       refine WL.store (v := ag [vi 0, vi 0]) (cells' := [vi 0, vi 0]) ty102 z z d9 z (le_ z) z z ?_
       intro ea aE eb
       refine nl (At.dq (su_ aE z) (WD.done_ (by kernel_rfl) (th (rt ?_))))
       obtain ⟨rfl, rfl, rfl⟩ := tup3 h
       have ec : Stp [11, 12, 13] (Lg.O0 A) w cm ea := (tr_ (su_ ad z) (tr_ (su_ G z) (tr_ (su_ o z) (tr_ (su_ m z) (tr_ (su_ Q z) (tr_ (su_ ab z) (tr_ (su_ ac z) (tr_ (su_ aD z) (su_ aE z)))))))))
       have ed := d2.st aE z
       exact At.res (.inl z) z (.cell z (ed.runAg 0 [vi 0, vu a8, vu a9, vu ba, vu bb, vB false, vb 0] ty100 z z z) (.tmp z (.cell z (eb.runAg 0 [vi 0, vi 0] ty102 z z z) .nil))) ⟨z, (se_ ec z z)⟩
theorem c_glob_byteOf {a0 : UInt8} {w : World} {r0 : glob_piece} (h : glob_byteOf a0 = some r0) : Rets Tryd.prog 71 [vb a0] w (fun v w' => v = ag [vi r0.kind, vu r0.set.a0, vu r0.set.a1, vu r0.set.a2, vu r0.set.a3, vB r0.plain, vb r0.c] ∧ Ext w w') := by
 unfold glob_byteOf at h
 refine Rets.enter Tryd.func71 z z ?_
 refine (show WC _ _ _ _ [(0, vb a0)] _ from ?_)
 refine sq (rg (WL.alloc (O := (Lg.O0 (fun _ => False))) 11 [vi 0, vu 0, vu 0, vu 0, vu 0, vB false, vb 0] ty100 z z ?_))
 intro ax am ap V Z
 refine nl (th (sq (rg (wY (ym z) z (wY (yb (vals := [(2, vB true), (3, vb a0)]) (cells := [vi 0, vu 0, vu 0, vu 0, vu 0, vB true, vb a0]) (fe_ z) (by kernel_rfl)) z (WL.alloc (O := am) 12 [vi 0, vu 0, vu 0, vu 0, vu 0, vB false, vb 0] ty100 z z ?_))))))
 intro J K aq r aa
 refine WL.store (v := ag [vi 0, vu 0, vu 0, vu 0, vu 0, vB true, vb a0]) (cells' := [vi 0, vu 0, vu 0, vu 0, vu 0, vB true, vb a0]) ty100 z z aa z (le_ z) z z ?_
 intro ab t ac
 refine nl (th (sq (rg (wY (yf fo100_1 z) z (wY (ym z) z ?_)))))
 obtain ⟨an, h, ad⟩ := bnd h
 refine WL.callJ (vals := [pt J 1, vb a0]) (σ := (UInt64 × UInt64 × UInt64 × UInt64 × Own)) (fun x w' => (x.1, x.2.1, x.2.2.1, x.2.2.2.1) = an ∧ Stp [12] K ab x.2.2.2.2 w' ∧ Blk 12 x.2.2.2.2 w' J 100 [vi 0, vu x.1, vu x.2.1, vu x.2.2.1, vu x.2.2.2.1, vB true, vb a0]) (fun x => tp []) kok90 z z ?_ ?_
 ·refine Rets.enter Tryd.func90 z z ?_
  refine (show WC _ _ _ _ [(0, pt J 1), (1, vb a0)] _ from ?_)
  refine WC.draw 13 K fmix (by kernel_rfl) ?_
  intro ar D
  refine WS.y (ym z) z (WS.y (ym z) z (WS.y (Y.quo_b (b := 64) (by decide) z z) z (WS.y (yn z) z ?_)))
  obtain ⟨ay, M, h⟩ := bnd h
  have P := idx_in M
  refine WS.y (Y.indexAddrA ty98 ty34 z z P.1 P.2) z ?_
  have Q := ac.st D z
  refine WS.y (yl ty34 z z (CellsAt.idxU (xs := ([0, 0, 0, 0] : List UInt64)) (Q.cells 1 [vu 0, vu 0, vu 0, vu 0] z) M)) z (WS.y (ym z) z (WS.y (Y.rem_b (b := 64) (by decide) z z) z (WS.y (Y.conv_bu ty5.u ty143.u z) z (WS.y (Y.shl_uu (a := 1) z z) z (WS.y (Y.or_u z z) z (WS.y (yn z) z ?_))))))
  obtain ⟨az, S, h⟩ := bnd h
  have T := idx_in S
  refine WS.y (Y.indexAddrA ty98 ty34 z z T.1 T.2) z (WS.tail ?_)
  obtain ⟨j, ae, h⟩ := lt1 h
  refine WL.ren 14 z (congrArg vu ae.symm) (WL.store4 (xs := ([0, 0, 0, 0] : List UInt64)) (off := 1) (v := j) (fun i => [vi 0, vu (up4 i 0 j 0), vu (up4 i 1 j 0), vu (up4 i 2 j 0), vu (up4 i 3 j 0), vB true, vb a0]) ty34 z z S z Q (le_ z) z z z z ?_)
  intro au W o
  replace o : Blk _ _ _ _ _ [vi 0, vu (up4 ((a0 / 64).toNat : Int) 0 j 0), vu (up4 ((a0 / 64).toNat : Int) 1 j 0), vu (up4 ((a0 / 64).toNat : Int) 2 j 0), vu (up4 ((a0 / 64).toNat : Int) 3 j 0), vB true, vb a0] := o
  refine nl ?_
  exact At.res (.inr z) z .nil ⟨((up4 ((a0 / 64).toNat : Int) 0 j 0), (up4 ((a0 / 64).toNat : Int) 1 j 0), (up4 ((a0 / 64).toNat : Int) 2 j 0), (up4 ((a0 / 64).toNat : Int) 3 j 0), K), ⟨some1 h, (tr_ (su_ D z) (su_ W z)), o⟩, z⟩
 ·rintro ⟨F, G, H, I, ao⟩ av ⟨rfl, m, U⟩
  replace h := ad
  try dsimp only at h m U
  refine (show WL _ _ _ _ _ ((8, tp []) :: _) _ from ?_)
  refine nl (th (sq (rg (wY (yL ty100 z z (U.cells 0 [vi 0, vu F, vu G, vu H, vu I, vB true, vb a0] z) z) z ?_))))
  have ai := ((Z.st r z).st t z).st m z
  refine WL.store (v := ag [vi 0, vu F, vu G, vu H, vu I, vB true, vb a0]) (cells' := [vi 0, vu F, vu G, vu H, vu I, vB true, vb a0]) ty100 z z ai z (le_ z) z z ?_
  intro aj X ak
  refine nl (th (rt ?_))
  obtain rfl := some1 h
  have al : Stp [11, 12] (Lg.O0 (fun _ => False)) w ao aj := (tr_ (su_ V z) (tr_ (su_ r z) (tr_ (su_ t z) (tr_ (su_ m z) (su_ X z)))))
  exact At.res (.inl z) z (.cell z (ak.runAg 0 [vi 0, vu F, vu G, vu H, vu I, vB true, vb a0] ty100 z z z) .nil) ⟨z, (se_ al z z)⟩
theorem c_glob_next {A : Nat → Prop} {a0 : List UInt8} {a1 : Int} {w : World} (hG0 : CellsAt w 0 0 [vi 0, vi 0]) (hGA0 : A 0) {r0 : glob_piece} {r1 : Int} {r2 : glob_fault} (h : glob_next a0 a1 = some (r0, r1, r2)) : Rets Tryd.prog 48 [vs a0, vi a1] w (fun v w' => v = Value.tuple (List.toArray [ag [vi r0.kind, vu r0.set.a0, vu r0.set.a1, vu r0.set.a2, vu r0.set.a3, vB r0.plain, vb r0.c], vi r1, ag [vi r2.at_, vi r2.e]]) ∧ Ext w w') := by
 unfold glob_next at h
 refine Rets.enter Tryd.func48 z z ?_
 have X : CAt [0, 1] (Lg.O0 A) w 0 0 [vi 0, vi 0] := CAt.glob hG0 (if_pos hGA0)
 refine (show WC _ _ _ _ [(0, vs a0), (1, vi a1)] _ from ?_)
 refine sq (rg (WL.alloc (O := (Lg.O0 A)) 11 [vi 0, vu 0, vu 0, vu 0, vu 0, vB false, vb 0] ty100 z z ?_))
 intro d1 c9 dL t S
 refine wY (ya z) z (WL.alloc (O := c9) 12 [vi 0, vi 0] ty102 z z ?_)
 intro d2 I dM j T
 refine nl (th (sq (sq (rg (wY (ym z) z (wY (ym z) z ?_))))))
 obtain ⟨d3, cA, h⟩ := bnd h
 refine wY (Y.index_s ty9 z z cA) z (nl (th (WC.block (sq (rg (wY (Y.eql_b (b := 42) z z) z ?_))))))
 obtain ⟨d4, cC, h⟩ := lt1 h
 refine WL.yE (ya z) (congrArg vB cC.symm) z (nl (th ?_))
 rcases cnd h with ⟨aC, h⟩ | ⟨aC, h⟩
 ·refine WC.condT' z aC (sq (WC.drawH [11] [0, 1, 2, 3] I 5 fmix z (by kernel_rfl) ?_))
  intro dN V
  refine WD.y 0 z (by kernel_rfl) (fun _ _ _ => yb (vals := [(0, vi 1)]) (cells := [vi 1, vu 0, vu 0, vu 0, vu 0, vB false, vb 0]) (fe_ z) (by kernel_rfl)) z (WD.y 1 z (by kernel_rfl) (fun dO d5 a5 => have cD := X.st t z; have cE := cD.st j z; have cF := cE.st V z; have cG := cF.st a5 z; yL ty102 z z cG.at_ z) z (WD.heavy 2 z (by kernel_rfl) ?_))
  have cI := (S.st j z).st V z
  refine WL.store (v := ag [vi 1, vu 0, vu 0, vu 0, vu 0, vB false, vb 0]) (cells' := [vi 1, vu 0, vu 0, vu 0, vu 0, vB false, vb 0]) ty100 z z cI z (le_ z) z z ?_
  intro dP al cJ
  refine nl (At.dq (su_ al z) (WD.y 3 z (by kernel_rfl) (fun _ _ _ => ya z) z (WD.phase [12] [0, 1, 2, 3, 4] (by kernel_rfl) (by kernel_rfl) (WD.heavy 4 z (by kernel_rfl) ?_))))
  have cL := (T.st V z).st al z
  refine WL.store (v := ag [vi 0, vi 0]) (cells' := [vi 0, vi 0]) ty102 z z cL z (le_ z) z z ?_
  intro cM am cN
  refine nl (At.dq (su_ am z) (WD.done_ (by kernel_rfl) (th (rt (At.inBlockR (At.thenR ?_))))))
  obtain ⟨rfl, rfl, rfl⟩ := tup3 h
  have cO : Stp [11, 12] (Lg.O0 A) w I cM := (tr_ (su_ t z) (tr_ (su_ j z) (tr_ (su_ V z) (tr_ (su_ al z) (su_ am z)))))
  have cP := cJ.st am z
  exact At.res (.inl z) z (.cell z (cP.runAg 0 [vi 1, vu 0, vu 0, vu 0, vu 0, vB false, vb 0] ty100 z z z) (.tmp z (.cell z (cN.runAg 0 [vi 0, vi 0] ty102 z z z) .nil))) ⟨z, (se_ cO z z)⟩
 ·refine WC.condF' z aC (sq (rg (wY (Y.eql_b (b := 63) z z) z ?_)))
  obtain ⟨d6, cQ, h⟩ := lt1 h
  refine WL.yE (ya z) (congrArg vB cQ.symm) z (nl (th ?_))
  rcases cnd h with ⟨aD, h⟩ | ⟨aD, h⟩
  ·refine WC.condT' z aD (sq (rg (WL.alloc (O := I) 13 [vi 0, vu 0, vu 0, vu 0, vu 0, vB false, vb 0] ty100 z z ?_)))
   intro H aH aE W cR
   refine nl (th (sq (rg (wY (yf fo100_1 z) z ?_))))
   obtain ⟨da, h, cS⟩ := bnd h
   refine WL.callJ (vals := [pt H 1, vb 0, vb 255]) (σ := (UInt64 × UInt64 × UInt64 × UInt64 × Own)) (fun x w' => (x.1, x.2.1, x.2.2.1, x.2.2.2.1) = da ∧ Stp [13] aH aE x.2.2.2.2 w' ∧ Blk 13 x.2.2.2.2 w' H 100 [vi 0, vu x.1, vu x.2.1, vu x.2.2.1, vu x.2.2.2.1, vB false, vb 0]) (fun x => tp []) kok69 z z ?_ ?_
   ·refine Rets.enter Tryd.func69 z z ?_
    refine (show WC _ _ _ _ [(0, pt H 1), (1, vb 0), (2, vb 255)] _ from ?_)
    refine sq (rg (wY (ym z) z (wY (Y.conv_bi ty5.u ty3.u z) z ?_)))
    obtain ⟨db, cT, h⟩ := lt1 h
    refine WL.yE (ya z) (congrArg vi cT.symm) z (nl (th (WC.block ?_)))
    obtain ⟨cx, h, cU⟩ := flow1 h
    obtain ⟨cy, h⟩ := loop_some h
    refine WC.joinB 0 (σ := (UInt64 × UInt64 × UInt64 × UInt64 × Own)) (fun x w' => cx = .go (x.1, x.2.1, x.2.2.1, x.2.2.2.1) ∧ Stp [13] aH aE x.2.2.2.2 w' ∧ Blk 13 x.2.2.2.2 w' H 100 [vi 0, vu x.1, vu x.2.1, vu x.2.2.1, vu x.2.2.2.1, vB false, vb 0]) (fun x => []) ?_ ?_
    ·refine WC.loop (σ := (UInt64 × UInt64 × UInt64 × UInt64 × Int × Own)) (fun x k w' => loopN k (glob_next_lp1) (x.1, x.2.1, x.2.2.1, x.2.2.2.1, x.2.2.2.2.1) = some cx ∧ Stp [13] aH aE x.2.2.2.2.2 w' ∧ Blk 13 x.2.2.2.2.2 w' H 100 [vi 0, vu x.1, vu x.2.1, vu x.2.2.1, vu x.2.2.2.1, vB false, vb 0]) (fun x => [(0, pt H 1), (2, vb 255), (6, vi x.2.2.2.2.1)]) (0, 0, 0, 0, db, aH) cy (.cons z (.cons z (.cons z .nil))) ⟨h, (sr_ _ _ _), cR⟩ ?_
     rintro ⟨Z, aa, ab, ac, F, aI⟩ cy cV ⟨h, an, aF⟩
     obtain ⟨dc, d7, rfl, h, aT⟩ := rnd1 h
     unfold glob_next_lp1 at h
     try dsimp only at h an aF
     refine (show WC _ _ _ _ [(0, pt H 1), (2, vb 255), (6, vi F)] _ from ?_)
     refine sq (sq (rg (wY (ym z) z (wY (ym z) z (wY (Y.conv_bi ty5.u ty3.u z) z (wY (Y.leq_i z z) z (nl (th ?_))))))))
     rcases cnd h with ⟨aG, h⟩ | ⟨aG, h⟩
     ·refine WC.condT' z aG (sk (th (sq (WC.block (rg (wY (ym z) z (wY (ym z) z (wY (Y.conv_ib ty3.u ty5.u z) z ?_))))))))
      obtain ⟨cW, h, a6⟩ := bnd h
      refine WL.callJ (vals := [pt H 1, vb (toU8 F)]) (σ := (UInt64 × UInt64 × UInt64 × UInt64 × Own)) (fun x w' => (x.1, x.2.1, x.2.2.1, x.2.2.2.1) = cW ∧ Stp [13] aI cV x.2.2.2.2 w' ∧ Blk 13 x.2.2.2.2 w' H 100 [vi 0, vu x.1, vu x.2.1, vu x.2.2.1, vu x.2.2.2.1, vB false, vb 0]) (fun x => tp []) kok90 z z ?_ ?_
      ·refine Rets.enter Tryd.func90 z z ?_
       refine (show WC _ _ _ _ [(0, pt H 1), (1, vb (toU8 F))] _ from ?_)
       refine WC.draw 13 aI fmix (by kernel_rfl) ?_
       intro dn au
       refine WS.y (ym z) z (WS.y (ym z) z (WS.y (Y.quo_b (b := 64) (by decide) z z) z (WS.y (yn z) z ?_)))
       obtain ⟨dQ, aJ, h⟩ := bnd h
       have aK := idx_in aJ
       refine WS.y (Y.indexAddrA ty98 ty34 z z aK.1 aK.2) z ?_
       have aL := aF.st au z
       refine WS.y (yl ty34 z z (CellsAt.idxU (xs := ([Z, aa, ab, ac] : List UInt64)) (aL.cells 1 [vu Z, vu aa, vu ab, vu ac] z) aJ)) z (WS.y (ym z) z (WS.y (Y.rem_b (b := 64) (by decide) z z) z (WS.y (Y.conv_bu ty5.u ty143.u z) z (WS.y (Y.shl_uu (a := 1) z z) z (WS.y (Y.or_u z z) z (WS.y (yn z) z ?_))))))
       obtain ⟨dR, aM, h⟩ := bnd h
       have aN := idx_in aM
       refine WS.y (Y.indexAddrA ty98 ty34 z z aN.1 aN.2) z (WS.tail ?_)
       obtain ⟨D, a7, h⟩ := lt1 h
       refine WL.ren 14 z (congrArg vu a7.symm) (WL.store4 (xs := ([Z, aa, ab, ac] : List UInt64)) (off := 1) (v := D) (fun i => [vi 0, vu (up4 i 0 D Z), vu (up4 i 1 D aa), vu (up4 i 2 D ab), vu (up4 i 3 D ac), vB false, vb 0]) ty34 z z aM z aL (le_ z) z z z z ?_)
       intro dp aU ao
       replace ao : Blk _ _ _ _ _ [vi 0, vu (up4 (((toU8 F) / 64).toNat : Int) 0 D Z), vu (up4 (((toU8 F) / 64).toNat : Int) 1 D aa), vu (up4 (((toU8 F) / 64).toNat : Int) 2 D ab), vu (up4 (((toU8 F) / 64).toNat : Int) 3 D ac), vB false, vb 0] := ao
       refine nl ?_
       exact At.res (.inr z) z .nil ⟨((up4 (((toU8 F) / 64).toNat : Int) 0 D Z), (up4 (((toU8 F) / 64).toNat : Int) 1 D aa), (up4 (((toU8 F) / 64).toNat : Int) 2 D ab), (up4 (((toU8 F) / 64).toNat : Int) 3 D ac), aI), ⟨some1 h, (tr_ (su_ au z) (su_ aU z)), ao⟩, z⟩
      ·rintro ⟨dd, de, df, dg, dh⟩ dr ⟨rfl, av, aW⟩
       replace h := a6
       try dsimp only at h av aW
       refine (show WL _ _ _ _ _ ((18, tp []) :: _) _ from ?_)
       refine nl (At.inBlock (th (rg (wY (ym z) z (wY (Y.add_i z z) z ?_)))))
       obtain ⟨cX, a8, h⟩ := lt1 h
       refine WL.yE (ya z) (congrArg vi a8.symm) z (nl ?_)
       exact At.round (dd, de, df, dg, cX, dh) dc (Nat.lt_succ_self _) ⟨next1 h aT, (tr_ (su_ an z) (su_ av z)), aW⟩ (.cons z (.cons z (.cons z .nil)))
     ·refine WC.condF' z aG (WC.exit (At.thenX (At.loopX ?_)))
      exact At.hitB (σ := (UInt64 × UInt64 × UInt64 × UInt64 × Own)) (Z, aa, ab, ac, aI) ⟨brk1 h aT, (su_ an z), aF⟩ .nil
    ·rintro ⟨di, dj, dk, dl, dm⟩ dS ⟨rfl, aO, aX⟩
     replace h := flowK_go cU
     try dsimp only at h aO aX
     refine (show At _ _ _ [] _ from ?_)
     refine At.inBlockHit ?_
     exact At.res (.inr z) z .nil ⟨(di, dj, dk, dl, dm), ⟨some1 h, (su_ aO z), aX⟩, z⟩
   ·rintro ⟨aP, aQ, aR, aS, cz⟩ dT ⟨rfl, J, aY⟩
    replace h := cS
    try dsimp only at h J aY
    refine (show WL _ _ _ _ _ ((18, tp []) :: _) _ from ?_)
    refine nl (th (sq (WC.drawH [11] [0, 1, 2, 3] cz 5 fmix z (by kernel_rfl) ?_)))
    intro ds G
    refine WD.y 0 z (by kernel_rfl) (fun dt dU aZ => have a9 := aY.st G z; have ba := a9.st aZ z; yL ty100 z z (ba.cells 0 [vi 0, vu aP, vu aQ, vu aR, vu aS, vB false, vb 0] z) z) z (WD.y 1 z (by kernel_rfl) (fun du dV a2 => have bb := X.st t z; have bc := bb.st j z; have bd := bc.st W z; have bf := bd.st J z; have bg := bf.st G z; have bh := bg.st a2 z; yL ty102 z z bh.at_ z) z (WD.heavy 2 z (by kernel_rfl) ?_))
    have bl := (((S.st j z).st W z).st J z).st G z
    refine WL.store (v := ag [vi 0, vu aP, vu aQ, vu aR, vu aS, vB false, vb 0]) (cells' := [vi 0, vu aP, vu aQ, vu aR, vu aS, vB false, vb 0]) ty100 z z bl z (le_ z) z z ?_
    intro dw ad bm
    refine nl (At.dq (su_ ad z) (WD.y 3 z (by kernel_rfl) (fun _ _ _ => ya z) z (WD.phase [12] [0, 1, 2, 3, 4] (by kernel_rfl) (by kernel_rfl) (WD.heavy 4 z (by kernel_rfl) ?_))))
    have bq := (((T.st W z).st J z).st G z).st ad z
    refine WL.store (v := ag [vi 0, vi 0]) (cells' := [vi 0, vi 0]) ty102 z z bq z (le_ z) z z ?_
    intro br ae bs
    refine nl (At.dq (su_ ae z) (WD.done_ (by kernel_rfl) (th (rt (At.inBlockR (At.thenR ?_))))))
    obtain ⟨rfl, rfl, rfl⟩ := tup3 h
    have bt : Stp [11, 12, 13] (Lg.O0 A) w cz br := (tr_ (su_ t z) (tr_ (su_ j z) (tr_ (su_ W z) (tr_ (su_ J z) (tr_ (su_ G z) (tr_ (su_ ad z) (su_ ae z)))))))
    have bu := bm.st ae z
    exact At.res (.inl z) z (.cell z (bu.runAg 0 [vi 0, vu aP, vu aQ, vu aR, vu aS, vB false, vb 0] ty100 z z z) (.tmp z (.cell z (bs.runAg 0 [vi 0, vi 0] ty102 z z z) .nil))) ⟨z, (se_ bt z z)⟩
  ·refine WC.condF' z aD (sq (rg (wY (Y.eql_b (b := 91) z z) z ?_)))
   obtain ⟨dW, bw, h⟩ := lt1 h
   refine WL.yE (ya z) (congrArg vB bw.symm) z (nl (th ?_))
   rcases cnd h with ⟨ap, h⟩ | ⟨ap, h⟩
   ·refine WC.condT' z ap (sq (rg (wY (ym z) z (wY (ym z) z ?_))))
    have bz := (X.st t z).st j z
    obtain ⟨⟨m, dX, U⟩, bA, h⟩ := bnd h
    refine WL.call (vals := [vs a0, vi a1]) kok70 z z (c_glob_class (A := fun _ => True) bz.at_ trivial bA) ?_
    rintro dx dy ⟨rfl, bB⟩
    obtain ⟨cY, c3, c4, af⟩ := adoptE I (fun k => 1) bB
    refine wY (yx z z) z (wY (yx z z) z (wY (yx z z) z ?_))
    have bD := (S.st j z).st af z
    refine WL.store (v := ag [vi m.kind, vu m.set.a0, vu m.set.a1, vu m.set.a2, vu m.set.a3, vB m.plain, vb m.c]) (cells' := [vi m.kind, vu m.set.a0, vu m.set.a1, vu m.set.a2, vu m.set.a3, vB m.plain, vb m.c]) ty100 z z bD z (le_ z) z z ?_
    intro dz ax bE
    refine wY (ya z) z ?_
    have bG := (T.st af z).st ax z
    refine WL.store (v := ag [vi U.at_, vi U.e]) (cells' := [vi U.at_, vi U.e]) ty102 z z bG z (le_ z) z z ?_
    intro bH ay bI
    refine nl (th (rt (At.inBlockR (At.thenR ?_))))
    obtain ⟨rfl, rfl, rfl⟩ := tup3 h
    have bJ : Stp [11, 12] (Lg.O0 A) w cY bH := (tr_ (su_ t z) (tr_ (su_ j z) (tr_ (su_ af z) (tr_ (su_ ax z) (su_ ay z)))))
    have bK := bE.st ay z
    exact At.res (.inl z) z (.cell z (bK.runAg 0 [vi m.kind, vu m.set.a0, vu m.set.a1, vu m.set.a2, vu m.set.a3, vB m.plain, vb m.c] ty100 z z z) (.tmp z (.cell z (bI.runAg 0 [vi U.at_, vi U.e] ty102 z z z) .nil))) ⟨z, (se_ bJ z z)⟩
   ·refine WC.condF' z ap (sq (rg (wY (Y.eql_b (b := 92) z z) z ?_)))
    obtain ⟨dY, bL, h⟩ := lt1 h
    refine WL.yE (ya z) (congrArg vB bL.symm) z (nl (th ?_))
    rcases cnd h with ⟨aq, h⟩ | ⟨aq, h⟩
    ·refine WC.condT' z aq (sq (sq (rg (wY (ym z) z (wY (Y.add_i z z) z (wY (ym z) z (wY (Y.len_s ty9 z) z (wY (Y.eql_i z z) z (nl ?_)))))))))
     refine th ?_
     rcases cnd h with ⟨ar, h⟩ | ⟨ar, h⟩
     ·refine WC.condT' z ar (sq (rg (wY (yb (vals := []) (cells := [vi 0, vu 0, vu 0, vu 0, vu 0, vB false, vb 0]) (fe_ z) (by kernel_rfl)) z (wY (ym z) z (wY (yb (vals := [(0, vi a1), (1, vi 2)]) (cells := [vi a1, vi 2]) (fe_ z) (by kernel_rfl)) z ?_)))))
      have bM := S.st j z
      refine WL.store (v := ag [vi 0, vu 0, vu 0, vu 0, vu 0, vB false, vb 0]) (cells' := [vi 0, vu 0, vu 0, vu 0, vu 0, vB false, vb 0]) ty100 z z bM z (le_ z) z z ?_
      intro dA az bO
      refine wY (ya z) z ?_
      have bP := T.st az z
      refine WL.store (v := ag [vi a1, vi 2]) (cells' := [vi a1, vi 2]) ty102 z z bP z (le_ z) z z ?_
      intro bQ aA bR
      refine nl (th (rt (At.thenR (At.inBlockR (At.thenR ?_)))))
      obtain ⟨rfl, rfl, rfl⟩ := tup3 h
      have bS : Stp [11, 12] (Lg.O0 A) w I bQ := (tr_ (su_ t z) (tr_ (su_ j z) (tr_ (su_ az z) (su_ aA z))))
      have bT := bO.st aA z
      exact At.res (.inl z) z (.cell z (bT.runAg 0 [vi 0, vu 0, vu 0, vu 0, vu 0, vB false, vb 0] ty100 z z z) (.tmp z (.cell z (bR.runAg 0 [vi a1, vi 2] ty102 z z z) .nil))) ⟨z, (se_ bS z z)⟩
     ·refine WC.condF' z ar (sk (th (sq (WC.drawH [11] [0, 1, 2, 3, 4, 5, 6, 7] I 9 fmix z (by kernel_rfl) ?_))))
      intro dB K
      refine WD.y 0 z (by kernel_rfl) (fun _ _ _ => ym z) z (WD.y 1 z (by kernel_rfl) (fun _ _ _ => ym z) z (WD.y 2 z (by kernel_rfl) (fun _ _ _ => Y.add_i z z) z ?_))
      obtain ⟨cZ, bU, h⟩ := bnd h
      refine WD.y 3 z (by kernel_rfl) (fun _ _ _ => Y.index_s ty9 z z bU) z (WD.y 5 z (by kernel_rfl) (fun dC dZ a3 => have bW := X.st t z; have bX := bW.st j z; have bY := bX.st K z; have bZ := bY.st a3 z; yL ty102 z z bZ.at_ z) z (WD.heavy 4 z (by kernel_rfl) ?_))
      obtain ⟨o, b0, h⟩ := bnd h
      refine WL.call (vals := [vb cZ]) kok71 z z (c_glob_byteOf b0) ?_
      rintro dD dE ⟨rfl, b1⟩
      obtain ⟨c0, c5, c6, M⟩ := adoptE I (fun k => 1) b1
      refine nl (At.dq (su_ M z) (WD.heavy 6 z (by kernel_rfl) ?_))
      have b4 := ((S.st j z).st K z).st M z
      refine WL.store (v := ag [vi o.kind, vu o.set.a0, vu o.set.a1, vu o.set.a2, vu o.set.a3, vB o.plain, vb o.c]) (cells' := [vi o.kind, vu o.set.a0, vu o.set.a1, vu o.set.a2, vu o.set.a3, vB o.plain, vb o.c]) ty100 z z b4 z (le_ z) z z ?_
      intro dF ah b5
      refine nl (At.dq (su_ ah z) (WD.y 7 z (by kernel_rfl) (fun _ _ _ => ya z) z (WD.phase [12] [0, 1, 2, 3, 4, 5, 6, 7, 8] (by kernel_rfl) (by kernel_rfl) (WD.heavy 8 z (by kernel_rfl) ?_))))
      have b8 := ((T.st K z).st M z).st ah z
      refine WL.store (v := ag [vi 0, vi 0]) (cells' := [vi 0, vi 0]) ty102 z z b8 z (le_ z) z z ?_
      intro b9 ai ca
      refine nl (At.dq (su_ ai z) (WD.done_ (by kernel_rfl) (th (rt (At.inBlockR (At.thenR ?_))))))
      obtain ⟨rfl, rfl, rfl⟩ := tup3 h
      have cb : Stp [11, 12] (Lg.O0 A) w c0 b9 := (tr_ (su_ t z) (tr_ (su_ j z) (tr_ (su_ K z) (tr_ (su_ M z) (tr_ (su_ ah z) (su_ ai z))))))
      have cc := b5.st ai z
      exact At.res (.inl z) z (.cell z (cc.runAg 0 [vi o.kind, vu o.set.a0, vu o.set.a1, vu o.set.a2, vu o.set.a3, vB o.plain, vb o.c] ty100 z z z) (.tmp z (.cell z (ca.runAg 0 [vi 0, vi 0] ty102 z z z) .nil))) ⟨z, (se_ cb z z)⟩
    ·refine WC.condF' z aq (sk (At.inBlock (th (sq (WC.drawH [11] [0, 1, 2, 3, 4, 5, 6] I 8 fmix z (by kernel_rfl) ?_)))))
     intro dG P
     refine WD.y 0 z (by kernel_rfl) (fun _ _ _ => ym z) z (WD.y 1 z (by kernel_rfl) (fun _ _ _ => ym z) z ?_)
     obtain ⟨c1, cd, h⟩ := bnd h
     refine WD.y 2 z (by kernel_rfl) (fun _ _ _ => Y.index_s ty9 z z cd) z (WD.y 4 z (by kernel_rfl) (fun dH d0 a4 => have ce := X.st t z; have cf := ce.st j z; have cg := cf.st P z; have ch := cg.st a4 z; yL ty102 z z ch.at_ z) z (WD.heavy 3 z (by kernel_rfl) ?_))
     obtain ⟨r, ci, h⟩ := bnd h
     refine WL.call (vals := [vb c1]) kok71 z z (c_glob_byteOf ci) ?_
     rintro dI dJ ⟨rfl, cj⟩
     obtain ⟨c2, c7, c8, Q⟩ := adoptE I (fun k => 1) cj
     refine nl (At.dq (su_ Q z) (WD.heavy 5 z (by kernel_rfl) ?_))
     have cm := ((S.st j z).st P z).st Q z
     refine WL.store (v := ag [vi r.kind, vu r.set.a0, vu r.set.a1, vu r.set.a2, vu r.set.a3, vB r.plain, vb r.c]) (cells' := [vi r.kind, vu r.set.a0, vu r.set.a1, vu r.set.a2, vu r.set.a3, vB r.plain, vb r.c]) ty100 z z cm z (le_ z) z z ?_
     intro dK aj cn
     refine nl (At.dq (su_ aj z) (WD.y 6 z (by kernel_rfl) (fun _ _ _ => ya z) z (WD.phase [12] [0, 1, 2, 3, 4, 5, 6, 7] (by kernel_rfl) (by kernel_rfl) (WD.heavy 7 z (by kernel_rfl) ?_))))
     have cr := ((T.st P z).st Q z).st aj z
     refine WL.store (v := ag [vi 0, vi 0]) (cells' := [vi 0, vi 0]) ty102 z z cr z (le_ z) z z ?_
     intro cs ak ct
     refine nl (At.dq (su_ ak z) (WD.done_ (by kernel_rfl) (th (rt ?_))))
     obtain ⟨rfl, rfl, rfl⟩ := tup3 h
     have cu : Stp [11, 12] (Lg.O0 A) w c2 cs := (tr_ (su_ t z) (tr_ (su_ j z) (tr_ (su_ P z) (tr_ (su_ Q z) (tr_ (su_ aj z) (su_ ak z))))))
     have cw := cn.st ak z
     exact At.res (.inl z) z (.cell z (cw.runAg 0 [vi r.kind, vu r.set.a0, vu r.set.a1, vu r.set.a2, vu r.set.a3, vB r.plain, vb r.c] ty100 z z z) (.tmp z (.cell z (ct.runAg 0 [vi 0, vi 0] ty102 z z z) .nil))) ⟨z, (se_ cu z z)⟩
theorem c_glob_Compile {A : Nat → Prop} {a0 : List UInt8} {w : World} (hG0 : CellsAt w 0 0 [vi 0, vi 0]) (hGA0 : A 0) {r0 : Option glob_Glob} {r1 : Int} {r2 : Int} (h : glob_Compile a0 = some (r0, r1, r2)) : Rets Tryd.prog 26 [vs a0] w (fun v w' => ∃ (u0 : Value), v = tp [u0, vi r1, vi r2] ∧ Ext w w' ∧ OptP u0 r0 fun d => ∃ (p0 : Nat) (ak : Value), u0 = .pointer (some ⟨p0, 0, none⟩) ∧ (w'.heap[p0]? = some (.cells (List.toArray [vs d.text, ak]) 96 (0, 0)) ∧ w.heap.size ≤ p0) ∧ Sl rep_glob_piece w' (fun k => w.heap.size ≤ k ∧ k ≠ p0) ak d.pieces) := by
 unfold glob_Compile at h
 refine Rets.enter Tryd.func26 z z ?_
 have bf : CAt [0, 1] (Lg.O0 A) w 0 0 [vi 0, vi 0] := CAt.glob hG0 (if_pos hGA0)
 refine (show WC _ _ _ _ [(0, vs a0)] _ from ?_)
 refine sq (rg (wY (ya z) z (wY (ya z) z (wY (ya z) z (nl (th (sq (sq (rg ?_)))))))))
 refine wY (ym z) z (wY (Y.len_s ty9 z) z (wY (Y.gtr_i z z) z (nl (th ?_))))
 rcases cnd h with ⟨V, h⟩ | ⟨V, h⟩
 ·refine WC.condT' z V (sq (rg (wY (ya z) z (wY (ya z) z (wY (ya z) z (nl (th (rt (At.thenR ?_)))))))))
  obtain ⟨rfl, rfl, rfl⟩ := tup3 h
  have bg : Stp [] (Lg.O0 A) w (Lg.O0 A) w := (sr_ _ _ _)
  exact At.res (.inl z) z (.tmp z (.tmp z (.tmp z .nil))) ⟨Value.pointer none, z, (se_ bg z z), z⟩
 ·refine WC.condF' z V (sk (th (sq (rg (wY (ym z) z (wY (yb (vals := [(0, vs a0)]) (cells := [vs a0, sn]) (fe_ z) (by kernel_rfl)) z (WL.box (O := (Lg.O0 A)) 11 [vs a0, sn] z z z ?_)))))))
  intro I al am P bh
  refine wY (ya z) z (nl (th (sq (sq (rg (wY (ya z) z (nl (th (WC.block ?_)))))))))
  obtain ⟨ba, h, an⟩ := flow1 h
  obtain ⟨bb, h⟩ := loop_some h
  refine WC.joinB 0 (σ := (List glob_piece × Own × Value)) (fun x w' => ba = .go x.1 ∧ Stp [11, 12, 13, 15, 1001] al am x.2.1 w' ∧ OwnSl 1002 rep_glob_piece 100 x.2.1 w' x.2.2 x.1 ∧ Blk 11 x.2.1 w' I 96 [vs a0, x.2.2]) (fun x => [(2, pt I 0)]) ?_ ?_
  ·refine WC.loop (σ := (List glob_piece × Int × Own × Value)) (fun x k w' => loopN k (glob_Compile_lp1 a0) (x.1, x.2.1) = some ba ∧ Stp [11, 12, 13, 15, 1001] al am x.2.2.1 w' ∧ OwnSl 1001 rep_glob_piece 100 x.2.2.1 w' x.2.2.2 x.1 ∧ Blk 11 x.2.2.1 w' I 96 [vs a0, x.2.2.2]) (fun x => [(0, vs a0), (2, pt I 0), (5, vi x.2.1)]) ([], 0, al, sn) bb (.cons z (.cons z (.cons z .nil))) ⟨h, (sr_ _ _ _), (OwnSl.nil 1001 rep_glob_piece 100), bh⟩ ?_
   rintro ⟨bF, bc, bG, bH⟩ bb bT ⟨h, F, W, Q⟩
   obtain ⟨bI, b7, rfl, h, X⟩ := rnd1 h
   unfold glob_Compile_lp1 at h
   try dsimp only at h F W Q
   refine (show WC _ _ _ _ [(0, vs a0), (2, pt I 0), (5, vi bc)] _ from ?_)
   refine sq (sq (rg (wY (ym z) z (wY (ym z) z (wY (Y.len_s ty9 z) z (wY (Y.lss_i z z) z (nl (th ?_))))))))
   rcases cnd h with ⟨Z, h⟩ | ⟨Z, h⟩
   ·refine WC.condT' z Z (sk (th (WC.block (sq (rg (wY (ym z) z (wY (ym z) z ?_)))))))
    have ao := (bf.st P z).st F z
    obtain ⟨⟨j, b8, J⟩, bj, h⟩ := bnd h
    refine WL.call (vals := [vs a0, vi bc]) kok48 z z (c_glob_next (A := fun _ => True) ao.at_ trivial bj) ?_
    rintro bU bW ⟨rfl, bk⟩
    obtain ⟨bJ, bK, bL, t⟩ := adoptE bG (fun k => 1) bk
    refine wY (ym z) z (wY (yx z z) z (wY (yx z z) z (wY (yx z z) z (WL.alloc (O := bJ) 12 [vi 0, vu 0, vu 0, vu 0, vu 0, vB false, vb 0] ty100 z z ?_))))
    intro b9 bM bX D bl
    refine WL.alloc (O := bM) 13 [vi 0, vi 0] ty102 z z ?_
    intro ca ae bY m bm
    have bn := bl.st m z
    refine WL.store (v := ag [vi j.kind, vu j.set.a0, vu j.set.a1, vu j.set.a2, vu j.set.a3, vB j.plain, vb j.c]) (cells' := [vi j.kind, vu j.set.a0, vu j.set.a1, vu j.set.a2, vu j.set.a3, vB j.plain, vb j.c]) ty100 z z bn z (le_ z) z z ?_
    intro bZ o bo
    refine wY (ya z) z ?_
    have bp := bm.st o z
    refine WL.store (v := ag [vi J.at_, vi J.e]) (cells' := [vi J.at_, vi J.e]) ty102 z z bp z (le_ z) z z ?_
    intro b0 r ap
    refine nl (th (sq (sq (rg (wY (yL ty102 z z (ap.cells 0 [vi J.at_, vi J.e] z) z) z ?_)))))
    have bu := ((((ao.st t z).st D z).st m z).st o z).st r z
    refine wY (yL ty102 z z bu.at_ z) z (wY (Y.neq_ag agok102 z z (EqF.cons (by decide) (fun w => run_part_plain w (by kernel_rfl) z) (fun w => run_part_plain w (by kernel_rfl) z) (EqV.i (a := J.at_) (b := 0) ty3.u) (EqF.cons (by decide) (fun w => run_part_plain w (by kernel_rfl) z) (fun w => run_part_plain w (by kernel_rfl) z) (EqV.i (a := J.e) (b := 0) ty25.u) EqF.nil))) z (nl (th ?_)))
    rcases cnd h with ⟨aa, h⟩ | ⟨aa, h⟩
    ·refine WC.condT' z aa (sq (WC.draw 6 ae fmix (by kernel_rfl) ?_))
     intro bw af
     refine WS.y (yf fo102_0 z) z ?_
     have aq := ap.st af z
     refine WS.y (yl ty3 z z (aq.cell 0 _ z)) z (WS.y (yf fo102_1 z) z (WS.y (yl ty25 z z (aq.cell 1 _ z)) z (WS.y (ya z) z (WS.y (ya z) z (WS.tail (wY (ya z) z (nl (th (rt ?_)))))))))
     refine At.thenR (At.inBlockR (At.loopR ?_))
     have h := outr1 h X an
     refine At.joinBR (At.inBlockR (At.thenR ?_))
     obtain ⟨rfl, rfl, rfl⟩ := tup3 h
     have bx : Stp [11, 12, 13, 15, 1001] (Lg.O0 A) w ae bw := (tr_ (su_ P z) (tr_ (su_ F z) (tr_ (su_ t z) (tr_ (su_ D z) (tr_ (su_ m z) (tr_ (su_ o z) (tr_ (su_ r z) (su_ af z))))))))
     exact At.res (.inl z) z (.tmp z (.tmp z (.tmp z .nil))) ⟨Value.pointer none, z, (se_ bx z z), z⟩
    ·refine WC.condF' z aa (sk (th (sq (WC.drawH [1001] [0, 1, 2, 3, 4, 5, 6, 7, 8, 9] ae 11 fmix z (by kernel_rfl) ?_))))
     intro b1 G
     refine WD.y 0 z (by kernel_rfl) (fun _ _ _ => ym z) z (WD.y 1 z (by kernel_rfl) (fun _ _ _ => ym z) z (WD.y 2 z (by kernel_rfl) (fun _ _ _ => yn z) z (WD.y 3 z (by kernel_rfl) (fun _ _ _ => yf fo96_1 z) z (WD.y 4 z (by kernel_rfl) (fun b2 cb az => have bz := Q.st t z; have aA := bz.st D z; have aC := aA.st m z; have aD := aC.st o z; have aE := aD.st r z; have aF := aE.st G z; have aG := aF.st az z; yl ty94 z z (aG.cell 1 _ z)) z (WD.y 5 z (by kernel_rfl) (fun bP b3 ar => have aH := bo.st r z; have aI := aH.st G z; have aJ := aI.st ar z; yL ty100 z z (aJ.cells 0 [vi j.kind, vu j.set.a0, vu j.set.a1, vu j.set.a2, vu j.set.a3, vB j.plain, vb j.c] z) z) z (WD.heavy 6 z (by kernel_rfl) (WL.buildSlice (O := ae) (R := rep_glob_piece) (vals := [(0, ag [vi j.kind, vu j.set.a0, vu j.set.a1, vu j.set.a2, vu j.set.a3, vB j.plain, vb j.c])]) 14 [vi j.kind, vu j.set.a0, vu j.set.a1, vu j.set.a2, vu j.set.a3, vB j.plain, vb j.c] (xs := [j]) (by decide) ty94 ty100 (by decide) (by decide) (fe_ z) (by kernel_rfl) z ⟨[vi j.kind, vu j.set.a0, vu j.set.a1, vu j.set.a2, vu j.set.a3, vB j.plain, vb j.c], [], z, ⟨[vi j.kind], [vu j.set.a0, vu j.set.a1, vu j.set.a2, vu j.set.a3, vB j.plain, vb j.c], z, z, ⟨[vu j.set.a0, vu j.set.a1, vu j.set.a2, vu j.set.a3], [vB j.plain, vb j.c], z, ⟨[vu j.set.a0], [vu j.set.a1, vu j.set.a2, vu j.set.a3], z, z, ⟨[vu j.set.a1], [vu j.set.a2, vu j.set.a3], z, z, ⟨[vu j.set.a2], [vu j.set.a3], z, z, z⟩⟩⟩, ⟨[vB j.plain], [vb j.c], z, z, z⟩⟩⟩, z⟩ z ?_)))))))
     intro b4 b5 bQ H aK
     refine nl (At.dq (su_ H z) (WD.heavy 7 z (by kernel_rfl) ?_))
     obtain ⟨aL, au, h⟩ := bnd h
     have aS := ((((((W.st t z z z).st D z z z).st m z z z).st o z z z).st r z z z).st G z z z).st H z z z
     refine WL.append (by decide) ty94 ty100 z (by decide) z z aS aK.src au z ?_
     intro b6 bA bR K ah
     refine nl (At.dq (su_ K z) (WD.y 8 z (by kernel_rfl) (fun _ _ _ => yn z) z (WD.y 9 z (by kernel_rfl) (fun _ _ _ => yf fo96_1 z) z (WD.phase [11] [0, 1, 2, 3, 4, 5, 6, 7, 8, 9, 10] (by kernel_rfl) (by kernel_rfl) (WD.heavy 10 z (by kernel_rfl) ?_)))))
     have aT := h
     obtain ⟨ab, ac, ad, rfl⟩ := ah.shape
     have h := aT
     have a1 := (((((Q.st t z).st D z).st m z).st o z).st r z).st G z
     have a2 := a1.st H z
     have a3 := a2.st K z
     refine WL.store (v := (vl ab ac ad)) (cells' := [vs a0, (vl ab ac ad)]) ty94 z z a3 z (le_ z) z z ?_
     intro bS M a4
     refine nl (At.dq (su_ M z) (WD.done_ (by kernel_rfl) (th (rg (wY (ym z) z (wY (ym z) z (wY (Y.add_i z z) z ?_)))))))
     obtain ⟨bB, a5, h⟩ := lt1 h
     refine WL.yE (ya z) (congrArg vi a5.symm) z (nl (At.inBlock ?_))
     have a6 := ah.st M z z z
     exact At.round (aL, bB, bA, (vl ab ac ad)) bI (Nat.lt_succ_self _) ⟨next1 h X, (tr_ (su_ F z) (tr_ (su_ t z) (tr_ (su_ D z) (tr_ (su_ m z) (tr_ (su_ o z) (tr_ (su_ r z) (tr_ (su_ G z) (tr_ (su_ H z) (tr_ (su_ K z) (su_ M z)))))))))), a6, a4⟩ (.cons z (.cons z (.cons z .nil)))
   ·refine WC.condF' z Z (WC.exit (At.thenX (At.loopX ?_)))
    obtain ⟨bC, T, a7⟩ := OwnSl.rlb 1002 rfl W
    have a8 := Q.st T z
    exact At.hitB (σ := (List glob_piece × Own × Value)) (bF, bC, bH) ⟨brk1 h X, (tr_ (su_ F z) (su_ T z)), a7, a8⟩ (.cons z .nil)
  ·rintro ⟨cc, cd, bO⟩ bD ⟨rfl, ai, av, ax⟩
   replace h := flowK_go an
   try dsimp only at h ai av ax
   refine (show At _ _ _ [(2, pt I 0)] _ from ?_)
   refine At.inBlockHit (th (sq (rg (wY (ym z) z (wY (ya z) z (wY (ya z) z (wY (ya z) z (nl (th ?_)))))))))
   refine rt ?_
   obtain ⟨rfl, rfl, rfl⟩ := tup3 h
   obtain ⟨bE, U, a9⟩ := OwnSl.giveF rfl flat_glob_piece av
   have S : Stp [11, 12, 13, 15, 1001, 1002] (Lg.O0 A) w bE bD := (tr_ (su_ P z) (tr_ (su_ ai z) (su_ U z)))
   have aj := ax.st U z
   exact At.res (.inl z) z (.tmp z (.tmp z (.tmp z .nil))) ⟨pt I 0, z, (se_ S z z), ⟨I, bO, z, (Blk.outF aj S low0 z), (Sl.outFN a9 S low0 aj.lab z)⟩⟩
theorem c_label_small {a0 : UInt8} {w : World} {r0 : Bool} (h : label_small a0 = some r0) : Rets Tryd.prog 93 [vb a0] w (fun v w' => v = vB r0 ∧ Ext w w') := by
 unfold label_small at h
 refine Rets.enter Tryd.func93 z z ?_
 refine (show WC _ _ _ _ [(0, vb a0)] _ from ?_)
 refine sq (rg (wY (ya z) z (nl (th (sq (rg (wY (ym z) z (wY (Y.geq_b (b := 97) z z) z (wY (ym z) z ?_)))))))))
 refine WL.cut 3 (σ := Unit) (fun _ w' => w = w') (fun _ => [(8, vB ((decide (97 ≤ a0)) && (decide (a0 ≤ 122))))]) ?_ ?_
 ·refine WL.part 5 z (fun j => ?_) (fun j => ?_)
  ·refine ug z z (wY (ym z) z (ug z z (wY (Y.leq_b (b := 122) z z) z (wY (Y.pick (b := true) z z) z (WL.ren (v' := vB ((decide (97 ≤ a0)) && (decide (a0 ≤ 122)))) 8 z (congrArg vB (andT j)) ?_)))))
   exact nl (At.join () z (.cons z .nil))
  ·refine WL.gS z z z z (WL.gS z z z z (wY (Y.pick (b := false) z z) z (WL.ren (v' := vB ((decide (97 ≤ a0)) && (decide (a0 ≤ 122)))) 8 z (congrArg vB (andF j)) ?_)))
   exact nl (At.join () z (.cons z .nil))
 ·rintro _ _ rfl
  refine (show WL _ _ _ _ _ [(8, vB ((decide (97 ≤ a0)) && (decide (a0 ≤ 122))))] _ from ?_)
  obtain ⟨r, m, h⟩ := lt1 h
  refine WL.yE (ya z) (congrArg vB m.symm) z (nl (th (rt ?_)))
  obtain rfl := some1 h
  have o : Stp [] (Lg.O0 (fun _ => False)) w (Lg.O0 (fun _ => False)) w := (sr_ _ _ _)
  exact At.res (.inl z) z (.tmp z .nil) ⟨z, (se_ o z z)⟩
theorem c_label_isName {a0 : List UInt8} {w : World} {r0 : Bool} (h : label_isName a0 = some r0) : Rets Tryd.prog 72 [vs a0] w (fun v w' => v = vB r0 ∧ Ext w w') := by
 unfold label_isName at h
 refine Rets.enter Tryd.func72 z z ?_
 refine (show WC _ _ _ _ [(0, vs a0)] _ from ?_)
 refine sq (rg (wY (ya z) z (nl (th (sq (sq (rg (wY (ym z) z (wY (Y.eql_s (b := []) z z) z ?_)))))))))
 refine wY (ym z) z ?_
 refine WL.cut 4 (σ := Unit) (fun _ w' => w = w') (fun _ => [(0, vs a0), (11, vB ((decide (a0 = [])) || (decide (32 < (a0.length : Int)))))]) ?_ ?_
 ·refine WL.part 7 z (fun H => ?_) (fun H => ?_)
  ·refine WL.gS z z z z (WL.gS z z z z (WL.gS z z z z (wY (Y.pick (b := true) z z) z (WL.ren (v' := vB ((decide (a0 = [])) || (decide (32 < (a0.length : Int))))) 11 z (congrArg vB (orT H)) ?_))))
   exact nl (At.join () z (.cons z (.cons z .nil)))
  ·refine ug z z (wY (ym z) z (ug z z (wY (Y.len_s ty9 z) z (ug z z (wY (Y.gtr_i z z) z (wY (Y.pick (b := false) z z) z (WL.ren (v' := vB ((decide (a0 = [])) || (decide (32 < (a0.length : Int))))) 11 z (congrArg vB (orF H)) ?_)))))))
   exact nl (At.join () z (.cons z (.cons z .nil)))
 ·rintro _ _ rfl
  refine (show WL _ _ _ _ _ [(0, vs a0), (11, vB ((decide (a0 = [])) || (decide (32 < (a0.length : Int)))))] _ from ?_)
  refine wY (ym z) z ?_
  obtain ⟨aH, h, am⟩ := bnd h
  refine WL.cut 5 (σ := (Bool × Own)) (fun x w' => x.1 = aH ∧ Stp [] (Lg.O0 (fun _ => False)) w x.2 w') (fun x => [(0, vs a0), (17, vB x.1)]) ?_ ?_
  ·rcases cnd h with ⟨I, h⟩ | ⟨I, h⟩
   ·refine WL.ren 12 z (congrArg vB I) (WL.gS z z z z (WL.gS z z z z (WL.gS z z z z (WL.gS z z z z (wY (Y.pick (b := true) z z) z ?_)))))
    exact nl (At.join (σ := (Bool × Own)) (true, (Lg.O0 (fun _ => False))) ⟨some1 h, (sr_ _ _ _)⟩ (.cons z (.cons z .nil)))
   ·refine WL.ren 12 z (congrArg vB I) (ug z z (wY (ym z) z (ug z z ?_)))
    obtain ⟨aI, an, h⟩ := bnd h
    refine wY (Y.index_s ty9 z z an) z (ug z z ?_)
    obtain ⟨aJ, ao, h⟩ := bnd h
    refine WL.call (vals := [vb aI]) kok93 z z (c_label_small ao) ?_
    rintro aU aW ⟨rfl, ap⟩
    obtain ⟨aK, aL, aM, ac⟩ := adoptE (Lg.O0 (fun _ => False)) (fun k => 1) ap
    refine ug z z (wY (Y.not z) z (wY (Y.pick (b := false) z z) z ?_))
    exact nl (At.join (σ := (Bool × Own)) ((!aJ), aK) ⟨some1 h, (su_ ac z)⟩ (.cons z (.cons z .nil)))
  ·rintro ⟨aN, ah⟩ aq ⟨rfl, D⟩
   replace h := am
   try dsimp only at h D
   refine (show WL _ _ _ _ _ [(0, vs a0), (17, vB aN)] _ from ?_)
   refine nl (th ?_)
   rcases cnd h with ⟨J, h⟩ | ⟨J, h⟩
   ·refine WC.condT' z J (sq (rg (wY (ya z) z (nl (th (rt (At.thenR ?_)))))))
    obtain rfl := some1 h
    have ar : Stp [] (Lg.O0 (fun _ => False)) w ah aq := (su_ D z)
    exact At.res (.inl z) z (.tmp z .nil) ⟨z, (se_ ar z z)⟩
   ·refine WC.condF' z J (sk (th (sq (sq (rg (wY (ym z) z (WL.s2b (O := ah) ty9 ty137 ty5 z z ?_)))))))
    intro o X Z V aa
    refine wY (Y.len ty137 z aa) z (wY (ym z) z (nl (th (WC.block ?_))))
    obtain ⟨ai, h, ab⟩ := flow1 h
    obtain ⟨aj, h⟩ := loop_some h
    refine WC.joinB 0 (σ := Own) (fun x w' => ai = .go () ∧ Stp [] X Z x w') (fun x => []) ?_ ?_
    ·refine WC.loop (σ := (Int × Own)) (fun x k w' => loopN k (label_isName_lp1 a0) x.1 = some ai ∧ Stp [] X Z x.2 w') (fun x => [(19, o), (20, vi (a0.length : Int)), (21, vi x.1)]) (0, X) aj (.cons z (.cons z (.cons z .nil))) ⟨h, (sr_ _ _ _)⟩ ?_
     rintro ⟨r, ak⟩ aj aX ⟨h, t⟩
     obtain ⟨aO, a1, rfl, h, K⟩ := rnd1 h
     unfold label_isName_lp1 at h
     try dsimp only at h t
     refine (show WC _ _ _ _ [(19, o), (20, vi (a0.length : Int)), (21, vi r)] _ from ?_)
     refine sq (rg (wY (Y.lss_i z z) z (nl (th (sq ?_)))))
     rcases cnd h with ⟨M, h⟩ | ⟨M, h⟩
     ·refine WC.condT' z M (sk (th (sq (WC.block (sq (rg ?_))))))
      obtain ⟨j, au, h⟩ := bnd h
      have av := aa.f t z
      obtain ⟨a2, aS, aT, aY, ax, ay, az, P, ad, aA⟩ := Sl.at2 av au
      obtain rfl := ad
      replace P : CellsAt _ _ _ [vb j] := P
      have ae := CAt.frs P aA
      refine wY (Y.indexAddr ty137 ty5 z ax z ay az) z (wY (yl ty5 z z ae.at_) z (wY (ya z) z (nl (th (sq (rg (wY (ym z) z ?_)))))))
      obtain ⟨m, aC, h⟩ := bnd h
      refine WL.call (vals := [vb j]) kok93 z z (c_label_small aC) ?_
      rintro aZ F ⟨rfl, aD⟩
      obtain ⟨al, aP, aQ, W⟩ := adoptE ak (fun k => 1) aD
      refine wY (Y.not z) z (wY (ym z) z ?_)
      refine WL.cut 7 (σ := Unit) (fun _ w' => F = w') (fun _ => [(4, vb j), (19, o), (20, vi (a0.length : Int)), (21, vi r), (35, vB ((!m) && ((decide (j < 48)) || (decide (57 < j)))))]) ?_ ?_
      ·refine WL.part 28 z (fun Q => ?_) (fun Q => ?_)
       ·refine ug z z (wY (ym z) z (ug z z (wY (Y.lss_b (b := 48) z z) z (ug z z (wY (ym z) z ?_)))))
        refine WL.cut 3 (σ := Unit) (fun _ w' => F = w') (fun _ => [(4, vb j), (19, o), (20, vi (a0.length : Int)), (21, vi r), (28, vB true), (29, vb j), (30, vB (decide (j < 48))), (31, vB (decide (j < 48))), (34, vB ((decide (j < 48)) || (decide (57 < j))))]) ?_ ?_
        ·refine WL.part 31 z (fun G => ?_) (fun G => ?_)
         ·refine WL.gS z z z z (WL.gS z z z z (ug z z (wY (Y.pick (b := true) z z) z (WL.ren (v' := vB ((decide (j < 48)) || (decide (57 < j)))) 34 z (congrArg vB (orT G)) (WL.ren 31 z (congrArg vB G.symm) ?_)))))
          exact nl (At.join () z (.cons z (.cons z (.cons z (.cons z (.cons z (.cons z (.cons z (.cons z (.cons z .nil))))))))))
         ·refine ug z z (wY (ym z) z (ug z z (wY (Y.gtr_b (b := 57) z z) z (ug z z (wY (Y.pick (b := false) z z) z (WL.ren (v' := vB ((decide (j < 48)) || (decide (57 < j)))) 34 z (congrArg vB (orF G)) (WL.ren 31 z (congrArg vB G.symm) ?_)))))))
          exact nl (At.join () z (.cons z (.cons z (.cons z (.cons z (.cons z (.cons z (.cons z (.cons z (.cons z .nil))))))))))
        ·rintro _ _ rfl
         refine (show WL _ _ _ _ _ [(4, vb j), (19, o), (20, vi (a0.length : Int)), (21, vi r), (28, vB true), (29, vb j), (30, vB (decide (j < 48))), (31, vB (decide (j < 48))), (34, vB ((decide (j < 48)) || (decide (57 < j))))] _ from ?_)
         refine wY (Y.pick (b := true) z z) z (WL.ren (v' := vB ((!m) && ((decide (j < 48)) || (decide (57 < j))))) 35 z (congrArg vB (andT Q)) ?_)
         exact nl (At.join () z (.cons z (.cons z (.cons z (.cons z (.cons z .nil))))))
       ·refine WL.gS z z z z (WL.gS z z z z (WL.gS z z z z (WL.gS z z z z (WL.gS z z z z (WL.gS z z z z (wY (Y.pick (b := false) z z) z (WL.ren (v' := vB ((!m) && ((decide (j < 48)) || (decide (57 < j))))) 35 z (congrArg vB (andF Q)) ?_)))))))
        exact nl (At.join () z (.cons z (.cons z (.cons z (.cons z (.cons z .nil))))))
      ·rintro _ _ rfl
       refine (show WL _ _ _ _ _ [(4, vb j), (19, o), (20, vi (a0.length : Int)), (21, vi r), (35, vB ((!m) && ((decide (j < 48)) || (decide (57 < j)))))] _ from ?_)
       refine wY (ym z) z ?_
       refine WL.cut 3 (σ := Unit) (fun _ w' => F = w') (fun _ => [(4, vb j), (19, o), (20, vi (a0.length : Int)), (21, vi r), (39, vB (((!m) && ((decide (j < 48)) || (decide (57 < j)))) && (!decide (j = 95))))]) ?_ ?_
       ·refine WL.part 36 z (fun S => ?_) (fun S => ?_)
        ·refine ug z z (wY (ym z) z (ug z z (wY (Y.neq_b (b := 95) z z) z (wY (Y.pick (b := true) z z) z (WL.ren (v' := vB (((!m) && ((decide (j < 48)) || (decide (57 < j)))) && (!decide (j = 95)))) 39 z (congrArg vB (andT S)) ?_)))))
         exact nl (At.join () z (.cons z (.cons z (.cons z (.cons z (.cons z .nil))))))
        ·refine WL.gS z z z z (WL.gS z z z z (wY (Y.pick (b := false) z z) z (WL.ren (v' := vB (((!m) && ((decide (j < 48)) || (decide (57 < j)))) && (!decide (j = 95)))) 39 z (congrArg vB (andF S)) ?_)))
         exact nl (At.join () z (.cons z (.cons z (.cons z (.cons z (.cons z .nil))))))
       ·rintro _ _ rfl
        refine (show WL _ _ _ _ _ [(4, vb j), (19, o), (20, vi (a0.length : Int)), (21, vi r), (39, vB (((!m) && ((decide (j < 48)) || (decide (57 < j)))) && (!decide (j = 95))))] _ from ?_)
        refine wY (ym z) z ?_
        refine WL.cut 3 (σ := Unit) (fun _ w' => F = w') (fun _ => [(19, o), (20, vi (a0.length : Int)), (21, vi r), (43, vB ((((!m) && ((decide (j < 48)) || (decide (57 < j)))) && (!decide (j = 95))) && (!decide (j = 46))))]) ?_ ?_
        ·refine WL.part 40 z (fun T => ?_) (fun T => ?_)
         ·refine ug z z (wY (ym z) z (ug z z (wY (Y.neq_b (b := 46) z z) z (wY (Y.pick (b := true) z z) z (WL.ren (v' := vB ((((!m) && ((decide (j < 48)) || (decide (57 < j)))) && (!decide (j = 95))) && (!decide (j = 46)))) 43 z (congrArg vB (andT T)) ?_)))))
          exact nl (At.join () z (.cons z (.cons z (.cons z (.cons z .nil)))))
         ·refine WL.gS z z z z (WL.gS z z z z (wY (Y.pick (b := false) z z) z (WL.ren (v' := vB ((((!m) && ((decide (j < 48)) || (decide (57 < j)))) && (!decide (j = 95))) && (!decide (j = 46)))) 43 z (congrArg vB (andF T)) ?_)))
          exact nl (At.join () z (.cons z (.cons z (.cons z (.cons z .nil)))))
        ·rintro _ _ rfl
         refine (show WL _ _ _ _ _ [(19, o), (20, vi (a0.length : Int)), (21, vi r), (43, vB ((((!m) && ((decide (j < 48)) || (decide (57 < j)))) && (!decide (j = 95))) && (!decide (j = 46))))] _ from ?_)
         refine nl (th ?_)
         rcases cnd h with ⟨U, h⟩ | ⟨U, h⟩
         ·refine WC.condT' z U (sq (rg (wY (ya z) z (nl (th (rt (At.inBlockR (At.thenR (At.loopR ?_)))))))))
          have h := outr1 h K ab
          refine At.joinBR (At.inBlockR (At.thenR ?_))
          obtain rfl := some1 h
          have aE : Stp [] (Lg.O0 (fun _ => False)) w al F := (tr_ (su_ D z) (tr_ (su_ V z) (tr_ (su_ t z) (su_ W z))))
          exact At.res (.inl z) z (.tmp z .nil) ⟨z, (se_ aE z z)⟩
         ·refine WC.condF' z U (sk (At.inBlock (th (rg (wY (Y.add_i z z) z (wY (ym z) z (nl ?_)))))))
          exact At.round (w64 (r + 1), al) aO (Nat.lt_succ_self _) ⟨next1 h K, (tr_ (su_ t z) (su_ W z))⟩ (.cons z (.cons z (.cons z .nil)))
     ·refine WC.condF' z M (WC.exit (At.thenX (At.loopX ?_)))
      exact At.hitB (σ := Own) ak ⟨brk1 h K, (su_ t z)⟩ .nil
    ·rintro aR aF ⟨rfl, af⟩
     replace h := flowK_go ab
     refine (show At _ _ _ [] _ from ?_)
     refine At.inBlockHit (th (sq (rg (wY (ya z) z (nl (th (rt ?_)))))))
     obtain rfl := some1 h
     have aG : Stp [] (Lg.O0 (fun _ => False)) w aR aF := (tr_ (su_ D z) (tr_ (su_ V z) (su_ af z)))
     exact At.res (.inl z) z (.tmp z .nil) ⟨z, (se_ aG z z)⟩
theorem c_label_isValue {a0 : List UInt8} {w : World} {r0 : Bool} (h : label_isValue a0 = some r0) : Rets Tryd.prog 73 [vs a0] w (fun v w' => v = vB r0 ∧ Ext w w') := by
 unfold label_isValue at h
 refine Rets.enter Tryd.func73 z z ?_
 refine (show WC _ _ _ _ [(0, vs a0)] _ from ?_)
 refine sq (rg (wY (ya z) z (nl (th (sq (sq (rg (wY (ym z) z (wY (Y.eql_s (b := []) z z) z ?_)))))))))
 refine wY (ym z) z ?_
 refine WL.cut 4 (σ := Unit) (fun _ w' => w = w') (fun _ => [(0, vs a0), (11, vB ((decide (a0 = [])) || (decide (32 < (a0.length : Int)))))]) ?_ ?_
 ·refine WL.part 7 z (fun r => ?_) (fun r => ?_)
  ·refine WL.gS z z z z (WL.gS z z z z (WL.gS z z z z (wY (Y.pick (b := true) z z) z (WL.ren (v' := vB ((decide (a0 = [])) || (decide (32 < (a0.length : Int))))) 11 z (congrArg vB (orT r)) ?_))))
   exact nl (At.join () z (.cons z (.cons z .nil)))
  ·refine ug z z (wY (ym z) z (ug z z (wY (Y.len_s ty9 z) z (ug z z (wY (Y.gtr_i z z) z (wY (Y.pick (b := false) z z) z (WL.ren (v' := vB ((decide (a0 = [])) || (decide (32 < (a0.length : Int))))) 11 z (congrArg vB (orF r)) ?_)))))))
   exact nl (At.join () z (.cons z (.cons z .nil)))
 ·rintro _ _ rfl
  refine (show WL _ _ _ _ _ [(0, vs a0), (11, vB ((decide (a0 = [])) || (decide (32 < (a0.length : Int)))))] _ from ?_)
  refine nl (th ?_)
  rcases cnd h with ⟨t, h⟩ | ⟨t, h⟩
  ·refine WC.condT' z t (sq (rg (wY (ya z) z (nl (th (rt (At.thenR ?_)))))))
   obtain rfl := some1 h
   have aa : Stp [] (Lg.O0 (fun _ => False)) w (Lg.O0 (fun _ => False)) w := (sr_ _ _ _)
   exact At.res (.inl z) z (.tmp z .nil) ⟨z, (se_ aa z z)⟩
  ·refine WC.condF' z t (sk (th (sq (sq (rg (wY (ym z) z (WL.s2b (O := (Lg.O0 (fun _ => False))) ty9 ty137 ty5 z z ?_)))))))
   intro m W j P Q
   refine wY (Y.len ty137 z Q) z (wY (ym z) z (nl (th (WC.block ?_))))
   obtain ⟨X, h, S⟩ := flow1 h
   obtain ⟨Z, h⟩ := loop_some h
   refine WC.joinB 0 (σ := Unit) (fun x w' => X = .go () ∧ j = w') (fun x => []) ?_ ?_
   ·refine WC.loop (σ := Int) (fun x k w' => loopN k (label_isValue_lp1 a0) x = some X ∧ j = w') (fun x => [(13, m), (14, vi (a0.length : Int)), (15, vi x)]) 0 Z (.cons z (.cons z (.cons z .nil))) ⟨h, z⟩ ?_
    rintro o Z _ ⟨h, rfl⟩
    obtain ⟨ap, aG, rfl, h, D⟩ := rnd1 h
    unfold label_isValue_lp1 at h
    try dsimp only at h
    refine (show WC _ _ _ _ [(13, m), (14, vi (a0.length : Int)), (15, vi o)] _ from ?_)
    refine sq (rg (wY (Y.lss_i z z) z (nl (th (sq ?_)))))
    rcases cnd h with ⟨F, h⟩ | ⟨F, h⟩
    ·refine WC.condT' z F (sk (th (sq (WC.block (sq (rg ?_))))))
     obtain ⟨aq, ab, h⟩ := bnd h
     obtain ⟨aH, aD, aE, aF, ac, ad, ae, G, U, af⟩ := Sl.at2 Q ab
     obtain rfl := U
     replace G : CellsAt _ _ _ [vb aq] := G
     have V := CAt.frs G af
     refine wY (Y.indexAddr ty137 ty5 z ac z ad ae) z (wY (yl ty5 z z V.at_) z (wY (ya z) z (nl (th ?_))))
     obtain ⟨ar, h, T⟩ := flow1 h
     refine WC.join (σ := Unit) (fun x w' => ar = .go () ∧ j = w') (fun x => [(13, m), (14, vi (a0.length : Int)), (15, vi o)]) ?_ ?_
     ·refine WC.block (sq ?_)
      obtain ⟨au, h, ah⟩ := bnd h
      refine WC.join (σ := Bool) (fun x w' => x = au ∧ j = w') (fun x => [(13, m), (14, vi (a0.length : Int)), (15, vi o), (19, vB x)]) ?_ ?_
      ·refine sq (rg (wY (ym z) z (wY (Y.lss_b (b := 33) z z) z ?_)))
       obtain ⟨av, ai, h⟩ := lt1 h
       refine WL.yE (ya z) (congrArg vB ai.symm) z (nl (th ?_))
       rcases cnd h with ⟨H, h⟩ | ⟨H, h⟩
       ·refine WC.condT' z H (sk ?_)
        exact At.join (σ := Bool) av ⟨some1 h, z⟩ (.cons z (.cons z (.cons z (.cons z .nil))))
       ·refine WC.condF' z H (sq (rg (wY (ym z) z (wY (Y.gtr_b (b := 126) z z) z ?_))))
        obtain ⟨ax, aj, h⟩ := lt1 h
        refine WL.yE (ya z) (congrArg vB aj.symm) z (nl (th ?_))
        rcases cnd h with ⟨I, h⟩ | ⟨I, h⟩
        ·refine WC.condT' z I (sk ?_)
         exact At.join (σ := Bool) ax ⟨some1 h, z⟩ (.cons z (.cons z (.cons z (.cons z .nil))))
        ·refine WC.condF' z I (sq (rg (wY (ym z) z (wY (Y.eql_b (b := 61) z z) z ?_))))
         obtain ⟨ay, ak, h⟩ := lt1 h
         refine WL.yE (ya z) (congrArg vB ak.symm) z (nl (th ?_))
         rcases cnd h with ⟨J, h⟩ | ⟨J, h⟩
         ·refine WC.condT' z J (sk ?_)
          exact At.join (σ := Bool) ay ⟨some1 h, z⟩ (.cons z (.cons z (.cons z (.cons z .nil))))
         ·refine WC.condF' z J (sq (rg (wY (ym z) z (wY (Y.eql_b (b := 59) z z) z ?_))))
          obtain ⟨az, al, h⟩ := lt1 h
          refine WL.yE (ya z) (congrArg vB al.symm) z (nl (th ?_))
          rcases cnd h with ⟨K, h⟩ | ⟨K, h⟩
          ·refine WC.condT' z K (sk ?_)
           exact At.join (σ := Bool) az ⟨some1 h, z⟩ (.cons z (.cons z (.cons z (.cons z .nil))))
          ·refine WC.condF' z K (rg (wY (ym z) z (wY (Y.eql_b (b := 44) z z) z ?_)))
           obtain ⟨aA, am, h⟩ := lt1 h
           refine WL.yE (ya z) (congrArg vB am.symm) z (nl ?_)
           exact At.join (σ := Bool) aA ⟨some1 h, z⟩ (.cons z (.cons z (.cons z (.cons z .nil))))
      ·rintro aC _ ⟨rfl, rfl⟩
       replace h := ah
       try dsimp only at h
       refine (show At _ _ _ [(13, m), (14, vi (a0.length : Int)), (15, vi o), (19, vB aC)] _ from ?_)
       refine th ?_
       rcases cnd h with ⟨M, h⟩ | ⟨M, h⟩
       ·refine WC.condT' z M (sq (rg (wY (ya z) z (nl (th (rt (At.inBlockR ?_)))))))
        have h := outs1 h T
        refine At.joinR (At.inBlockR (At.thenR (At.loopR ?_)))
        have h := outr1 h D S
        refine At.joinBR (At.inBlockR (At.thenR ?_))
        obtain rfl := some1 h
        have an : Stp [] (Lg.O0 (fun _ => False)) w W j := (su_ P z)
        exact At.res (.inl z) z (.tmp z .nil) ⟨z, (se_ an z z)⟩
       ·refine WC.condF' z M (sk (At.inBlock ?_))
        exact At.join (σ := Unit) () ⟨go2 h, z⟩ (.cons z (.cons z (.cons z .nil)))
     ·rintro _ _ ⟨rfl, rfl⟩
      replace h := flowK_go T
      refine (show At _ _ _ [(13, m), (14, vi (a0.length : Int)), (15, vi o)] _ from ?_)
      refine At.inBlock (th (rg (wY (Y.add_i z z) z (wY (ym z) z (nl ?_)))))
      exact At.round (w64 (o + 1)) ap (Nat.lt_succ_self _) ⟨next1 h D, z⟩ (.cons z (.cons z (.cons z .nil)))
    ·refine WC.condF' z F (WC.exit (At.thenX (At.loopX ?_)))
     exact At.hitB (σ := Unit) () ⟨brk1 h D, z⟩ .nil
   ·rintro _ _ ⟨rfl, rfl⟩
    replace h := flowK_go S
    refine (show At _ _ _ [] _ from ?_)
    refine At.inBlockHit (th (sq (rg (wY (ya z) z (nl (th (rt ?_)))))))
    obtain rfl := some1 h
    have ao : Stp [] (Lg.O0 (fun _ => False)) w W j := (su_ P z)
    exact At.res (.inl z) z (.tmp z .nil) ⟨z, (se_ ao z z)⟩
theorem c_label_Check {A : Nat → Prop} {a0 : List UInt8} {a1 : List api_Pair} {v1 : Value} {w : World} (hs1 : Sl rep_api_Pair w A v1 a1) {r0 : Int} (h : label_Check a0 a1 = some r0) : Rets Tryd.prog 49 [vs a0, v1] w (fun v w' => v = vi r0 ∧ Ext w w') := by
 unfold label_Check at h
 refine Rets.enter Tryd.func49 z z ?_
 have a9 : Sl rep_api_Pair w (imm (Lg.O0 A)) v1 a1 := (Sl.start hs1)
 refine (show WC _ _ _ _ [(0, vs a0), (1, v1)] _ from ?_)
 refine sq (rg (wY (ya z) z (nl (th (sq (sq (rg (wY (ym z) z ?_))))))))
 obtain ⟨co, ba, h⟩ := bnd h
 refine WL.call (vals := [vs a0]) kok72 z z (c_label_isName ba) ?_
 rintro cd T ⟨rfl, bb⟩
 obtain ⟨ab, bP, bQ, r⟩ := adoptE (Lg.O0 A) (fun k => 1) bb
 refine wY (Y.not z) z (nl (th ?_))
 rcases cnd h with ⟨ae, h⟩ | ⟨ae, h⟩
 ·refine WC.condT' z ae (sq (rg (wY (ya z) z (nl (th (rt (At.thenR ?_)))))))
  obtain rfl := some1 h
  have bc : Stp [] (Lg.O0 A) w ab T := (su_ r z)
  exact At.res (.inl z) z (.tmp z .nil) ⟨z, (se_ bc z z)⟩
 ·refine WC.condF' z ae (sk (th (sq (sq (rg (wY (ym z) z ?_))))))
  have af := a9.i r z z
  refine wY (Y.len ty33 z af) z (wY (Y.gtr_i z z) z (nl (th ?_)))
  rcases cnd h with ⟨ah, h⟩ | ⟨ah, h⟩
  ·refine WC.condT' z ah (sq (rg (wY (ya z) z (nl (th (rt (At.thenR ?_)))))))
   obtain rfl := some1 h
   have bd : Stp [] (Lg.O0 A) w ab T := (su_ r z)
   exact At.res (.inl z) z (.tmp z .nil) ⟨z, (se_ bd z z)⟩
  ·refine WC.condF' z ah (sk (th (sq (sq (rg (wY (ym z) z (wY (Y.len ty33 z af) z (wY (ym z) z (nl ?_)))))))))
   refine th (WC.block ?_)
   obtain ⟨a5, h, ai⟩ := flow1 h
   obtain ⟨a6, h⟩ := loop_some h
   refine WC.joinB 0 (σ := Own) (fun x w' => a5 = .go () ∧ Stp [11] ab T x w') (fun x => []) ?_ ?_
   ·refine WC.loop (σ := (Int × Own)) (fun x k w' => loopN k (label_Check_lp1 a1) x.1 = some a5 ∧ Stp [11] ab T x.2 w') (fun x => [(1, v1), (13, v1), (14, vi (a1.length : Int)), (15, vi x.1)]) (0, ab) a6 (.cons z (.cons z (.cons z (.cons z .nil)))) ⟨h, (sr_ _ _ _)⟩ ?_
    rintro ⟨J, a7⟩ a6 ce ⟨h, t⟩
    obtain ⟨bR, cq, rfl, h, U⟩ := rnd1 h
    unfold label_Check_lp1 at h
    try dsimp only at h t
    refine (show WC _ _ _ _ [(1, v1), (13, v1), (14, vi (a1.length : Int)), (15, vi J)] _ from ?_)
    refine sq (rg (wY (Y.lss_i z z) z (nl (th (sq ?_)))))
    rcases cnd h with ⟨aj, h⟩ | ⟨aj, h⟩
    ·refine WC.condT' z aj (sk (th (sq (WC.block (sq (rg (wY (ym z) z ?_)))))))
     obtain ⟨G, bf, h⟩ := bnd h
     have ar := af.i t z z
     obtain ⟨cr, b6, b7, cf, bg, bh, bi, ak, aF, bj⟩ := Sl.at2 ar bf
     obtain ⟨_, _, rfl, rfl, rfl⟩ := aF
     replace ak : CellsAt _ _ _ [vs G.Key, vs G.Val] := ak
     have aG := CAt.imm ak bj
     refine wY (Y.indexAddr ty33 ty59 z bg z bh bi) z (wY (yL ty59 z z aG.at_ z) z (WL.alloc (O := a7) 11 [vs [], vs []] ty59 z z ?_))
     intro m bS cg H bk
     refine wY (ya z) z (WL.store (v := ag [vs G.Key, vs G.Val]) (cells' := [vs G.Key, vs G.Val]) ty59 z z bk z (le_ z) z z ?_)
     intro ch I al
     refine nl (th (sq (sq (rg (wY (yf fo59_0 z) z (wY (yl ty9 z z (al.cell 0 _ z)) z ?_))))))
     obtain ⟨cs, bl, h⟩ := bnd h
     refine WL.call (vals := [vs G.Key]) kok72 z z (c_label_isName bl) ?_
     rintro ci bm ⟨rfl, bn⟩
     obtain ⟨au, bT, bU, D⟩ := adoptE bS (fun k => 1) bn
     refine wY (Y.not z) z (wY (ym z) z ?_)
     obtain ⟨bW, h, bo⟩ := bnd h
     refine WL.cut 5 (σ := (Bool × Own)) (fun x w' => x.1 = bW ∧ Stp [] au bm x.2 w') (fun x => [(1, v1), (5, vi J), (6, pt m 0), (13, v1), (14, vi (a1.length : Int)), (15, vi J), (29, vB x.1)]) ?_ ?_
     ·rcases cnd h with ⟨am, h⟩ | ⟨am, h⟩
      ·refine WL.ren 24 z (congrArg vB am) (WL.gS z z z z (WL.gS z z z z (WL.gS z z z z (WL.gS z z z z (wY (Y.pick (b := true) z z) z ?_)))))
       exact nl (At.join (σ := (Bool × Own)) (true, au) ⟨some1 h, (sr_ _ _ _)⟩ (.cons z (.cons z (.cons z (.cons z (.cons z (.cons z (.cons z .nil))))))))
      ·refine WL.ren 24 z (congrArg vB am) (ug z z (wY (yf fo59_1 z) z (ug z z ?_)))
       have bp := al.st D z
       refine wY (yl ty9 z z (bp.cell 1 _ z)) z (ug z z ?_)
       obtain ⟨bX, bq, h⟩ := bnd h
       refine WL.call (vals := [vs G.Val]) kok73 z z (c_label_isValue bq) ?_
       rintro cj ck ⟨rfl, br⟩
       obtain ⟨bY, bZ, b0, aH⟩ := adoptE au (fun k => 1) br
       refine ug z z (wY (Y.not z) z (wY (Y.pick (b := false) z z) z ?_))
       exact nl (At.join (σ := (Bool × Own)) ((!bX), bY) ⟨some1 h, (su_ aH z)⟩ (.cons z (.cons z (.cons z (.cons z (.cons z (.cons z (.cons z .nil))))))))
     ·rintro ⟨b1, Q⟩ K ⟨rfl, F⟩
      replace h := bo
      try dsimp only at h F
      refine (show WL _ _ _ _ _ [(1, v1), (5, vi J), (6, pt m 0), (13, v1), (14, vi (a1.length : Int)), (15, vi J), (29, vB b1)] _ from ?_)
      refine nl (th ?_)
      rcases cnd h with ⟨an, h⟩ | ⟨an, h⟩
      ·refine WC.condT' z an (sq (rg (wY (ya z) z (nl (th (rt (At.thenR (At.inBlockR (At.thenR ?_)))))))))
       refine At.loopR ?_
       have h := outr1 h U ai
       refine At.joinBR (At.inBlockR (At.thenR ?_))
       obtain rfl := some1 h
       have bs : Stp [11] (Lg.O0 A) w Q K := (tr_ (su_ r z) (tr_ (su_ t z) (tr_ (su_ H z) (tr_ (su_ I z) (tr_ (su_ D z) (su_ F z))))))
       exact At.res (.inl z) z (.tmp z .nil) ⟨z, (se_ bs z z)⟩
      ·refine WC.condF' z an (sk (th (sq (rg (wY (ym z) z (wY (ym z) z ?_))))))
       obtain ⟨av, bt, h⟩ := bnd h
       have bz := (((ar.i H z z).i I z z).i D z z).i F z z
       obtain ⟨S, bA, ax⟩ := Sl.slice (ρ := [(30, v1), (31, vi J)]) (x := (.tmp 30)) (lo := none) (hi := (some (.tmp 31))) ty33 ty59 rfl rfl rfl bz bt
       refine wY (Y.sub (.cons z (.cons z .nil)) (bA _ _)) z (wY (Y.mkfunc (fv := []) (cv := [pt m 0]) z z) z ?_)
       obtain ⟨bB, h, aI⟩ := bnd h
       refine WL.callJ (vals := [S, Value.func (.func 75) (List.toArray []) (List.toArray [pt m 0])]) (σ := (Bool × Own)) (fun x w' => x.1 = bB ∧ Stp [] Q K x.2 w') (fun x => vB x.1) kok74 z z ?_ ?_
       ·refine Rets.enter Tryd.func74 z z ?_
        refine (show WC _ _ _ _ [(0, S), (1, Value.func (.func 75) (List.toArray []) (List.toArray [pt m 0]))] _ from ?_)
        refine sq (rg (wY (ya z) z (nl (th (sq (rg (wY (ym z) z (wY (ym z) z ?_))))))))
        obtain ⟨bC, h, aJ⟩ := bnd h
        refine WL.callJ (vals := [S, Value.func (.func 75) (List.toArray []) (List.toArray [pt m 0])]) (σ := (Int × Own)) (fun x w' => x.1 = bC ∧ Stp [] Q K x.2 w') (fun x => vi x.1) kok94 z z ?_ ?_
        ·refine Rets.enter Tryd.func94 z z ?_
         refine (show WC _ _ _ _ [(0, S), (1, Value.func (.func 75) (List.toArray []) (List.toArray [pt m 0]))] _ from ?_)
         refine sq (rg (wY (ya z) z (nl (th (sq (sq (rg (wY (ym z) z (wY (Y.len ty33 z ax) z ?_)))))))))
         refine wY (ym z) z (nl (th (WC.block ?_)))
         obtain ⟨ay, h, aq⟩ := flow1 h
         obtain ⟨az, h⟩ := loop_some h
         refine WC.joinB 0 (σ := Own) (fun x w' => ay = .go () ∧ Stp [] Q K x w') (fun x => []) ?_ ?_
         ·refine WC.loop (σ := (Int × Own)) (fun x k w' => loopN k (label_Check_lp2 G av) x.1 = some ay ∧ Stp [] Q K x.2 w') (fun x => [(0, S), (1, Value.func (.func 75) (List.toArray []) (List.toArray [pt m 0])), (7, vi (av.length : Int)), (8, vi x.1)]) (0, Q) az (.cons z (.cons z (.cons z (.cons z .nil)))) ⟨h, (sr_ _ _ _)⟩ ?_
          rintro ⟨ao, ap⟩ az aK ⟨h, j⟩
          obtain ⟨bD, cl, rfl, h, V⟩ := rnd1 h
          unfold label_Check_lp2 at h
          try dsimp only at h j
          refine (show WC _ _ _ _ [(0, S), (1, Value.func (.func 75) (List.toArray []) (List.toArray [pt m 0])), (7, vi (av.length : Int)), (8, vi ao)] _ from ?_)
          refine sq (rg (wY (Y.lss_i z z) z (nl (th (sq ?_)))))
          rcases cnd h with ⟨W, h⟩ | ⟨W, h⟩
          ·refine WC.condT' z W (sk (th (sq (WC.block (sq (rg (wY (ym z) z (wY (ya z) z (nl ?_)))))))))
           refine th (sq (rg (wY (ym z) z (wY (ym z) z (wY (ym z) z ?_)))))
           obtain ⟨o, aL, h⟩ := bnd h
           have aM := ax.i j z z
           obtain ⟨cm, b2, b3, b8, aN, aO, aP, X, aA, aQ⟩ := Sl.at2 aM aL
           obtain ⟨_, _, rfl, rfl, rfl⟩ := aA
           replace X : CellsAt _ _ _ [vs o.Key, vs o.Val] := X
           have aC := CAt.imm X aQ
           refine wY (Y.indexAddr ty33 ty59 z aN z aO aP) z (wY (yL ty59 z z aC.at_ z) z ?_)
           obtain ⟨bE, h, aR⟩ := bnd h
           refine WL.callV (fv := []) (cv := [pt m 0]) (vals := [ag [vs o.Key, vs o.Val]]) (σ := (Bool × Own)) (fun x w' => x.1 = bE ∧ Stp [] ap aK x.2 w') (fun x => vB x.1) kok75 z z z ?_ ?_
           ·refine Rets.enter Tryd.func75 z z ?_
            refine (show WC _ _ _ _ [(0, ag [vs o.Key, vs o.Val]), (1, pt m 0)] _ from ?_)
            refine sq (rg (WL.box (O := ap) 12 [vs o.Key, vs o.Val] z z z ?_))
            intro cn bF b9 ac aS
            refine wY (ya z) z (nl (th (sq (rg (wY (yf fo59_0 z) z (wY (yl ty9 z z (aS.cell 0 _ z)) z (wY (yf fo59_0 z) z ?_)))))))
            have aX := (((al.st D z).st F z).st j z).st ac z
            refine wY (yl ty9 z z (aX.cell 0 _ z)) z (wY (Y.eql_s z z) z ?_)
            obtain ⟨bG, aY, h⟩ := lt1 h
            refine WL.yE (ya z) (congrArg vB aY.symm) z (nl (th (rt ?_)))
            exact At.res (.inl z) z (.tmp z .nil) ⟨(bG, bF), ⟨some1 h, (su_ ac z)⟩, z⟩
           ·rintro ⟨bH, aD⟩ ca ⟨rfl, M⟩
            replace h := aR
            try dsimp only at h M
            refine (show WL _ _ _ _ _ ((16, vB bH) :: _) _ from ?_)
            refine nl (th ?_)
            rcases cnd h with ⟨Z, h⟩ | ⟨Z, h⟩
            ·refine WC.condT' z Z (sq (rg (wY (ym z) z (wY (ya z) z (nl (th (rt (At.inBlockR (At.thenR ?_)))))))))
             refine At.loopR ?_
             have h := outr1 h V aq
             refine At.joinBR (At.inBlockR (At.thenR ?_))
             exact At.res (.inl z) z (.tmp z .nil) ⟨(ao, aD), ⟨some1 h, (tr_ (su_ j z) (su_ M z))⟩, z⟩
            ·refine WC.condF' z Z (sk (At.inBlock (th (rg (wY (Y.add_i z z) z (wY (ym z) z (nl ?_)))))))
             exact At.round (w64 (ao + 1), aD) bD (Nat.lt_succ_self _) ⟨next1 h V, (tr_ (su_ j z) (su_ M z))⟩ (.cons z (.cons z (.cons z (.cons z .nil))))
          ·refine WC.condF' z W (WC.exit (At.thenX (At.loopX ?_)))
           exact At.hitB (σ := Own) ap ⟨brk1 h V, (su_ j z)⟩ .nil
         ·rintro bI cb ⟨rfl, aE⟩
          replace h := flowK_go aq
          refine (show At _ _ _ [] _ from ?_)
          refine At.inBlockHit (th (sq (rg (wY (ya z) z (nl (th (rt ?_)))))))
          exact At.res (.inl z) z (.tmp z .nil) ⟨((-1), bI), ⟨some1 h, (su_ aE z)⟩, z⟩
        ·rintro ⟨bJ, bK⟩ cc ⟨rfl, ad⟩
         replace h := aJ
         try dsimp only at h ad
         refine (show WL _ _ _ _ _ ((7, vi bJ) :: _) _ from ?_)
         refine wY (Y.geq_i z z) z ?_
         obtain ⟨bL, aZ, h⟩ := lt1 h
         refine WL.yE (ya z) (congrArg vB aZ.symm) z (nl (th (rt ?_)))
         exact At.res (.inl z) z (.tmp z .nil) ⟨(bL, bK), ⟨some1 h, (su_ ad z)⟩, z⟩
       ·rintro ⟨b4, a8⟩ bM ⟨rfl, P⟩
        replace h := aI
        try dsimp only at h P
        refine (show WL _ _ _ _ _ ((34, vB b4) :: _) _ from ?_)
        refine nl (th ?_)
        rcases cnd h with ⟨aa, h⟩ | ⟨aa, h⟩
        ·refine WC.condT' z aa (sq (rg (wY (ya z) z (nl (th (rt (At.inBlockR (At.thenR (At.loopR ?_)))))))))
         have h := outr1 h U ai
         refine At.joinBR (At.inBlockR (At.thenR ?_))
         obtain rfl := some1 h
         have a2 : Stp [11] (Lg.O0 A) w a8 bM := (tr_ (su_ r z) (tr_ (su_ t z) (tr_ (su_ H z) (tr_ (su_ I z) (tr_ (su_ D z) (tr_ (su_ F z) (su_ P z)))))))
         exact At.res (.inl z) z (.tmp z .nil) ⟨z, (se_ a2 z z)⟩
        ·refine WC.condF' z aa (sk (At.inBlock (th (rg (wY (Y.add_i z z) z (wY (ym z) z (nl ?_)))))))
         exact At.round (w64 (J + 1), a8) bR (Nat.lt_succ_self _) ⟨next1 h U, (tr_ (su_ t z) (tr_ (su_ H z) (tr_ (su_ I z) (tr_ (su_ D z) (tr_ (su_ F z) (su_ P z))))))⟩ (.cons z (.cons z (.cons z (.cons z .nil))))
    ·refine WC.condF' z aj (WC.exit (At.thenX (At.loopX ?_)))
     exact At.hitB (σ := Own) a7 ⟨brk1 h U, (su_ t z)⟩ .nil
   ·rintro b5 bO ⟨rfl, a3⟩
    replace h := flowK_go ai
    refine (show At _ _ _ [] _ from ?_)
    refine At.inBlockHit (th (sq (rg (wY (ya z) z (nl (th (rt ?_)))))))
    obtain rfl := some1 h
    have a4 : Stp [11] (Lg.O0 A) w b5 bO := (tr_ (su_ r z) (su_ a3 z))
    exact At.res (.inl z) z (.tmp z .nil) ⟨z, (se_ a4 z z)⟩
theorem c_relabel_isKey {a0 : List UInt8} {w : World} {r0 : Bool} (h : relabel_isKey a0 = some r0) : Rets Tryd.prog 27 [vs a0] w (fun v w' => v = vB r0 ∧ Ext w w') := by
 unfold relabel_isKey at h
 refine Rets.enter Tryd.func27 z z ?_
 refine (show WC _ _ _ _ [(0, vs a0)] _ from ?_)
 refine sq (rg (wY (ya z) z (nl (th (sq (rg (wY (ym z) z ?_)))))))
 obtain ⟨J, m, h⟩ := bnd h
 refine WL.call (vals := [vs a0, sn]) kok49 z z (c_label_Check (A := fun _ => True) (Or.inl ⟨z, z⟩) m) ?_
 rintro I o ⟨rfl, r⟩
 obtain ⟨F, G, H, j⟩ := adoptE (Lg.O0 (fun _ => False)) (fun k => 1) r
 refine wY (Y.eql_i z z) z ?_
 obtain ⟨K, t, h⟩ := lt1 h
 refine WL.yE (ya z) (congrArg vB t.symm) z (nl (th (rt ?_)))
 obtain rfl := some1 h
 have D : Stp [] (Lg.O0 (fun _ => False)) w F o := (su_ j z)
 exact At.res (.inl z) z (.tmp z .nil) ⟨z, (se_ D z z)⟩
theorem c_relabel_isValue {a0 : List UInt8} {w : World} {r0 : Bool} (h : relabel_isValue a0 = some r0) : Rets Tryd.prog 28 [vs a0] w (fun v w' => v = vB r0 ∧ Ext w w') := by
 unfold relabel_isValue at h
 refine Rets.enter Tryd.func28 z z ?_
 refine (show WC _ _ _ _ [(0, vs a0)] _ from ?_)
 refine sq (rg (wY (ya z) z (nl (th (sq (rg (wY (ym z) z (wY (yb (vals := [(0, vs [120]), (1, vs a0)]) (cells := [vs [120], vs a0]) (fe_ z) (by kernel_rfl)) z (WL.buildSlice (O := (Lg.O0 (fun _ => False))) (R := rep_api_Pair) (vals := [(0, Value.agg (List.toArray [vs [120], vs a0]))]) 11 [vs [120], vs a0] (xs := [(api_Pair.mk [120] a0)]) (by decide) ty33 ty59 (by decide) (by decide) (fe_ z) (by kernel_rfl) z ⟨[vs [120], vs a0], [], z, ⟨[vs [120]], [vs a0], z, z, z⟩, z⟩ z ?_)))))))))
 intro H I P j o
 obtain ⟨S, r, h⟩ := bnd h
 refine WL.call (vals := [vs [120], H]) kok49 z z (c_label_Check (A := fun _ => True) (o.src.sl) r) ?_
 rintro Q t ⟨rfl, D⟩
 obtain ⟨J, K, M, m⟩ := adoptE I (fun k => 1) D
 refine wY (Y.eql_i z z) z ?_
 obtain ⟨T, F, h⟩ := lt1 h
 refine WL.yE (ya z) (congrArg vB F.symm) z (nl (th (rt ?_)))
 obtain rfl := some1 h
 have G : Stp [] (Lg.O0 (fun _ => False)) w J t := (tr_ (su_ j z) (su_ m z))
 exact At.res (.inl z) z (.tmp z .nil) ⟨z, (se_ G z z)⟩
theorem c_relabel_Check {A : Nat → Prop} {a0 : api_Rule} {w : World} (hG0 : CellsAt w 0 0 [vi 0, vi 0]) (hGA0 : A 0) {r0 : Int} (h : relabel_Check a0 = some r0) : Rets Tryd.prog 10 [ag [vi a0.Kind, vs a0.Key, vs a0.Glob, vs a0.To, vs a0.Val]] w (fun v w' => v = vi r0 ∧ Ext w w') := by
 unfold relabel_Check at h
 refine Rets.enter Tryd.func10 z z ?_
 have aP : CAt [0, 1] (Lg.O0 A) w 0 0 [vi 0, vi 0] := CAt.glob hG0 (if_pos hGA0)
 refine (show WC _ _ _ _ [(0, ag [vi a0.Kind, vs a0.Key, vs a0.Glob, vs a0.To, vs a0.Val])] _ from ?_)
 refine sq (rg (WL.box (O := (Lg.O0 A)) 11 [vi a0.Kind, vs a0.Key, vs a0.Glob, vs a0.To, vs a0.Val] z z z ?_))
 intro m aN ar t H
 refine wY (ya z) z (nl (th (sq (sq (rg (wY (yf fo28_0 z) z (wY (yl ty3 z z (H.cell 0 _ z)) z (wY (Y.lss_i z z) z (wY (ym z) z ?_)))))))))
 refine WL.cut 4 (σ := Unit) (fun _ w' => ar = w') (fun _ => [(1, pt m 0), (14, vB ((decide (a0.Kind < 1)) || (decide (5 < a0.Kind))))]) ?_ ?_
 ·refine WL.part 10 z (fun Z => ?_) (fun Z => ?_)
  ·refine WL.gS z z z z (WL.gS z z z z (WL.gS z z z z (wY (Y.pick (b := true) z z) z (WL.ren (v' := vB ((decide (a0.Kind < 1)) || (decide (5 < a0.Kind)))) 14 z (congrArg vB (orT Z)) ?_))))
   exact nl (At.join () z (.cons z (.cons z .nil)))
  ·refine ug z z (wY (yf fo28_0 z) z (ug z z (wY (yl ty3 z z (H.cell 0 _ z)) z (ug z z (wY (Y.gtr_i z z) z (wY (Y.pick (b := false) z z) z (WL.ren (v' := vB ((decide (a0.Kind < 1)) || (decide (5 < a0.Kind)))) 14 z (congrArg vB (orF Z)) ?_)))))))
   exact nl (At.join () z (.cons z (.cons z .nil)))
 ·rintro _ _ rfl
  refine (show WL _ _ _ _ _ [(1, pt m 0), (14, vB ((decide (a0.Kind < 1)) || (decide (5 < a0.Kind))))] _ from ?_)
  refine nl (th ?_)
  rcases cnd h with ⟨aa, h⟩ | ⟨aa, h⟩
  ·refine WC.condT' z aa (sq (rg (wY (ya z) z (nl (th (rt (At.thenR ?_)))))))
   obtain rfl := some1 h
   have aQ : Stp [] (Lg.O0 A) w aN ar := (su_ t z)
   exact At.res (.inl z) z (.tmp z .nil) ⟨z, (se_ aQ z z)⟩
  ·refine WC.condF' z aa (sk (th (sq (sq (rg (wY (yf fo28_2 z) z (wY (yl ty9 z z (H.cell 2 _ z)) z ?_)))))))
   have aR := aP.st t z
   obtain ⟨⟨bS, bT, bU⟩, aS, h⟩ := bnd h
   refine WL.call (vals := [vs a0.Glob]) kok26 z z (c_glob_Compile (A := fun _ => True) aR.at_ trivial aS) ?_
   rintro bJ au ⟨bj, rfl, aT, bW⟩
   obtain ⟨an, bk, bl, F⟩ := adoptE aN (labP bj 12) aT
   refine wY (ym z) z (wY (yx z z) z (wY (yx z z) z (wY (yx z z) z (wY (ya z) z (wY (ya z) z (wY (ya z) z (nl (th (sq ?_)))))))))
   refine rg (wY (ym z) z (wY (Y.neq_i z z) z (nl (th ?_))))
   rcases cnd h with ⟨ab, h⟩ | ⟨ab, h⟩
   ·refine WC.condT' z ab (sq (rg (wY (ym z) z (wY (ya z) z (nl (th (rt (At.thenR ?_))))))))
    obtain rfl := some1 h
    have aU : Stp [] (Lg.O0 A) w an au := (tr_ (su_ t z) (su_ F z))
    exact At.res (.inl z) z (.tmp z .nil) ⟨z, (se_ aU z z)⟩
   ·refine WC.condF' z ab (sk (th (sq (rg (wY (yf fo28_1 z) z ?_)))))
    have ac := H.st F z
    refine wY (yl ty9 z z (ac.cell 1 _ z)) z (wY (Y.eql_s (b := []) z z) z (wY (ym z) z ?_))
    obtain ⟨bm, h, aW⟩ := bnd h
    refine WL.cut 4 (σ := (Bool × Own)) (fun x w' => x.1 = bm ∧ Stp [] an au x.2 w') (fun x => [(1, pt m 0), (32, vB x.1)]) ?_ ?_
    ·rcases cnd h with ⟨ad, h⟩ | ⟨ad, h⟩
     ·refine WL.ren 28 z (congrArg vB ad) (WL.gS z z z z (WL.gS z z z z (WL.gS z z z z (wY (Y.pick (b := true) z z) z ?_))))
      exact nl (At.join (σ := (Bool × Own)) (true, an) ⟨some1 h, (sr_ _ _ _)⟩ (.cons z (.cons z .nil)))
     ·refine WL.ren 28 z (congrArg vB ad) (ug z z (wY (yf fo28_1 z) z (ug z z (wY (yl ty9 z z (ac.cell 1 _ z)) z (ug z z ?_)))))
      obtain ⟨bn, aX, h⟩ := bnd h
      refine WL.call (vals := [vs a0.Key]) kok27 z z (c_relabel_isKey aX) ?_
      rintro bK bL ⟨rfl, aY⟩
      obtain ⟨bo, bp, bq, aD⟩ := adoptE an (fun k => 1) aY
      refine wY (Y.pick (b := false) z z) z ?_
      exact nl (At.join (σ := (Bool × Own)) (bn, bo) ⟨some1 h, (su_ aD z)⟩ (.cons z (.cons z .nil)))
    ·rintro ⟨o, D⟩ r ⟨rfl, G⟩
     replace h := aW
     try dsimp only at h G
     refine (show WL _ _ _ _ _ [(1, pt m 0), (32, vB o)] _ from ?_)
     refine wY (ya z) z (nl (th (sq (sq (rg (wY (yf fo28_0 z) z ?_))))))
     have j := ac.st G z
     refine wY (yl ty3 z z (j.cell 0 _ z)) z (nl (th ?_))
     obtain ⟨br, h, aZ⟩ := bnd h
     refine WC.join (σ := (Bool × Own)) (fun x w' => x.1 = br ∧ Stp [] D r x.2 w') (fun x => [(6, vB x.1)]) ?_ ?_
     ·refine WC.block (sq (rg (wY (Y.eql_i z z) z ?_)))
      obtain ⟨bX, a1, h⟩ := lt1 h
      refine WL.yE (ya z) (congrArg vB a1.symm) z (nl (th ?_))
      rcases cnd h with ⟨ae, h⟩ | ⟨ae, h⟩
      ·refine WC.condT' z ae (rg (wY (ym z) z (wY (ym z) z ?_)))
       refine WL.cut 4 (σ := Unit) (fun _ w' => r = w') (fun _ => [(1, pt m 0), (53, vB (o && (!decide (a0.Key = []))))]) ?_ ?_
       ·refine WL.part 49 z (fun af => ?_) (fun af => ?_)
        ·refine ug z z (wY (yf fo28_1 z) z (ug z z (wY (yl ty9 z z (j.cell 1 _ z)) z (ug z z (wY (Y.neq_s (b := []) z z) z (wY (Y.pick (b := true) z z) z (WL.ren (v' := vB (o && (!decide (a0.Key = [])))) 53 z (congrArg vB (andT af)) ?_)))))))
         exact nl (At.join () z (.cons z (.cons z .nil)))
        ·refine WL.gS z z z z (WL.gS z z z z (WL.gS z z z z (wY (Y.pick (b := false) z z) z (WL.ren (v' := vB (o && (!decide (a0.Key = [])))) 53 z (congrArg vB (andF af)) ?_))))
         exact nl (At.join () z (.cons z (.cons z .nil)))
       ·rintro _ _ rfl
        refine (show WL _ _ _ _ _ [(1, pt m 0), (53, vB (o && (!decide (a0.Key = []))))] _ from ?_)
        refine wY (ym z) z ?_
        obtain ⟨bs, h, a2⟩ := bnd h
        refine WL.cut 4 (σ := (Bool × Own)) (fun x w' => x.1 = bs ∧ Stp [] D r x.2 w') (fun x => [(1, pt m 0), (58, vB x.1)]) ?_ ?_
        ·rcases cnd h with ⟨ah, h⟩ | ⟨ah, h⟩
         ·refine WL.ren 54 z (congrArg vB ah) (ug z z (wY (yf fo28_3 z) z (ug z z (wY (yl ty9 z z (j.cell 3 _ z)) z (ug z z ?_)))))
          obtain ⟨bt, a3, h⟩ := bnd h
          refine WL.call (vals := [vs a0.To]) kok27 z z (c_relabel_isKey a3) ?_
          rintro bM bO ⟨rfl, a4⟩
          obtain ⟨bu, bw, bx, aE⟩ := adoptE D (fun k => 1) a4
          refine wY (Y.pick (b := true) z z) z ?_
          exact nl (At.join (σ := (Bool × Own)) (bt, bu) ⟨some1 h, (su_ aE z)⟩ (.cons z (.cons z .nil)))
         ·refine WL.ren 54 z (congrArg vB ah) (WL.gS z z z z (WL.gS z z z z (WL.gS z z z z (wY (Y.pick (b := false) z z) z ?_))))
          exact nl (At.join (σ := (Bool × Own)) (false, D) ⟨some1 h, (sr_ _ _ _)⟩ (.cons z (.cons z .nil)))
        ·rintro ⟨W, bz⟩ a5 ⟨rfl, I⟩
         replace h := a2
         try dsimp only at h I
         refine (show WL _ _ _ _ _ [(1, pt m 0), (58, vB W)] _ from ?_)
         refine wY (ym z) z ?_
         refine WL.cut 4 (σ := Unit) (fun _ w' => a5 = w') (fun _ => [(63, vB (W && (decide (a0.Val = []))))]) ?_ ?_
         ·refine WL.part 59 z (fun ai => ?_) (fun ai => ?_)
          ·refine ug z z (wY (yf fo28_4 z) z (ug z z ?_))
           have a6 := j.st I z
           refine wY (yl ty9 z z (a6.cell 4 _ z)) z (ug z z (wY (Y.eql_s (b := []) z z) z (wY (Y.pick (b := true) z z) z (WL.ren (v' := vB (W && (decide (a0.Val = [])))) 63 z (congrArg vB (andT ai)) ?_))))
           exact nl (At.join () z (.cons z .nil))
          ·refine WL.gS z z z z (WL.gS z z z z (WL.gS z z z z (wY (Y.pick (b := false) z z) z (WL.ren (v' := vB (W && (decide (a0.Val = [])))) 63 z (congrArg vB (andF ai)) ?_))))
           exact nl (At.join () z (.cons z .nil))
         ·rintro _ _ rfl
          refine (show WL _ _ _ _ _ [(63, vB (W && (decide (a0.Val = []))))] _ from ?_)
          obtain ⟨av, ao, h⟩ := lt1 h
          refine WL.yE (ya z) (congrArg vB ao.symm) z (nl (At.inBlock ?_))
          exact At.join (σ := (Bool × Own)) (av, bz) ⟨some1 h, (su_ I z)⟩ (.cons z .nil)
      ·refine WC.condF' z ae (sq (rg (wY (Y.eql_i z z) z ?_)))
       obtain ⟨bY, a7, h⟩ := lt1 h
       refine WL.yE (ya z) (congrArg vB a7.symm) z (nl (th ?_))
       rcases cnd h with ⟨aj, h⟩ | ⟨aj, h⟩
       ·refine WC.condT' z aj (rg (wY (ym z) z (wY (ym z) z ?_)))
        obtain ⟨bA, h, a8⟩ := bnd h
        refine WL.cut 4 (σ := (Bool × Own)) (fun x w' => x.1 = bA ∧ Stp [] D r x.2 w') (fun x => [(1, pt m 0), (71, vB x.1)]) ?_ ?_
        ·rcases cnd h with ⟨ak, h⟩ | ⟨ak, h⟩
         ·refine WL.ren 67 z (congrArg vB ak) (ug z z (wY (yf fo28_3 z) z (ug z z (wY (yl ty9 z z (j.cell 3 _ z)) z (ug z z ?_)))))
          obtain ⟨bB, a9, h⟩ := bnd h
          refine WL.call (vals := [vs a0.To]) kok27 z z (c_relabel_isKey a9) ?_
          rintro bP bQ ⟨rfl, ba⟩
          obtain ⟨bC, bD, bE, aF⟩ := adoptE D (fun k => 1) ba
          refine wY (Y.pick (b := true) z z) z ?_
          exact nl (At.join (σ := (Bool × Own)) (bB, bC) ⟨some1 h, (su_ aF z)⟩ (.cons z (.cons z .nil)))
         ·refine WL.ren 67 z (congrArg vB ak) (WL.gS z z z z (WL.gS z z z z (WL.gS z z z z (wY (Y.pick (b := false) z z) z ?_))))
          exact nl (At.join (σ := (Bool × Own)) (false, D) ⟨some1 h, (sr_ _ _ _)⟩ (.cons z (.cons z .nil)))
        ·rintro ⟨bF, ax⟩ bb ⟨rfl, J⟩
         replace h := a8
         try dsimp only at h J
         refine (show WL _ _ _ _ _ [(1, pt m 0), (71, vB bF)] _ from ?_)
         refine wY (ym z) z ?_
         obtain ⟨bc, h, aG⟩ := bnd h
         refine WL.cut 4 (σ := (Bool × Own)) (fun x w' => x.1 = bc ∧ Stp [] ax bb x.2 w') (fun x => [(76, vB x.1)]) ?_ ?_
         ·rcases cnd h with ⟨K, h⟩ | ⟨K, h⟩
          ·refine WL.ren 72 z (congrArg vB K) (ug z z (wY (yf fo28_4 z) z (ug z z ?_)))
           have aH := j.st J z
           refine wY (yl ty9 z z (aH.cell 4 _ z)) z (ug z z ?_)
           obtain ⟨bd, aI, h⟩ := bnd h
           refine WL.call (vals := [vs a0.Val]) kok28 z z (c_relabel_isValue aI) ?_
           rintro bG bH ⟨rfl, aJ⟩
           obtain ⟨bf, bh, bi, ay⟩ := adoptE ax (fun k => 1) aJ
           refine wY (Y.pick (b := true) z z) z ?_
           exact nl (At.join (σ := (Bool × Own)) (bd, bf) ⟨some1 h, (su_ ay z)⟩ (.cons z .nil))
          ·refine WL.ren 72 z (congrArg vB K) (WL.gS z z z z (WL.gS z z z z (WL.gS z z z z (wY (Y.pick (b := false) z z) z ?_))))
           exact nl (At.join (σ := (Bool × Own)) (false, ax) ⟨some1 h, (sr_ _ _ _)⟩ (.cons z .nil))
         ·rintro ⟨az, bg⟩ bI ⟨rfl, X⟩
          replace h := aG
          try dsimp only at h X
          refine (show WL _ _ _ _ _ [(76, vB az)] _ from ?_)
          refine wY (ya z) z (nl (At.inBlock ?_))
          exact At.join (σ := (Bool × Own)) (az, bg) ⟨some1 h, (tr_ (su_ J z) (su_ X z))⟩ (.cons z .nil)
       ·refine WC.condF' z aj (sq (rg (wY (Y.eql_i z z) z ?_)))
        obtain ⟨bR, aK, h⟩ := lt1 h
        refine WL.yE (ya z) (congrArg vB aK.symm) z (nl (th ?_))
        rcases cnd h with ⟨M, h⟩ | ⟨M, h⟩
        ·refine WC.condT' z M (rg (wY (yf fo28_1 z) z (wY (yl ty9 z z (j.cell 1 _ z)) z (wY (Y.eql_s (b := []) z z) z (wY (ym z) z ?_)))))
         refine WL.cut 4 (σ := Unit) (fun _ w' => r = w') (fun _ => [(1, pt m 0), (86, vB ((decide (a0.Key = [])) && (decide (a0.To = []))))]) ?_ ?_
         ·refine WL.part 82 z (fun P => ?_) (fun P => ?_)
          ·refine ug z z (wY (yf fo28_3 z) z (ug z z (wY (yl ty9 z z (j.cell 3 _ z)) z (ug z z (wY (Y.eql_s (b := []) z z) z (wY (Y.pick (b := true) z z) z (WL.ren (v' := vB ((decide (a0.Key = [])) && (decide (a0.To = [])))) 86 z (congrArg vB (andT P)) ?_)))))))
           exact nl (At.join () z (.cons z (.cons z .nil)))
          ·refine WL.gS z z z z (WL.gS z z z z (WL.gS z z z z (wY (Y.pick (b := false) z z) z (WL.ren (v' := vB ((decide (a0.Key = [])) && (decide (a0.To = [])))) 86 z (congrArg vB (andF P)) ?_))))
           exact nl (At.join () z (.cons z (.cons z .nil)))
         ·rintro _ _ rfl
          refine (show WL _ _ _ _ _ [(1, pt m 0), (86, vB ((decide (a0.Key = [])) && (decide (a0.To = []))))] _ from ?_)
          refine wY (ym z) z ?_
          refine WL.cut 4 (σ := Unit) (fun _ w' => r = w') (fun _ => [(91, vB (((decide (a0.Key = [])) && (decide (a0.To = []))) && (decide (a0.Val = []))))]) ?_ ?_
          ·refine WL.part 87 z (fun Q => ?_) (fun Q => ?_)
           ·refine ug z z (wY (yf fo28_4 z) z (ug z z (wY (yl ty9 z z (j.cell 4 _ z)) z (ug z z (wY (Y.eql_s (b := []) z z) z (wY (Y.pick (b := true) z z) z (WL.ren (v' := vB (((decide (a0.Key = [])) && (decide (a0.To = []))) && (decide (a0.Val = [])))) 91 z (congrArg vB (andT Q)) ?_)))))))
            exact nl (At.join () z (.cons z .nil))
           ·refine WL.gS z z z z (WL.gS z z z z (WL.gS z z z z (wY (Y.pick (b := false) z z) z (WL.ren (v' := vB (((decide (a0.Key = [])) && (decide (a0.To = []))) && (decide (a0.Val = [])))) 91 z (congrArg vB (andF Q)) ?_))))
            exact nl (At.join () z (.cons z .nil))
          ·rintro _ _ rfl
           refine (show WL _ _ _ _ _ [(91, vB (((decide (a0.Key = [])) && (decide (a0.To = []))) && (decide (a0.Val = []))))] _ from ?_)
           obtain ⟨ap, al, h⟩ := lt1 h
           refine WL.yE (ya z) (congrArg vB al.symm) z (nl (At.inBlock ?_))
           exact At.join (σ := (Bool × Own)) (ap, D) ⟨some1 h, (sr_ _ _ _)⟩ (.cons z .nil)
        ·refine WC.condF' z M (rg (wY (ym z) z (wY (ym z) z ?_)))
         refine WL.cut 4 (σ := Unit) (fun _ w' => r = w') (fun _ => [(1, pt m 0), (40, vB (o && (decide (a0.To = []))))]) ?_ ?_
         ·refine WL.part 36 z (fun S => ?_) (fun S => ?_)
          ·refine ug z z (wY (yf fo28_3 z) z (ug z z (wY (yl ty9 z z (j.cell 3 _ z)) z (ug z z (wY (Y.eql_s (b := []) z z) z (wY (Y.pick (b := true) z z) z (WL.ren (v' := vB (o && (decide (a0.To = [])))) 40 z (congrArg vB (andT S)) ?_)))))))
           exact nl (At.join () z (.cons z (.cons z .nil)))
          ·refine WL.gS z z z z (WL.gS z z z z (WL.gS z z z z (wY (Y.pick (b := false) z z) z (WL.ren (v' := vB (o && (decide (a0.To = [])))) 40 z (congrArg vB (andF S)) ?_))))
           exact nl (At.join () z (.cons z (.cons z .nil)))
         ·rintro _ _ rfl
          refine (show WL _ _ _ _ _ [(1, pt m 0), (40, vB (o && (decide (a0.To = []))))] _ from ?_)
          refine wY (ym z) z ?_
          refine WL.cut 4 (σ := Unit) (fun _ w' => r = w') (fun _ => [(45, vB ((o && (decide (a0.To = []))) && (decide (a0.Val = []))))]) ?_ ?_
          ·refine WL.part 41 z (fun T => ?_) (fun T => ?_)
           ·refine ug z z (wY (yf fo28_4 z) z (ug z z (wY (yl ty9 z z (j.cell 4 _ z)) z (ug z z (wY (Y.eql_s (b := []) z z) z (wY (Y.pick (b := true) z z) z (WL.ren (v' := vB ((o && (decide (a0.To = []))) && (decide (a0.Val = [])))) 45 z (congrArg vB (andT T)) ?_)))))))
            exact nl (At.join () z (.cons z .nil))
           ·refine WL.gS z z z z (WL.gS z z z z (WL.gS z z z z (wY (Y.pick (b := false) z z) z (WL.ren (v' := vB ((o && (decide (a0.To = []))) && (decide (a0.Val = [])))) 45 z (congrArg vB (andF T)) ?_))))
            exact nl (At.join () z (.cons z .nil))
          ·rintro _ _ rfl
           refine (show WL _ _ _ _ _ [(45, vB ((o && (decide (a0.To = []))) && (decide (a0.Val = []))))] _ from ?_)
           obtain ⟨aq, am, h⟩ := lt1 h
           refine WL.yE (ya z) (congrArg vB am.symm) z (nl (At.inBlock ?_))
           exact At.join (σ := (Bool × Own)) (aq, D) ⟨some1 h, (sr_ _ _ _)⟩ (.cons z .nil)
     ·rintro ⟨aA, aO⟩ aC ⟨rfl, U⟩
      replace h := aZ
      try dsimp only at h U
      refine (show At _ _ _ [(6, vB aA)] _ from ?_)
      refine th (sq (sq (rg (wY (ym z) z (wY (Y.not z) z (nl (th ?_)))))))
      rcases cnd h with ⟨V, h⟩ | ⟨V, h⟩
      ·refine WC.condT' z V (sq (rg (wY (ya z) z (nl (th (rt (At.thenR ?_)))))))
       obtain rfl := some1 h
       have aL : Stp [] (Lg.O0 A) w aO aC := (tr_ (su_ t z) (tr_ (su_ F z) (tr_ (su_ G z) (su_ U z))))
       exact At.res (.inl z) z (.tmp z .nil) ⟨z, (se_ aL z z)⟩
      ·refine WC.condF' z V (sk (th (sq (rg (wY (ya z) z (nl (th (rt ?_))))))))
       obtain rfl := some1 h
       have aM : Stp [] (Lg.O0 A) w aO aC := (tr_ (su_ t z) (tr_ (su_ F z) (tr_ (su_ G z) (su_ U z))))
       exact At.res (.inl z) z (.tmp z .nil) ⟨z, (se_ aM z z)⟩
theorem c_relabel_Compile {A : Nat → Prop} {a0 : List api_Rule} {v0 : Value} {w : World} (hs0 : Sl rep_api_Rule w A v0 a0) (hG0 : CellsAt w 0 0 [vi 0, vi 0]) (hGA0 : A 0) {r0 : Option relabel_Rules} {r1 : Int} {r2 : Int} (h : relabel_Compile a0 = some (r0, r1, r2)) : Rets Tryd.prog 11 [v0] w (fun v w' => ∃ (u0 : Value), v = tp [u0, vi r1, vi r2] ∧ Ext w w' ∧ OptP u0 r0 fun d => ∃ (p0 : Nat) (am : Value), u0 = .pointer (some ⟨p0, 0, none⟩) ∧ (w'.heap[p0]? = some (.cells (List.toArray [am]) 71 (0, 0)) ∧ w.heap.size ≤ p0) ∧ Sl rep_relabel_rule w' (fun k => w.heap.size ≤ k ∧ k ≠ p0) am d.l) := by
 unfold relabel_Compile at h
 refine Rets.enter Tryd.func11 z z ?_
 have an : Sl rep_api_Rule w (imm (Lg.O0 A)) v0 a0 := (Sl.start hs0)
 have bx : CAt [0, 1] (Lg.O0 A) w 0 0 [vi 0, vi 0] := CAt.glob hG0 (if_pos hGA0)
 refine (show WC _ _ _ _ [(0, v0)] _ from ?_)
 refine sq (rg (wY (ya z) z (wY (ya z) z (wY (ya z) z (nl (th (sq (sq (rg ?_)))))))))
 refine wY (ym z) z (wY (Y.len ty22 z an) z (wY (Y.gtr_i z z) z (nl (th ?_))))
 rcases cnd h with ⟨W, h⟩ | ⟨W, h⟩
 ·refine WC.condT' z W (sq (rg (wY (ya z) z (wY (ya z) z (wY (ya z) z (nl (th (rt (At.thenR ?_)))))))))
  obtain ⟨rfl, rfl, rfl⟩ := tup3 h
  have bz : Stp [] (Lg.O0 A) w (Lg.O0 A) w := (sr_ _ _ _)
  exact At.res (.inl z) z (.tmp z (.tmp z (.tmp z .nil))) ⟨Value.pointer none, z, (se_ bz z z), z⟩
 ·refine WC.condF' z W (sk (th (sq (rg (wY (yb (vals := []) (cells := [sn]) (fe_ z) (by kernel_rfl)) z (WL.box (O := (Lg.O0 A)) 11 [sn] z z z ?_))))))
  intro K ao ap G bA
  refine wY (ya z) z (nl (th (sq (sq (rg (wY (ym z) z ?_))))))
  have aq := an.i G z z
  refine wY (Y.len ty22 z aq) z (wY (ym z) z (nl (th (WC.block ?_))))
  obtain ⟨bo, h, ar⟩ := flow1 h
  obtain ⟨bp, h⟩ := loop_some h
  refine WC.joinB 0 (σ := (List relabel_rule × Own × Value)) (fun x w' => bo = .go x.1 ∧ Stp [11, 12, 13, 15, 1001] ao ap x.2.1 w' ∧ OwnSl 1002 (frR rep_relabel_rule w.heap.size) 73 x.2.1 w' x.2.2 x.1 ∧ Blk 11 x.2.1 w' K 71 [x.2.2]) (fun x => [(5, pt K 0)]) ?_ ?_
  ·refine WC.loop (σ := (List relabel_rule × Int × Own × Value)) (fun x k w' => loopN k (relabel_Compile_lp1 a0) (x.1, x.2.1) = some bo ∧ Stp [11, 12, 13, 15, 1001] ao ap x.2.2.1 w' ∧ OwnSl 1001 (frR rep_relabel_rule w.heap.size) 73 x.2.2.1 w' x.2.2.2 x.1 ∧ Blk 11 x.2.2.1 w' K 71 [x.2.2.2]) (fun x => [(5, pt K 0), (17, v0), (18, vi (a0.length : Int)), (19, vi x.2.1)]) ([], 0, ao, sn) bp (.cons z (.cons z (.cons z (.cons z .nil)))) ⟨h, (sr_ _ _ _), (OwnSl.nil 1001 (frR rep_relabel_rule w.heap.size) 73), bA⟩ ?_
   rintro ⟨b1, bq, b2, b3⟩ bp cj ⟨h, o, X, Q⟩
   obtain ⟨b4, cw, rfl, h, Z⟩ := rnd1 h
   unfold relabel_Compile_lp1 at h
   try dsimp only at h o X Q
   refine (show WC _ _ _ _ [(5, pt K 0), (17, v0), (18, vi (a0.length : Int)), (19, vi bq)] _ from ?_)
   refine sq (rg (wY (Y.lss_i z z) z (nl (th (sq ?_)))))
   rcases cnd h with ⟨aa, h⟩ | ⟨aa, h⟩
   ·refine WC.condT' z aa (sk (th (sq (WC.block (sq (rg (wY (ym z) z ?_)))))))
    obtain ⟨j, bB, h⟩ := bnd h
    have bC := aq.i o z z
    obtain ⟨cx, cc, cd, ck, bD, bE, bF, ab, aH, bG⟩ := Sl.at2 bC bB
    obtain ⟨_, _, rfl, rfl, ⟨_, _, rfl, rfl, ⟨_, _, rfl, rfl, ⟨_, _, rfl, rfl, rfl⟩⟩⟩⟩ := aH
    replace ab : CellsAt _ _ _ [vi j.Kind, vs j.Key, vs j.Glob, vs j.To, vs j.Val] := ab
    have aI := CAt.imm ab bG
    refine wY (Y.indexAddr ty22 ty28 z bD z bE bF) z (wY (yL ty28 z z aI.at_ z) z (WL.alloc (O := b2) 12 [vi 0, vs [], vs [], vs [], vs []] ty28 z z ?_))
    intro cy b5 cl r bH
    refine wY (ya z) z (WL.store (v := ag [vi j.Kind, vs j.Key, vs j.Glob, vs j.To, vs j.Val]) (cells' := [vi j.Kind, vs j.Key, vs j.Glob, vs j.To, vs j.Val]) ty28 z z bH z (le_ z) z z ?_)
    intro cm t au
    refine nl (th (sq (sq (rg (wY (yL ty28 z z (au.cells 0 [vi j.Kind, vs j.Key, vs j.Glob, vs j.To, vs j.Val] z) z) z ?_)))))
    have av := (((bx.st G z).st o z).st r z).st t z
    obtain ⟨cz, bL, h⟩ := bnd h
    refine WL.call (vals := [ag [vi j.Kind, vs j.Key, vs j.Glob, vs j.To, vs j.Val]]) kok10 z z (c_relabel_Check (A := fun _ => True) (a0 := j) av.at_ trivial bL) ?_
    rintro cn bM ⟨rfl, bO⟩
    obtain ⟨br, b6, b7, m⟩ := adoptE b5 (fun k => 1) bO
    refine wY (ya z) z (nl (th (sq (rg (wY (ym z) z (wY (Y.neq_i z z) z (nl (th ?_))))))))
    rcases cnd h with ⟨ac, h⟩ | ⟨ac, h⟩
    ·refine WC.condT' z ac (sq (rg (wY (ym z) z (wY (ym z) z (wY (ya z) z (wY (ya z) z (wY (ya z) z (nl (th ?_)))))))))
     refine rt (At.thenR (At.inBlockR (At.thenR (At.loopR ?_))))
     have h := outr1 h Z ar
     refine At.joinBR (At.inBlockR (At.thenR ?_))
     obtain ⟨rfl, rfl, rfl⟩ := tup3 h
     have bP : Stp [11, 12, 13, 15, 1001] (Lg.O0 A) w br bM := (tr_ (su_ G z) (tr_ (su_ o z) (tr_ (su_ r z) (tr_ (su_ t z) (su_ m z)))))
     exact At.res (.inl z) z (.tmp z (.tmp z (.tmp z .nil))) ⟨Value.pointer none, z, (se_ bP z z), z⟩
    ·refine WC.condF' z ac (sk (th (sq (rg (wY (yf fo28_2 z) z ?_)))))
     have ax := au.st m z
     refine wY (yl ty9 z z (ax.cell 2 _ z)) z ?_
     have bQ := av.st m z
     obtain ⟨⟨bs, cA, cC⟩, bR, h⟩ := bnd h
     refine WL.call (vals := [vs j.Glob]) kok26 z z (c_glob_Compile (A := fun _ => True) bQ.at_ trivial bR) ?_
     rintro co bS ⟨b8, rfl, bT, bt⟩
     obtain ⟨bu, b9, T, H⟩ := adoptE br (labP b8 13) bT
     refine wY (ym z) z (wY (yx z z) z (wY (yx z z) z (wY (yx z z) z (wY (ya z) z (wY (ya z) z (wY (ya z) z (nl (th (WC.drawH [13, 1001] [0, 1, 2, 3, 4, 5, 6, 7, 8, 9, 10, 11] bu 13 fmix z (by kernel_rfl) ?_)))))))))
     intro bU D
     refine WD.y 0 z (by kernel_rfl) (fun _ _ _ => ym z) z (WD.y 1 z (by kernel_rfl) (fun _ _ _ => ym z) z (WD.y 2 z (by kernel_rfl) (fun _ _ _ => yn z) z (WD.y 3 z (by kernel_rfl) (fun _ _ _ => yf fo71_0 z) z (WD.y 4 z (by kernel_rfl) (fun ce cq ay => have aJ := Q.st r z; have aK := aJ.st t z; have aL := aK.st m z; have aM := aL.st H z; have aN := aM.st D z; have aO := aN.st ay z; yl ty69 z z (aO.cell 0 _ z)) z (WD.y 5 z (by kernel_rfl) (fun cf cr az => have aP := ax.st H z; have aQ := aP.st D z; have aR := aQ.st az z; yL ty28 z z (aR.cells 0 [vi j.Kind, vs j.Key, vs j.Glob, vs j.To, vs j.Val] z) z) z (WD.y 6 z (by kernel_rfl) (fun _ _ _ => ym z) z ?_))))))
     have aS := h
     obtain ⟨I, rfl, _⟩ := OptP.isPtr bt (fun d hd => by obtain ⟨_, _, e, _⟩ := hd; exact ⟨_, e⟩)
     have h := aS
     refine WD.y 7 z (by kernel_rfl) (fun _ _ _ => yb (vals := [(0, ag [vi j.Kind, vs j.Key, vs j.Glob, vs j.To, vs j.Val]), (1, (Value.pointer I))]) (cells := [vi j.Kind, vs j.Key, vs j.Glob, vs j.To, vs j.Val, (Value.pointer I)]) (fe_ z) (by kernel_rfl)) z (WD.heavy 8 z (by kernel_rfl) ?_)
     have aT : Pr rep_glob_Glob 96 bS (lbs 13 bu) (Value.pointer I) bs := OptP.pr bt (fun d hd => by obtain ⟨ad, bW, eqp, ai, bX⟩ := hd; cases eqp; exact ⟨ad, _, rfl, .inr ((T ad ai.2).trans (labP_at ad 13)), ai.1, ⟨[vs d.text], [bW], rfl, rfl, ⟨_, rfl, (Sl.mono (Sl.adoptF bX (fun k hk => ⟨hk.1, labP_ne hk.2⟩) T) frs_lbs)⟩⟩⟩)
     have aU := aT.mono (lbs_st D z z)
     obtain ⟨aA, F, aW⟩ := Pr.give rfl aU
     have aX : Stp [11, 12, 13, 15, 1001] (Lg.O0 A) w aA bU := (tr_ (su_ G z) (tr_ (su_ o z) (tr_ (su_ r z) (tr_ (su_ t z) (tr_ (su_ m z) (tr_ (su_ H z) (tr_ (su_ D z) (su_ F z))))))))
     refine WL.buildSlice (O := aA) (R := (frR rep_relabel_rule w.heap.size)) (vals := [(0, ag [vi j.Kind, vs j.Key, vs j.Glob, vs j.To, vs j.Val, (Value.pointer I)])]) 14 [vi j.Kind, vs j.Key, vs j.Glob, vs j.To, vs j.Val, (Value.pointer I)] (xs := [(relabel_rule.mk j bs)]) (by decide) ty69 ty73 (show 0 < rep_relabel_rule.n by decide) (show 1 * rep_relabel_rule.n ≤ 65536 by decide) (fe_ z) (by kernel_rfl) z ⟨[vi j.Kind, vs j.Key, vs j.Glob, vs j.To, vs j.Val, (Value.pointer I)], [], z, ⟨[vi j.Kind, vs j.Key, vs j.Glob, vs j.To, vs j.Val], [(Value.pointer I)], z, ⟨[vi j.Kind], [vs j.Key, vs j.Glob, vs j.To, vs j.Val], z, z, ⟨[vs j.Key], [vs j.Glob, vs j.To, vs j.Val], z, z, ⟨[vs j.Glob], [vs j.To, vs j.Val], z, z, ⟨[vs j.To], [vs j.Val], z, z, z⟩⟩⟩⟩, ⟨_, z, (Pr.frB aW aX low0)⟩⟩, z⟩ z ?_
     intro cs ct cg J aY
     refine nl (At.dq (tr_ (su_ F z) (su_ J z)) (WD.heavy 9 z (by kernel_rfl) ?_))
     obtain ⟨aZ, aC, h⟩ := bnd h
     have a7 := ((((((X.st r z z z).st t z z z).st m z z z).st H z z z).st D z z z).st F z z z).st J z z z
     refine WL.append (by decide) ty69 ty73 z (by decide) z z a7 aY.src aC z ?_
     intro cu bY ch M aj
     refine nl (At.dq (su_ M z) (WD.y 10 z (by kernel_rfl) (fun _ _ _ => yn z) z (WD.y 11 z (by kernel_rfl) (fun _ _ _ => yf fo71_0 z) z (WD.phase [11] [0, 1, 2, 3, 4, 5, 6, 7, 8, 9, 10, 11, 12] (by kernel_rfl) (by kernel_rfl) (WD.heavy 12 z (by kernel_rfl) ?_)))))
     have a8 := h
     obtain ⟨ae, af, ah, rfl⟩ := aj.shape
     have h := a8
     have bh := (((((((Q.st r z).st t z).st m z).st H z).st D z).st F z).st J z).st M z
     refine WL.store (v := (vl ae af ah)) (cells' := [(vl ae af ah)]) ty69 z z bh z (le_ z) z z ?_
     intro ci P bi
     refine nl (At.dq (su_ P z) (WD.done_ (by kernel_rfl) (At.inBlock (th (rg (wY (Y.add_i z z) z (wY (ym z) z (nl ?_))))))))
     have bj := aj.st P z z z
     exact At.round (aZ, w64 (bq + 1), bY, (vl ae af ah)) b4 (Nat.lt_succ_self _) ⟨next1 h Z, (tr_ (su_ o z) (tr_ (su_ r z) (tr_ (su_ t z) (tr_ (su_ m z) (tr_ (su_ H z) (tr_ (su_ D z) (tr_ (su_ F z) (tr_ (su_ J z) (tr_ (su_ M z) (su_ P z)))))))))), bj, bi⟩ (.cons z (.cons z (.cons z (.cons z .nil))))
   ·refine WC.condF' z aa (WC.exit (At.thenX (At.loopX ?_)))
    obtain ⟨bZ, U, bk⟩ := OwnSl.rlb 1002 rfl X
    have bl := Q.st U z
    exact At.hitB (σ := (List relabel_rule × Own × Value)) (b1, bZ, b3) ⟨brk1 h Z, (tr_ (su_ o z) (su_ U z)), bk, bl⟩ (.cons z .nil)
  ·rintro ⟨cD, ca, cb⟩ aD ⟨rfl, S, aE, aF⟩
   replace h := flowK_go ar
   try dsimp only at h S aE aF
   refine (show At _ _ _ [(5, pt K 0)] _ from ?_)
   refine At.inBlockHit (th (sq (rg (wY (ym z) z (wY (ya z) z (wY (ya z) z (wY (ya z) z (nl (th ?_)))))))))
   refine rt ?_
   obtain ⟨rfl, rfl, rfl⟩ := tup3 h
   have bm : Stp [11, 12, 13, 15, 1001] (Lg.O0 A) w ca aD := (tr_ (su_ G z) (su_ S z))
   obtain ⟨b0, V, bn⟩ := OwnSl.giveB rfl aE bm low0
   have ak : Stp [11, 12, 13, 15, 1001, 1002] (Lg.O0 A) w b0 aD := (tr_ (su_ G z) (tr_ (su_ S z) (su_ V z)))
   have al := aF.st V z
   exact At.res (.inl z) z (.tmp z (.tmp z (.tmp z .nil))) ⟨pt K 0, z, (se_ ak z z), ⟨K, cb, z, (Blk.outF al ak low0 z), (Sl.outFNb bn al.lab z)⟩⟩
theorem c_relabel_Rules_Len {A : Nat → Prop} {v0_0 : Value} {a0 : relabel_Rules} {b0 : Nat} {w : World} (hs0_0 : Sl rep_relabel_rule w A v0_0 a0.l) (hb0 : w.heap[b0]? = some (.cells (List.toArray [v0_0]) 71 (0, 0))) (hm0 : A b0) {r0 : Int} (h : relabel_Rules_Len a0 = some r0) : Rets Tryd.prog 12 [pt b0 0] w (fun v w' => v = vi r0 ∧ Ext w w') := by
 unfold relabel_Rules_Len at h
 refine Rets.enter Tryd.func12 z z ?_
 have j : Sl rep_relabel_rule w (imm (Lg.O0 A)) v0_0 a0.l := (Sl.start hs0_0)
 have m : Blk 0 (Lg.O0 A) w b0 71 [v0_0] := ⟨(if_pos hm0), hb0⟩
 refine (show WC _ _ _ _ [(0, pt b0 0)] _ from ?_)
 refine sq (rg (wY (ya z) z (nl (th (sq (rg (wY (ym z) z (wY (yn z) z (wY (yf fo71_0 z) z ?_)))))))))
 refine wY (yl ty69 z z (m.cell 0 _ z)) z (wY (Y.len ty69 z j) z ?_)
 obtain ⟨t, o, h⟩ := lt1 h
 refine WL.yE (ya z) (congrArg vi o.symm) z (nl (th (rt ?_)))
 obtain rfl := some1 h
 have r : Stp [] (Lg.O0 A) w (Lg.O0 A) w := (sr_ _ _ _)
 exact At.res (.inl z) z (.tmp z .nil) ⟨z, (se_ r z z)⟩
theorem c_slices_Clone_api_Pair_api_Pair {A : Nat → Prop} {a0 : List api_Pair} {v0 : Value} {w : World} (hs0 : Sl rep_api_Pair w A v0 a0) {r0 : List api_Pair} (h : slices_Clone_api_Pair_api_Pair a0 = some r0) : Rets Tryd.prog 43 [v0] w (fun v w' => ∃ (r : Value), v = r ∧ Ext w w' ∧ RowF rep_api_Pair 59 w w' r r0) := by
  unfold slices_Clone_api_Pair_api_Pair at h
  refine Rets.enter Tryd.func43 z z ?_
  refine (show WC _ _ _ _ [(0, v0)] _ from ?_)
  refine sq (rg (wY (ya z) z (nl (th ?_))))
  refine sq (sq (rg ?_))
  refine wY (ym z) z ?_
  rcases hs0.nilOr with ⟨rfl, rfl⟩ | ⟨q, n, c, rfl⟩
  · refine wY (Y.slnil (p := none) (n := 0) (c := 0) ty33.u z z) z (nl (th ?_))
    refine WC.condT z (sq (rg (wY (ya z) z (nl (th (rt (At.thenR ?_)))))))
    have : r0 = [] := by simpa [app] using h.symm
    subst this
    exact At.res (.inl z) z (.tmp z .nil) ⟨_, z, Ext.refl w, RowF.nil⟩
  · refine wY (Y.slnil (p := some _) ty33.u z z) z (nl (th ?_))
    refine WC.condF z (sk (th ?_))
    refine sq (rg ?_)
    have hs := hs0
    refine WL.buildSlice (O := Lg.O0 A) (R := rep_api_Pair) (vals := []) 11 [] (xs := []) (by decide) ty33 ty59 (by decide) (by decide) (fe_ z) (by kernel_rfl) z z z ?_
    intro v I J j t
    refine wY (ym z) z ?_
    have D := (Sl.start hs).i j z z
    refine WL.append (by decide) ty33 ty59 z (by decide) z z t D.src h z ?_
    intro K G H o F
    refine wY (ya z) z (nl (th (rt ?_)))
    have m : Stp [11] (Lg.O0 A) w G H := (tr_ (su_ j z) o)
    exact At.res (.inl z) z (.tmp z .nil) ⟨_, z, se_ m z z, OwnSl.outF F m low0 z⟩
theorem c_slices_Clone_uint64_uint64 {A : Nat → Prop} {a0 : List UInt64} {v0 : Value} {w : World} (hs0 : Sl Rep.u w A v0 a0) {r0 : List UInt64} (h : slices_Clone_uint64_uint64 a0 = some r0) : Rets Tryd.prog 66 [v0] w (fun v w' => ∃ (r : Value), v = r ∧ Ext w w' ∧ RowF Rep.u 34 w w' r r0) := by
  unfold slices_Clone_uint64_uint64 at h
  refine Rets.enter Tryd.func66 z z ?_
  refine (show WC _ _ _ _ [(0, v0)] _ from ?_)
  refine sq (rg (wY (ya z) z (nl (th ?_))))
  refine sq (sq (rg ?_))
  refine wY (ym z) z ?_
  rcases hs0.nilOr with ⟨rfl, rfl⟩ | ⟨q, n, c, rfl⟩
  · refine wY (Y.slnil (p := none) (n := 0) (c := 0) ty35.u z z) z (nl (th ?_))
    refine WC.condT z (sq (rg (wY (ya z) z (nl (th (rt (At.thenR ?_)))))))
    have : r0 = [] := by simpa [app] using h.symm
    subst this
    exact At.res (.inl z) z (.tmp z .nil) ⟨_, z, Ext.refl w, RowF.nil⟩
  · refine wY (Y.slnil (p := some _) ty35.u z z) z (nl (th ?_))
    refine WC.condF z (sk (th ?_))
    refine sq (rg ?_)
    have hs := hs0
    refine WL.buildSlice (O := Lg.O0 A) (R := Rep.u) (vals := []) 11 [] (xs := []) (by decide) ty35 ty34 (by decide) (by decide) (fe_ z) (by kernel_rfl) z z z ?_
    intro v I J j t
    refine wY (ym z) z ?_
    have D := (Sl.start hs).i j z z
    refine WL.append (by decide) ty35 ty34 z (by decide) z z t D.src h z ?_
    intro K G H o F
    refine wY (ya z) z (nl (th (rt ?_)))
    have m : Stp [11] (Lg.O0 A) w G H := (tr_ (su_ j z) o)
    exact At.res (.inl z) z (.tmp z .nil) ⟨_, z, se_ m z z, OwnSl.outF F m low0 z⟩
theorem c_hist_Clone {A : Nat → Prop} {v0_3 : Value} {v0_5 : Value} {a0 : api_Hist} {w : World} (hs0_3 : Sl Rep.u w A v0_3 a0.Pos.Counts) (hs0_5 : Sl Rep.u w A v0_5 a0.Neg.Counts) {r0 : api_Hist} (h : hist_Clone a0 = some r0) : Rets Tryd.prog 44 [ag (hl a0 v0_3 v0_5)] w (fun v w' => ∃ (S : Value) (T : Value), v = ag (hl r0 S T) ∧ Ext w w' ∧ RowF Rep.u 34 w w' S r0.Pos.Counts ∧ RowF Rep.u 34 w w' T r0.Neg.Counts ∧ (∀ k, ob S = some k → ob T ≠ some k)) := by
 unfold hist_Clone at h
 refine Rets.enter Tryd.func44 z z ?_
 have Z : Sl Rep.u w (imm (Lg.O0 A)) v0_3 a0.Pos.Counts := (Sl.start hs0_3)
 have aa : Sl Rep.u w (imm (Lg.O0 A)) v0_5 a0.Neg.Counts := (Sl.start hs0_5)
 refine (show WC _ _ _ _ [(0, ag (hl a0 v0_3 v0_5))] _ from ?_)
 refine sq (rg ?_)
 have aM := h
 obtain ⟨aG, aH, aI, rfl⟩ := Z.shape
 have h := aM
 have aN := h
 obtain ⟨ab, ac, ad, rfl⟩ := aa.shape
 have h := aN
 refine WL.box (O := (Lg.O0 A)) 11 (hl a0 (vl aG aH aI) (vl ab ac ad)) z z z ?_
 intro bt bf bo P U
 refine WL.alloc (O := bf) 12 hzr ty39 z z ?_
 intro bu aJ bp r aO
 refine nl (th (sq (WC.drawH [] [0, 1, 2, 3, 4, 5, 6, 7, 8, 9] aJ 14 fmix z (by kernel_rfl) ?_)))
 intro bq j
 refine WD.y 0 z (by kernel_rfl) (fun _ _ _ => yf fo39_2 z) z (WD.y 1 z (by kernel_rfl) (fun _ _ _ => yf fo37_1 z) z (WD.y 2 z (by kernel_rfl) (fun br bw ak => have aP := U.st r z; have aQ := aP.st j z; have aR := aQ.st ak z; yl ty35 z z (aR.cell 3 _ z)) z (WD.y 4 z (by kernel_rfl) (fun _ _ _ => yf fo39_3 z) z (WD.y 5 z (by kernel_rfl) (fun _ _ _ => yf fo37_1 z) z (WD.y 6 z (by kernel_rfl) (fun bs bx al => have aS := U.st r z; have aT := aS.st j z; have aU := aT.st al z; yl ty35 z z (aU.cell 5 _ z)) z (WD.heavy 3 z (by kernel_rfl) ?_))))))
 have aY := ((Z.i P z z).i r z z).i j z z
 obtain ⟨bg, aZ, h⟩ := bnd h
 refine WL.call (vals := [(vl aG aH aI)]) kok66 z z (c_slices_Clone_uint64_uint64 (A := fun _ => True) (Sl.all aY) aZ) ?_
 rintro ae a1 ⟨_, rfl, a2, bh⟩
 obtain ⟨aK, bi, af, G⟩ := adoptE aJ (fun k => if ob ae = some k then 13 else 1) a2
 have a3 : OwnSl 13 Rep.u 34 aK a1 ae bg := RowF.adopt 13 Flat.u bh af (fun k hk => if_pos hk)
 refine nl (At.dq (su_ G z) (WD.y 8 z (by kernel_rfl) (fun _ _ _ => yf fo39_2 z) z (WD.y 9 z (by kernel_rfl) (fun _ _ _ => yf fo37_1 z) z (WD.heavy 7 z (by kernel_rfl) ?_))))
 have a7 := (((aa.i P z z).i r z z).i j z z).i G z z
 obtain ⟨bj, a8, h⟩ := bnd h
 refine WL.call (vals := [(vl ab ac ad)]) kok66 z z (c_slices_Clone_uint64_uint64 (A := fun _ => True) (Sl.all a7) a8) ?_
 rintro ah a9 ⟨_, rfl, ba, bk⟩
 obtain ⟨aL, bl, ai, H⟩ := adoptE aK (fun k => if ob ah = some k then 14 else 1) ba
 have bb : OwnSl 14 Rep.u 34 aL a9 ah bj := RowF.adopt 14 Flat.u bk ai (fun k hk => if_pos hk)
 refine nl (At.dq (su_ H z) (WD.phase [11] [0, 1, 2, 3, 4, 5, 6, 7, 8, 9, 10, 11, 12] (by kernel_rfl) (by kernel_rfl) (WD.heavy 10 z (by kernel_rfl) ?_)))
 have aj := a3.st H z z z
 have bc := h
 obtain ⟨I, J, K, rfl⟩ := aj.shape
 have h := bc
 have ao := (((U.st r z).st j z).st G z).st H z
 refine WL.store (v := (vl I J K)) (cells' := (hl a0 (vl I J K) (vl ab ac ad))) ty35 z z ao z (le_ z) z z ?_
 intro bm m ap
 refine nl (At.dq (su_ m z) (WD.y 11 z (by kernel_rfl) (fun _ _ _ => yf fo39_3 z) z (WD.y 12 z (by kernel_rfl) (fun _ _ _ => yf fo37_1 z) z (WD.phase [11] [0, 1, 2, 3, 4, 5, 6, 7, 8, 9, 10, 11, 12, 13] (by kernel_rfl) (by kernel_rfl) (WD.heavy 13 z (by kernel_rfl) ?_)))))
 have V := bb.st m z z z
 have aq := h
 obtain ⟨t, D, F, rfl⟩ := V.shape
 have h := aq
 refine WL.store (v := (vl t D F)) (cells' := (hl a0 (vl I J K) (vl t D F))) ty35 z z ap z (le_ z) z z ?_
 intro bn o ar
 refine nl (At.dq (su_ o z) (WD.done_ (by kernel_rfl) (th (sq (rg (wY (yL ty39 z z (ar.cells 0 (hl a0 (vl I J K) (vl t D F)) z) z) z ?_))))))
 have az := ((((aO.st j z).st G z).st H z).st m z).st o z
 refine WL.store (v := ag (hl a0 (vl I J K) (vl t D F))) (cells' := (hl a0 (vl I J K) (vl t D F))) ty39 z z az z (le_ z) z z ?_
 intro aA M aC
 refine nl (th (rt ?_))
 obtain rfl := some1 h
 have Q : Stp [11, 12] (Lg.O0 A) w aL aA := (tr_ (su_ P z) (tr_ (su_ r z) (tr_ (su_ j z) (tr_ (su_ G z) (tr_ (su_ H z) (tr_ (su_ m z) (tr_ (su_ o z) (su_ M z))))))))
 have W := ((aj.st m z z z).st o z z z).st M z z z
 have X := (V.st o z z z).st M z z z
 exact At.res (.inl z) z (.cell z (aC.runAg 0 (hl a0 (vl I J K) (vl t D F)) ty39 z z z) .nil) ⟨(vl I J K), (vl t D F), z, (se_ Q z z), (OwnSl.outF W Q low0 z), (OwnSl.outF X Q low0 z), (ne_own W X z)⟩
theorem c_point_Clone {A : Nat → Prop} {v0_1 : Value} {v0_13 : Value} {v0_15 : Value} {a0 : api_Point} {w : World} (hs0_1 : Sl rep_api_Pair w A v0_1 a0.Attrs) (hs0_13 : Sl Rep.u w A v0_13 a0.Hist.Pos.Counts) (hs0_15 : Sl Rep.u w A v0_15 a0.Hist.Neg.Counts) {r0 : api_Point} (h : point_Clone a0 = some r0) : Rets Tryd.prog 21 [ag (cp a0 v0_1 v0_13 v0_15)] w (fun v w' => ∃ (X : Value) (I : Value) (J : Value), v = ag (cp r0 X I J) ∧ Ext w w' ∧ RowF rep_api_Pair 59 w w' X r0.Attrs ∧ RowF Rep.u 34 w w' I r0.Hist.Pos.Counts ∧ RowF Rep.u 34 w w' J r0.Hist.Neg.Counts ∧ (∀ k, ob X = some k → ob I ≠ some k) ∧ (∀ k, ob X = some k → ob J ≠ some k) ∧ (∀ k, ob I = some k → ob J ≠ some k)) := by
 unfold point_Clone at h
 refine Rets.enter Tryd.func21 z z ?_
 have ak : Sl rep_api_Pair w (imm (Lg.O0 A)) v0_1 a0.Attrs := (Sl.start hs0_1)
 have al : Sl Rep.u w (imm (Lg.O0 A)) v0_13 a0.Hist.Pos.Counts := (Sl.start hs0_13)
 have am : Sl Rep.u w (imm (Lg.O0 A)) v0_15 a0.Hist.Neg.Counts := (Sl.start hs0_15)
 refine (show WC _ _ _ _ [(0, ag (cp a0 v0_1 v0_13 v0_15))] _ from ?_)
 refine sq (rg ?_)
 have aM := h
 obtain ⟨aH, aI, aJ, rfl⟩ := ak.shape
 have h := aM
 have aN := h
 obtain ⟨ad, ae, af, rfl⟩ := al.shape
 have h := aN
 have aO := h
 obtain ⟨ah, ai, aj, rfl⟩ := am.shape
 have h := aO
 refine WL.box (O := (Lg.O0 A)) 11 (cp a0 (vl aH aI aJ) (vl ad ae af) (vl ah ai aj)) z z z ?_
 intro bA bk bt K aP
 refine WL.alloc (O := bk) 12 [vs [], sn, vi 0, vi 0, vB false, vi 0, vi 0, vi 0, vu 0, vu 0, vi 0, vu 0, vi 0, sn, vi 0, sn, vi 0] ty41 z z ?_
 intro bB bl bu m aQ
 refine nl (th (sq (rg (wY (yf fo41_1 z) z ?_))))
 have an := aP.st m z
 refine wY (yl ty33 z z (an.cell 1 _ z)) z ?_
 have aS := (ak.i K z z).i m z z
 obtain ⟨bm, aT, h⟩ := bnd h
 refine WL.call (vals := [(vl aH aI aJ)]) kok43 z z (c_slices_Clone_api_Pair_api_Pair (A := fun _ => True) (Sl.all aS) aT) ?_
 rintro ao aU ⟨_, rfl, aW, bn⟩
 obtain ⟨aK, bo, ap, o⟩ := adoptE bl (fun k => if ob ao = some k then 13 else 1) aW
 have aq : OwnSl 13 rep_api_Pair 59 aK aU ao bm := RowF.adopt 13 flat_api_Pair bn ap (fun k hk => if_pos hk)
 refine wY (yf fo41_1 z) z ?_
 have aX := h
 obtain ⟨F, G, H, rfl⟩ := aq.shape
 have h := aX
 have aY := an.st o z
 refine WL.store (v := (vl F G H)) (cells' := (cp a0 (vl F G H) (vl ad ae af) (vl ah ai aj))) ty33 z z aY z (le_ z) z z ?_
 intro bw r ar
 refine nl (th (sq (rg (wY (yf fo41_10 z) z (wY (yL ty39 z z (ar.cells 10 (hl a0.Hist (vl ad ae af) (vl ah ai aj)) z) z) z ?_)))))
 have a3 := (((al.i K z z).i m z z).i o z z).i r z z
 have a7 := (((am.i K z z).i m z z).i o z z).i r z z
 obtain ⟨j, a8, h⟩ := bnd h
 refine WL.call (vals := [ag (hl a0.Hist (vl ad ae af) (vl ah ai aj))]) kok44 z z (c_hist_Clone (A := fun _ => True) (a0 := a0.Hist) (Sl.all a3) (Sl.all a7) a8) ?_
 rintro bx au ⟨av, aL, rfl, a9, bp, bq, br⟩
 obtain ⟨ax, bs, ac, M⟩ := adoptE aK (fun k => if ob av = some k then 14 else if ob aL = some k then 15 else 1) a9
 have ay : OwnSl 14 Rep.u 34 ax au av j.Pos.Counts := RowF.adopt 14 Flat.u bp ac (fun k hk => if_pos hk)
 have az : OwnSl 15 Rep.u 34 ax au aL j.Neg.Counts := RowF.adopt 15 Flat.u bq ac (fun k hk => (if_neg (fun (e : ob av = some k) => br k e hk)).trans (if_pos hk))
 refine wY (yf fo41_10 z) z ?_
 have ba := h
 obtain ⟨Q, S, T, rfl⟩ := ay.shape
 have h := ba
 have bb := h
 obtain ⟨U, V, W, rfl⟩ := az.shape
 have h := bb
 have bc := ar.st M z
 refine WL.store (v := ag (hl j (vl Q S T) (vl U V W))) (cells' := [vs a0.Name, (vl F G H), vi a0.Kind, vi a0.Temp, vB a0.Mono, vi a0.Start, vi a0.Time, vi a0.Int_, vu a0.Re, vu a0.Im, vi j.Scale, vu j.Zero, vi j.Pos.Offset, (vl Q S T), vi j.Neg.Offset, (vl U V W), vi a0.Flags]) ty39 z z bc z (le_ z) z z ?_
 intro bz t bd
 refine nl (th (sq (rg (wY (yL ty41 z z (bd.cells 0 [vs a0.Name, (vl F G H), vi a0.Kind, vi a0.Temp, vB a0.Mono, vi a0.Start, vi a0.Time, vi a0.Int_, vu a0.Re, vu a0.Im, vi j.Scale, vu j.Zero, vi j.Pos.Offset, (vl Q S T), vi j.Neg.Offset, (vl U V W), vi a0.Flags] z) z) z ?_))))
 have bi := (((aQ.st o z).st r z).st M z).st t z
 refine WL.store (v := ag [vs a0.Name, (vl F G H), vi a0.Kind, vi a0.Temp, vB a0.Mono, vi a0.Start, vi a0.Time, vi a0.Int_, vu a0.Re, vu a0.Im, vi j.Scale, vu j.Zero, vi j.Pos.Offset, (vl Q S T), vi j.Neg.Offset, (vl U V W), vi a0.Flags]) (cells' := [vs a0.Name, (vl F G H), vi a0.Kind, vi a0.Temp, vB a0.Mono, vi a0.Start, vi a0.Time, vi a0.Int_, vu a0.Re, vu a0.Im, vi j.Scale, vu j.Zero, vi j.Pos.Offset, (vl Q S T), vi j.Neg.Offset, (vl U V W), vi a0.Flags]) ty41 z z bi z (le_ z) z z ?_
 intro bj D aA
 refine nl (th (rt ?_))
 obtain rfl := some1 h
 have P : Stp [11, 12] (Lg.O0 A) w ax bj := (tr_ (su_ K z) (tr_ (su_ m z) (tr_ (su_ o z) (tr_ (su_ r z) (tr_ (su_ M z) (tr_ (su_ t z) (su_ D z)))))))
 have Z := (((aq.st r z z z).st M z z z).st t z z z).st D z z z
 have aa := (ay.st t z z z).st D z z z
 have ab := (az.st t z z z).st D z z z
 exact At.res (.inl z) z (.cell z (aA.runAg 0 [vs a0.Name, (vl F G H), vi a0.Kind, vi a0.Temp, vB a0.Mono, vi a0.Start, vi a0.Time, vi a0.Int_, vu a0.Re, vu a0.Im, vi j.Scale, vu j.Zero, vi j.Pos.Offset, (vl Q S T), vi j.Neg.Offset, (vl U V W), vi a0.Flags] ty41 z z z) .nil) ⟨(vl F G H), (vl Q S T), (vl U V W), z, (se_ P z z), (OwnSl.outF Z P low0 z), (OwnSl.outF aa P low0 z), (OwnSl.outF ab P low0 z), (ne_own Z aa z), (ne_own Z ab z), (ne_own aa ab z)⟩
theorem c_point_kinds {A : Nat → Prop} {v0_1 : Value} {v0_13 : Value} {v0_15 : Value} {a0 : api_Point} {w : World} (hs0_1 : Sl rep_api_Pair w A v0_1 a0.Attrs) (hs0_13 : Sl Rep.u w A v0_13 a0.Hist.Pos.Counts) (hs0_15 : Sl Rep.u w A v0_15 a0.Hist.Neg.Counts) {r0 : Bool} (h : point_kinds a0 = some r0) : Rets Tryd.prog 50 [ag (cp a0 v0_1 v0_13 v0_15)] w (fun v w' => v = vB r0 ∧ Ext w w') := by
 unfold point_kinds at h
 refine Rets.enter Tryd.func50 z z ?_
 have K : Sl rep_api_Pair w (imm (Lg.O0 A)) v0_1 a0.Attrs := (Sl.start hs0_1)
 have M : Sl Rep.u w (imm (Lg.O0 A)) v0_13 a0.Hist.Pos.Counts := (Sl.start hs0_13)
 have P : Sl Rep.u w (imm (Lg.O0 A)) v0_15 a0.Hist.Neg.Counts := (Sl.start hs0_15)
 refine (show WC _ _ _ _ [(0, ag (cp a0 v0_1 v0_13 v0_15))] _ from ?_)
 refine sq (rg ?_)
 have Q := h
 obtain ⟨ah, ai, aj, rfl⟩ := K.shape
 have h := Q
 have S := h
 obtain ⟨ak, al, am, rfl⟩ := M.shape
 have h := S
 have T := h
 obtain ⟨an, ao, ap, rfl⟩ := P.shape
 have h := T
 refine WL.box (O := (Lg.O0 A)) 11 (cp a0 (vl ah ai aj) (vl ak al am) (vl an ao ap)) z z z ?_
 intro J I j m o
 refine wY (ya z) z (nl (th (sq (sq (rg (wY (yf fo41_2 z) z (wY (yl ty3 z z (o.cell 2 _ z)) z (nl (th ?_)))))))))
 refine WC.block (sq (rg (wY (Y.eql_i z z) z ?_)))
 obtain ⟨az, U, h⟩ := lt1 h
 refine WL.yE (ya z) (congrArg vB U.symm) z (nl (th ?_))
 rcases cnd h with ⟨r, h⟩ | ⟨r, h⟩
 ·refine WC.condT' z r (sq (rg (wY (yf fo41_3 z) z (wY (yl ty3 z z (o.cell 3 _ z)) z (wY (Y.eql_i z z) z ?_)))))
  obtain ⟨aA, V, h⟩ := lt1 h
  refine WL.yE (ya z) (congrArg vB V.symm) z (nl (th (rt (At.inBlockR (At.thenR ?_)))))
  obtain rfl := some1 h
  have W : Stp [] (Lg.O0 A) w I j := (su_ m z)
  exact At.res (.inl z) z (.tmp z .nil) ⟨z, (se_ W z z)⟩
 ·refine WC.condF' z r (sq ?_)
  obtain ⟨aq, h, X⟩ := bnd h
  refine WC.join (σ := Bool) (fun x w' => x = aq ∧ j = w') (fun x => [(1, pt J 0), (10, vB x)]) ?_ ?_
  ·refine sq (rg (wY (Y.eql_i z z) z ?_))
   obtain ⟨ar, Z, h⟩ := lt1 h
   refine WL.yE (ya z) (congrArg vB Z.symm) z (nl (th ?_))
   rcases cnd h with ⟨t, h⟩ | ⟨t, h⟩
   ·refine WC.condT' z t (sk ?_)
    exact At.join (σ := Bool) ar ⟨some1 h, z⟩ (.cons z (.cons z .nil))
   ·refine WC.condF' z t (sq (rg (wY (Y.eql_i z z) z ?_)))
    obtain ⟨au, aa, h⟩ := lt1 h
    refine WL.yE (ya z) (congrArg vB aa.symm) z (nl (th ?_))
    rcases cnd h with ⟨D, h⟩ | ⟨D, h⟩
    ·refine WC.condT' z D (sk ?_)
     exact At.join (σ := Bool) au ⟨some1 h, z⟩ (.cons z (.cons z .nil))
    ·refine WC.condF' z D (sq (rg (wY (Y.eql_i z z) z ?_)))
     obtain ⟨av, ab, h⟩ := lt1 h
     refine WL.yE (ya z) (congrArg vB ab.symm) z (nl (th ?_))
     rcases cnd h with ⟨F, h⟩ | ⟨F, h⟩
     ·refine WC.condT' z F (sk ?_)
      exact At.join (σ := Bool) av ⟨some1 h, z⟩ (.cons z (.cons z .nil))
     ·refine WC.condF' z F (rg (wY (Y.eql_i z z) z ?_))
      obtain ⟨ax, ac, h⟩ := lt1 h
      refine WL.yE (ya z) (congrArg vB ac.symm) z (nl ?_)
      exact At.join (σ := Bool) ax ⟨some1 h, z⟩ (.cons z (.cons z .nil))
  ·rintro ay _ ⟨rfl, rfl⟩
   replace h := X
   try dsimp only at h
   refine (show At _ _ _ [(1, pt J 0), (10, vB ay)] _ from ?_)
   refine th ?_
   rcases cnd h with ⟨G, h⟩ | ⟨G, h⟩
   ·refine WC.condT' z G (sq (rg (wY (yf fo41_3 z) z (wY (yl ty3 z z (o.cell 3 _ z)) z (wY (Y.eql_i z z) z (wY (ym z) z ?_))))))
    refine WL.cut 4 (σ := Unit) (fun _ w' => j = w') (fun _ => [(22, vB ((decide (a0.Temp = 1)) || (decide (a0.Temp = 2))))]) ?_ ?_
    ·refine WL.part 18 z (fun H => ?_) (fun H => ?_)
     ·refine WL.gS z z z z (WL.gS z z z z (WL.gS z z z z (wY (Y.pick (b := true) z z) z (WL.ren (v' := vB ((decide (a0.Temp = 1)) || (decide (a0.Temp = 2)))) 22 z (congrArg vB (orT H)) ?_))))
      exact nl (At.join () z (.cons z .nil))
     ·refine ug z z (wY (yf fo41_3 z) z (ug z z (wY (yl ty3 z z (o.cell 3 _ z)) z (ug z z (wY (Y.eql_i z z) z (wY (Y.pick (b := false) z z) z (WL.ren (v' := vB ((decide (a0.Temp = 1)) || (decide (a0.Temp = 2)))) 22 z (congrArg vB (orF H)) ?_)))))))
      exact nl (At.join () z (.cons z .nil))
    ·rintro _ _ rfl
     refine (show WL _ _ _ _ _ [(22, vB ((decide (a0.Temp = 1)) || (decide (a0.Temp = 2))))] _ from ?_)
     obtain ⟨aC, ad, h⟩ := lt1 h
     refine WL.yE (ya z) (congrArg vB ad.symm) z (nl (th (rt (At.inBlockR (At.thenR ?_)))))
     obtain rfl := some1 h
     have ae : Stp [] (Lg.O0 A) w I j := (su_ m z)
     exact At.res (.inl z) z (.tmp z .nil) ⟨z, (se_ ae z z)⟩
   ·refine WC.condF' z G (sk (At.inBlock (th (sq (rg (wY (ya z) z (nl (th (rt ?_)))))))))
    obtain rfl := some1 h
    have af : Stp [] (Lg.O0 A) w I j := (su_ m z)
    exact At.res (.inl z) z (.tmp z .nil) ⟨z, (se_ af z z)⟩
theorem c_point_sum {A : Nat → Prop} {v0_1 : Value} {v0_13 : Value} {v0_15 : Value} {a0 : api_Point} {w : World} (hs0_1 : Sl rep_api_Pair w A v0_1 a0.Attrs) (hs0_13 : Sl Rep.u w A v0_13 a0.Hist.Pos.Counts) (hs0_15 : Sl Rep.u w A v0_15 a0.Hist.Neg.Counts) {r0 : Bool} (h : point_sum a0 = some r0) : Rets Tryd.prog 51 [ag (cp a0 v0_1 v0_13 v0_15)] w (fun v w' => v = vB r0 ∧ Ext w w') := by
 unfold point_sum at h
 refine Rets.enter Tryd.func51 z z ?_
 have t : Sl rep_api_Pair w (imm (Lg.O0 A)) v0_1 a0.Attrs := (Sl.start hs0_1)
 have D : Sl Rep.u w (imm (Lg.O0 A)) v0_13 a0.Hist.Pos.Counts := (Sl.start hs0_13)
 have F : Sl Rep.u w (imm (Lg.O0 A)) v0_15 a0.Hist.Neg.Counts := (Sl.start hs0_15)
 refine (show WC _ _ _ _ [(0, ag (cp a0 v0_1 v0_13 v0_15))] _ from ?_)
 refine sq (rg ?_)
 have G := h
 obtain ⟨M, P, Q, rfl⟩ := t.shape
 have h := G
 have H := h
 obtain ⟨S, T, U, rfl⟩ := D.shape
 have h := H
 have I := h
 obtain ⟨V, W, X, rfl⟩ := F.shape
 have h := I
 refine WL.box (O := (Lg.O0 A)) 11 (cp a0 (vl M P Q) (vl S T U) (vl V W X)) z z z ?_
 intro aa Z m r o
 refine wY (ya z) z (nl (th (sq (rg (wY (yf fo41_2 z) z (wY (yl ty3 z z (o.cell 2 _ z)) z (wY (Y.eql_i z z) z (wY (ym z) z ?_))))))))
 refine WL.cut 4 (σ := Unit) (fun _ w' => m = w') (fun _ => [(10, vB ((decide (a0.Kind = 1)) || (decide (a0.Kind = 2))))]) ?_ ?_
 ·refine WL.part 6 z (fun j => ?_) (fun j => ?_)
  ·refine WL.gS z z z z (WL.gS z z z z (WL.gS z z z z (wY (Y.pick (b := true) z z) z (WL.ren (v' := vB ((decide (a0.Kind = 1)) || (decide (a0.Kind = 2)))) 10 z (congrArg vB (orT j)) ?_))))
   exact nl (At.join () z (.cons z .nil))
  ·refine ug z z (wY (yf fo41_2 z) z (ug z z (wY (yl ty3 z z (o.cell 2 _ z)) z (ug z z (wY (Y.eql_i z z) z (wY (Y.pick (b := false) z z) z (WL.ren (v' := vB ((decide (a0.Kind = 1)) || (decide (a0.Kind = 2)))) 10 z (congrArg vB (orF j)) ?_)))))))
   exact nl (At.join () z (.cons z .nil))
 ·rintro _ _ rfl
  refine (show WL _ _ _ _ _ [(10, vB ((decide (a0.Kind = 1)) || (decide (a0.Kind = 2))))] _ from ?_)
  obtain ⟨ab, J, h⟩ := lt1 h
  refine WL.yE (ya z) (congrArg vB J.symm) z (nl (th (rt ?_)))
  obtain rfl := some1 h
  have K : Stp [] (Lg.O0 A) w Z m := (su_ r z)
  exact At.res (.inl z) z (.tmp z .nil) ⟨z, (se_ K z z)⟩
theorem c_point_times {A : Nat → Prop} {v0_1 : Value} {v0_13 : Value} {v0_15 : Value} {a0 : api_Point} {w : World} (hs0_1 : Sl rep_api_Pair w A v0_1 a0.Attrs) (hs0_13 : Sl Rep.u w A v0_13 a0.Hist.Pos.Counts) (hs0_15 : Sl Rep.u w A v0_15 a0.Hist.Neg.Counts) {r0 : Bool} (h : point_times a0 = some r0) : Rets Tryd.prog 52 [ag (cp a0 v0_1 v0_13 v0_15)] w (fun v w' => v = vB r0 ∧ Ext w w') := by
 unfold point_times at h
 refine Rets.enter Tryd.func52 z z ?_
 have H : Sl rep_api_Pair w (imm (Lg.O0 A)) v0_1 a0.Attrs := (Sl.start hs0_1)
 have I : Sl Rep.u w (imm (Lg.O0 A)) v0_13 a0.Hist.Pos.Counts := (Sl.start hs0_13)
 have J : Sl Rep.u w (imm (Lg.O0 A)) v0_15 a0.Hist.Neg.Counts := (Sl.start hs0_15)
 refine (show WC _ _ _ _ [(0, ag (cp a0 v0_1 v0_13 v0_15))] _ from ?_)
 refine sq (rg ?_)
 have K := h
 obtain ⟨W, X, Z, rfl⟩ := H.shape
 have h := K
 have M := h
 obtain ⟨aa, ab, ac, rfl⟩ := I.shape
 have h := M
 have P := h
 obtain ⟨ad, ae, af, rfl⟩ := J.shape
 have h := P
 refine WL.box (O := (Lg.O0 A)) 11 (cp a0 (vl W X Z) (vl aa ab ac) (vl ad ae af)) z z z ?_
 intro G F m o j
 refine wY (ya z) z (nl (th (sq (sq (rg (wY (yf fo41_5 z) z (wY (yl ty3 z z (j.cell 5 _ z)) z (wY (Y.lss_i z z) z (wY (ym z) z ?_)))))))))
 refine WL.cut 4 (σ := Unit) (fun _ w' => m = w') (fun _ => [(1, pt G 0), (10, vB ((decide (a0.Start < 0)) || (decide (4503599627370496 < a0.Time))))]) ?_ ?_
 ·refine WL.part 6 z (fun r => ?_) (fun r => ?_)
  ·refine WL.gS z z z z (WL.gS z z z z (WL.gS z z z z (wY (Y.pick (b := true) z z) z (WL.ren (v' := vB ((decide (a0.Start < 0)) || (decide (4503599627370496 < a0.Time)))) 10 z (congrArg vB (orT r)) ?_))))
   exact nl (At.join () z (.cons z (.cons z .nil)))
  ·refine ug z z (wY (yf fo41_6 z) z (ug z z (wY (yl ty3 z z (j.cell 6 _ z)) z (ug z z (wY (Y.gtr_i z z) z (wY (Y.pick (b := false) z z) z (WL.ren (v' := vB ((decide (a0.Start < 0)) || (decide (4503599627370496 < a0.Time)))) 10 z (congrArg vB (orF r)) ?_)))))))
   exact nl (At.join () z (.cons z (.cons z .nil)))
 ·rintro _ _ rfl
  refine (show WL _ _ _ _ _ [(1, pt G 0), (10, vB ((decide (a0.Start < 0)) || (decide (4503599627370496 < a0.Time))))] _ from ?_)
  refine nl (th ?_)
  rcases cnd h with ⟨t, h⟩ | ⟨t, h⟩
  ·refine WC.condT' z t (sq (rg (wY (ya z) z (nl (th (rt (At.thenR ?_)))))))
   obtain rfl := some1 h
   have Q : Stp [] (Lg.O0 A) w F m := (su_ o z)
   exact At.res (.inl z) z (.tmp z .nil) ⟨z, (se_ Q z z)⟩
  ·refine WC.condF' z t (sk (th (sq (sq (rg (wY (yf fo41_2 z) z (wY (yl ty3 z z (j.cell 2 _ z)) z (wY (Y.eql_i z z) z (nl ?_)))))))))
   refine th ?_
   rcases cnd h with ⟨D, h⟩ | ⟨D, h⟩
   ·refine WC.condT' z D (sq (rg (wY (yf fo41_5 z) z (wY (yl ty3 z z (j.cell 5 _ z)) z (wY (yf fo41_6 z) z (wY (yl ty3 z z (j.cell 6 _ z)) z (wY (Y.eql_i z z) z ?_)))))))
    obtain ⟨ah, S, h⟩ := lt1 h
    refine WL.yE (ya z) (congrArg vB S.symm) z (nl (th (rt (At.thenR ?_))))
    obtain rfl := some1 h
    have T : Stp [] (Lg.O0 A) w F m := (su_ o z)
    exact At.res (.inl z) z (.tmp z .nil) ⟨z, (se_ T z z)⟩
   ·refine WC.condF' z D (sk (th (sq (rg (wY (yf fo41_5 z) z (wY (yl ty3 z z (j.cell 5 _ z)) z (wY (yf fo41_6 z) z (wY (yl ty3 z z (j.cell 6 _ z)) z (wY (Y.lss_i z z) z ?_)))))))))
    obtain ⟨ai, U, h⟩ := lt1 h
    refine WL.yE (ya z) (congrArg vB U.symm) z (nl (th (rt ?_)))
    obtain rfl := some1 h
    have V : Stp [] (Lg.O0 A) w F m := (su_ o z)
    exact At.res (.inl z) z (.tmp z .nil) ⟨z, (se_ V z z)⟩
theorem c_point_bare {A : Nat → Prop} {v0_3 : Value} {v0_5 : Value} {a0 : api_Hist} {w : World} (hs0_3 : Sl Rep.u w A v0_3 a0.Pos.Counts) (hs0_5 : Sl Rep.u w A v0_5 a0.Neg.Counts) {r0 : Bool} (h : point_bare a0 = some r0) : Rets Tryd.prog 76 [ag (hl a0 v0_3 v0_5)] w (fun v w' => v = vB r0 ∧ Ext w w') := by
 unfold point_bare at h
 refine Rets.enter Tryd.func76 z z ?_
 have H : Sl Rep.u w (imm (Lg.O0 A)) v0_3 a0.Pos.Counts := (Sl.start hs0_3)
 have I : Sl Rep.u w (imm (Lg.O0 A)) v0_5 a0.Neg.Counts := (Sl.start hs0_5)
 refine (show WC _ _ _ _ [(0, ag (hl a0 v0_3 v0_5))] _ from ?_)
 refine sq (rg ?_)
 have J := h
 obtain ⟨T, U, V, rfl⟩ := H.shape
 have h := J
 have K := h
 obtain ⟨W, X, Z, rfl⟩ := I.shape
 have h := K
 refine WL.box (O := (Lg.O0 A)) 11 (hl a0 (vl T U V) (vl W X Z)) z z z ?_
 intro o aa m r j
 refine wY (ya z) z (nl (th (sq (rg (wY (yf fo39_0 z) z (wY (yl ty3 z z (j.cell 0 _ z)) z (wY (Y.eql_i z z) z (wY (ym z) z ?_))))))))
 refine WL.cut 4 (σ := Unit) (fun _ w' => m = w') (fun _ => [(1, pt o 0), (10, vB ((decide (a0.Scale = 0)) && (decide (a0.Zero = 0))))]) ?_ ?_
 ·refine WL.part 6 z (fun t => ?_) (fun t => ?_)
  ·refine ug z z (wY (yf fo39_1 z) z (ug z z (wY (yl ty34 z z (j.cell 1 _ z)) z (ug z z (wY (Y.eql_u (b := 0) z z) z (wY (Y.pick (b := true) z z) z (WL.ren (v' := vB ((decide (a0.Scale = 0)) && (decide (a0.Zero = 0)))) 10 z (congrArg vB (andT t)) ?_)))))))
   exact nl (At.join () z (.cons z (.cons z .nil)))
  ·refine WL.gS z z z z (WL.gS z z z z (WL.gS z z z z (wY (Y.pick (b := false) z z) z (WL.ren (v' := vB ((decide (a0.Scale = 0)) && (decide (a0.Zero = 0)))) 10 z (congrArg vB (andF t)) ?_))))
   exact nl (At.join () z (.cons z (.cons z .nil)))
 ·rintro _ _ rfl
  refine (show WL _ _ _ _ _ [(1, pt o 0), (10, vB ((decide (a0.Scale = 0)) && (decide (a0.Zero = 0))))] _ from ?_)
  refine wY (ym z) z ?_
  refine WL.cut 5 (σ := Unit) (fun _ w' => m = w') (fun _ => [(1, pt o 0), (16, vB (((decide (a0.Scale = 0)) && (decide (a0.Zero = 0))) && (decide (a0.Pos.Offset = 0))))]) ?_ ?_
  ·refine WL.part 11 z (fun D => ?_) (fun D => ?_)
   ·refine ug z z (wY (yf fo39_2 z) z (ug z z (wY (yf fo37_0 z) z (ug z z (wY (yl ty3 z z (j.cell 2 _ z)) z (ug z z (wY (Y.eql_i z z) z (wY (Y.pick (b := true) z z) z (WL.ren (v' := vB (((decide (a0.Scale = 0)) && (decide (a0.Zero = 0))) && (decide (a0.Pos.Offset = 0)))) 16 z (congrArg vB (andT D)) ?_)))))))))
    exact nl (At.join () z (.cons z (.cons z .nil)))
   ·refine WL.gS z z z z (WL.gS z z z z (WL.gS z z z z (WL.gS z z z z (wY (Y.pick (b := false) z z) z (WL.ren (v' := vB (((decide (a0.Scale = 0)) && (decide (a0.Zero = 0))) && (decide (a0.Pos.Offset = 0)))) 16 z (congrArg vB (andF D)) ?_)))))
    exact nl (At.join () z (.cons z (.cons z .nil)))
  ·rintro _ _ rfl
   refine (show WL _ _ _ _ _ [(1, pt o 0), (16, vB (((decide (a0.Scale = 0)) && (decide (a0.Zero = 0))) && (decide (a0.Pos.Offset = 0))))] _ from ?_)
   refine wY (ym z) z ?_
   refine WL.cut 5 (σ := Unit) (fun _ w' => m = w') (fun _ => [(1, pt o 0), (22, vB ((((decide (a0.Scale = 0)) && (decide (a0.Zero = 0))) && (decide (a0.Pos.Offset = 0))) && (decide (a0.Neg.Offset = 0))))]) ?_ ?_
   ·refine WL.part 17 z (fun F => ?_) (fun F => ?_)
    ·refine ug z z (wY (yf fo39_3 z) z (ug z z (wY (yf fo37_0 z) z (ug z z (wY (yl ty3 z z (j.cell 4 _ z)) z (ug z z (wY (Y.eql_i z z) z (wY (Y.pick (b := true) z z) z (WL.ren (v' := vB ((((decide (a0.Scale = 0)) && (decide (a0.Zero = 0))) && (decide (a0.Pos.Offset = 0))) && (decide (a0.Neg.Offset = 0)))) 22 z (congrArg vB (andT F)) ?_)))))))))
     exact nl (At.join () z (.cons z (.cons z .nil)))
    ·refine WL.gS z z z z (WL.gS z z z z (WL.gS z z z z (WL.gS z z z z (wY (Y.pick (b := false) z z) z (WL.ren (v' := vB ((((decide (a0.Scale = 0)) && (decide (a0.Zero = 0))) && (decide (a0.Pos.Offset = 0))) && (decide (a0.Neg.Offset = 0)))) 22 z (congrArg vB (andF F)) ?_)))))
     exact nl (At.join () z (.cons z (.cons z .nil)))
   ·rintro _ _ rfl
    refine (show WL _ _ _ _ _ [(1, pt o 0), (22, vB ((((decide (a0.Scale = 0)) && (decide (a0.Zero = 0))) && (decide (a0.Pos.Offset = 0))) && (decide (a0.Neg.Offset = 0))))] _ from ?_)
    refine wY (ym z) z ?_
    refine WL.cut 11 (σ := Unit) (fun _ w' => m = w') (fun _ => [(34, vB (((((decide (a0.Scale = 0)) && (decide (a0.Zero = 0))) && (decide (a0.Pos.Offset = 0))) && (decide (a0.Neg.Offset = 0))) && (decide (w64 ((a0.Pos.Counts.length : Int) + (a0.Neg.Counts.length : Int)) = 0))))]) ?_ ?_
    ·refine WL.part 23 z (fun G => ?_) (fun G => ?_)
     ·refine ug z z (wY (yf fo39_2 z) z (ug z z (wY (yf fo37_1 z) z (ug z z (wY (yl ty35 z z (j.cell 3 _ z)) z (ug z z ?_))))))
      have M := H.i r z z
      refine wY (Y.len ty35 z M) z (ug z z (wY (yf fo39_3 z) z (ug z z (wY (yf fo37_1 z) z (ug z z (wY (yl ty35 z z (j.cell 5 _ z)) z (ug z z ?_)))))))
      have P := I.i r z z
      refine wY (Y.len ty35 z P) z (ug z z (wY (Y.add_i z z) z (ug z z (wY (Y.eql_i z z) z (wY (Y.pick (b := true) z z) z (WL.ren (v' := vB (((((decide (a0.Scale = 0)) && (decide (a0.Zero = 0))) && (decide (a0.Pos.Offset = 0))) && (decide (a0.Neg.Offset = 0))) && (decide (w64 ((a0.Pos.Counts.length : Int) + (a0.Neg.Counts.length : Int)) = 0)))) 34 z (congrArg vB (andT G)) ?_))))))
      exact nl (At.join () z (.cons z .nil))
     ·refine WL.gS z z z z (WL.gS z z z z (WL.gS z z z z (WL.gS z z z z (WL.gS z z z z (WL.gS z z z z (WL.gS z z z z (WL.gS z z z z (WL.gS z z z z (WL.gS z z z z ?_)))))))))
      refine wY (Y.pick (b := false) z z) z (WL.ren (v' := vB (((((decide (a0.Scale = 0)) && (decide (a0.Zero = 0))) && (decide (a0.Pos.Offset = 0))) && (decide (a0.Neg.Offset = 0))) && (decide (w64 ((a0.Pos.Counts.length : Int) + (a0.Neg.Counts.length : Int)) = 0)))) 34 z (congrArg vB (andF G)) ?_)
      exact nl (At.join () z (.cons z .nil))
    ·rintro _ _ rfl
     refine (show WL _ _ _ _ _ [(34, vB (((((decide (a0.Scale = 0)) && (decide (a0.Zero = 0))) && (decide (a0.Pos.Offset = 0))) && (decide (a0.Neg.Offset = 0))) && (decide (w64 ((a0.Pos.Counts.length : Int) + (a0.Neg.Counts.length : Int)) = 0))))] _ from ?_)
     obtain ⟨ab, Q, h⟩ := lt1 h
     refine WL.yE (ya z) (congrArg vB Q.symm) z (nl (th (rt ?_)))
     obtain rfl := some1 h
     have S : Stp [] (Lg.O0 A) w aa m := (su_ r z)
     exact At.res (.inl z) z (.tmp z .nil) ⟨z, (se_ S z z)⟩
theorem c_point_own {A : Nat → Prop} {v0_1 : Value} {v0_13 : Value} {v0_15 : Value} {a0 : api_Point} {w : World} (hs0_1 : Sl rep_api_Pair w A v0_1 a0.Attrs) (hs0_13 : Sl Rep.u w A v0_13 a0.Hist.Pos.Counts) (hs0_15 : Sl Rep.u w A v0_15 a0.Hist.Neg.Counts) {r0 : Bool} (h : point_own a0 = some r0) : Rets Tryd.prog 53 [ag (cp a0 v0_1 v0_13 v0_15)] w (fun v w' => v = vB r0 ∧ Ext w w') := by
 unfold point_own at h
 refine Rets.enter Tryd.func53 z z ?_
 have ap : Sl rep_api_Pair w (imm (Lg.O0 A)) v0_1 a0.Attrs := (Sl.start hs0_1)
 have ae : Sl Rep.u w (imm (Lg.O0 A)) v0_13 a0.Hist.Pos.Counts := (Sl.start hs0_13)
 have af : Sl Rep.u w (imm (Lg.O0 A)) v0_15 a0.Hist.Neg.Counts := (Sl.start hs0_15)
 refine (show WC _ _ _ _ [(0, ag (cp a0 v0_1 v0_13 v0_15))] _ from ?_)
 refine sq (rg ?_)
 have aq := h
 obtain ⟨aQ, aR, aS, rfl⟩ := ap.shape
 have h := aq
 have ar := h
 obtain ⟨ah, ai, aj, rfl⟩ := ae.shape
 have h := ar
 have au := h
 obtain ⟨ak, al, am, rfl⟩ := af.shape
 have h := au
 refine WL.box (O := (Lg.O0 A)) 11 (cp a0 (vl aQ aR aS) (vl ah ai aj) (vl ak al am)) z z z ?_
 intro t F m j r
 refine wY (ya z) z (nl (th (sq (rg (wY (yf fo41_2 z) z (wY (yl ty3 z z (r.cell 2 _ z)) z (wY (Y.eql_i z z) z (wY (ym z) z ?_))))))))
 refine WL.cut 4 (σ := Unit) (fun _ w' => m = w') (fun _ => [(1, pt t 0), (11, vB ((decide (a0.Kind = 2)) || (decide (a0.Kind = 3))))]) ?_ ?_
 ·refine WL.part 7 z (fun H => ?_) (fun H => ?_)
  ·refine WL.gS z z z z (WL.gS z z z z (WL.gS z z z z (wY (Y.pick (b := true) z z) z (WL.ren (v' := vB ((decide (a0.Kind = 2)) || (decide (a0.Kind = 3)))) 11 z (congrArg vB (orT H)) ?_))))
   exact nl (At.join () z (.cons z (.cons z .nil)))
  ·refine ug z z (wY (yf fo41_2 z) z (ug z z (wY (yl ty3 z z (r.cell 2 _ z)) z (ug z z (wY (Y.eql_i z z) z (wY (Y.pick (b := false) z z) z (WL.ren (v' := vB ((decide (a0.Kind = 2)) || (decide (a0.Kind = 3)))) 11 z (congrArg vB (orF H)) ?_)))))))
   exact nl (At.join () z (.cons z (.cons z .nil)))
 ·rintro _ _ rfl
  refine (show WL _ _ _ _ _ [(1, pt t 0), (11, vB ((decide (a0.Kind = 2)) || (decide (a0.Kind = 3))))] _ from ?_)
  refine wY (ym z) z ?_
  refine WL.cut 4 (σ := Unit) (fun _ w' => m = w') (fun _ => [(1, pt t 0), (16, vB (((decide (a0.Kind = 2)) || (decide (a0.Kind = 3))) || (decide (a0.Kind = 5))))]) ?_ ?_
  ·refine WL.part 12 z (fun I => ?_) (fun I => ?_)
   ·refine WL.gS z z z z (WL.gS z z z z (WL.gS z z z z (wY (Y.pick (b := true) z z) z (WL.ren (v' := vB (((decide (a0.Kind = 2)) || (decide (a0.Kind = 3))) || (decide (a0.Kind = 5)))) 16 z (congrArg vB (orT I)) ?_))))
    exact nl (At.join () z (.cons z (.cons z .nil)))
   ·refine ug z z (wY (yf fo41_2 z) z (ug z z (wY (yl ty3 z z (r.cell 2 _ z)) z (ug z z (wY (Y.eql_i z z) z (wY (Y.pick (b := false) z z) z (WL.ren (v' := vB (((decide (a0.Kind = 2)) || (decide (a0.Kind = 3))) || (decide (a0.Kind = 5)))) 16 z (congrArg vB (orF I)) ?_)))))))
    exact nl (At.join () z (.cons z (.cons z .nil)))
  ·rintro _ _ rfl
   refine (show WL _ _ _ _ _ [(1, pt t 0), (16, vB (((decide (a0.Kind = 2)) || (decide (a0.Kind = 3))) || (decide (a0.Kind = 5))))] _ from ?_)
   obtain ⟨o, J, h⟩ := lt1 h
   refine WL.yE (ya z) (congrArg vB J.symm) z (nl (th (sq (WC.block (sq (sq (rg (wY (yf fo41_2 z) z (wY (yl ty3 z z (r.cell 2 _ z)) z ?_)))))))))
   refine wY (Y.neq_i z z) z (wY (ym z) z ?_)
   refine WL.cut 4 (σ := Unit) (fun _ w' => m = w') (fun _ => [(1, pt t 0), (3, vB o), (25, vB ((!decide (a0.Kind = 1)) && (!decide (a0.Int_ = 0))))]) ?_ ?_
   ·refine WL.part 21 z (fun K => ?_) (fun K => ?_)
    ·refine ug z z (wY (yf fo41_7 z) z (ug z z (wY (yl ty3 z z (r.cell 7 _ z)) z (ug z z (wY (Y.neq_i z z) z (wY (Y.pick (b := true) z z) z (WL.ren (v' := vB ((!decide (a0.Kind = 1)) && (!decide (a0.Int_ = 0)))) 25 z (congrArg vB (andT K)) ?_)))))))
     exact nl (At.join () z (.cons z (.cons z (.cons z .nil))))
    ·refine WL.gS z z z z (WL.gS z z z z (WL.gS z z z z (wY (Y.pick (b := false) z z) z (WL.ren (v' := vB ((!decide (a0.Kind = 1)) && (!decide (a0.Int_ = 0)))) 25 z (congrArg vB (andF K)) ?_))))
     exact nl (At.join () z (.cons z (.cons z (.cons z .nil))))
   ·rintro _ _ rfl
    refine (show WL _ _ _ _ _ [(1, pt t 0), (3, vB o), (25, vB ((!decide (a0.Kind = 1)) && (!decide (a0.Int_ = 0))))] _ from ?_)
    obtain ⟨a3, av, h⟩ := lt1 h
    refine WL.yE (ya z) (congrArg vB av.symm) z (nl (th ?_))
    rcases cnd h with ⟨M, h⟩ | ⟨M, h⟩
    ·refine WC.condT' z M (sk (th ?_))
     rcases cnd h with ⟨P, h⟩ | ⟨P, h⟩
     ·refine WC.condT' z P (sq (rg (wY (ya z) z (nl (th (rt (At.inBlockR (At.thenR ?_))))))))
      obtain rfl := some1 h
      have ax : Stp [] (Lg.O0 A) w F m := (su_ j z)
      exact At.res (.inl z) z (.tmp z .nil) ⟨z, (se_ ax z z)⟩
     ·refine WC.condF' z P (sk (At.inBlock (th (sq (rg (wY (ya z) z (nl (th (rt ?_)))))))))
      obtain rfl := some1 h
      have ay : Stp [] (Lg.O0 A) w F m := (su_ j z)
      exact At.res (.inl z) z (.tmp z .nil) ⟨z, (se_ ay z z)⟩
    ·refine WC.condF' z M (sq (rg (wY (ym z) z (wY (Y.not z) z (wY (ym z) z ?_)))))
     refine WL.cut 4 (σ := Unit) (fun _ w' => m = w') (fun _ => [(1, pt t 0), (32, vB ((!o) && (!decide (a0.Re = 0))))]) ?_ ?_
     ·refine WL.part 28 z (fun Q => ?_) (fun Q => ?_)
      ·refine ug z z (wY (yf fo41_8 z) z (ug z z (wY (yl ty34 z z (r.cell 8 _ z)) z (ug z z (wY (Y.neq_u (b := 0) z z) z (wY (Y.pick (b := true) z z) z (WL.ren (v' := vB ((!o) && (!decide (a0.Re = 0)))) 32 z (congrArg vB (andT Q)) ?_)))))))
       exact nl (At.join () z (.cons z (.cons z .nil)))
      ·refine WL.gS z z z z (WL.gS z z z z (WL.gS z z z z (wY (Y.pick (b := false) z z) z (WL.ren (v' := vB ((!o) && (!decide (a0.Re = 0)))) 32 z (congrArg vB (andF Q)) ?_))))
       exact nl (At.join () z (.cons z (.cons z .nil)))
     ·rintro _ _ rfl
      refine (show WL _ _ _ _ _ [(1, pt t 0), (32, vB ((!o) && (!decide (a0.Re = 0))))] _ from ?_)
      obtain ⟨a4, az, h⟩ := lt1 h
      refine WL.yE (ya z) (congrArg vB az.symm) z (nl (th ?_))
      rcases cnd h with ⟨S, h⟩ | ⟨S, h⟩
      ·refine WC.condT' z S (sk (th ?_))
       rcases cnd h with ⟨T, h⟩ | ⟨T, h⟩
       ·refine WC.condT' z T (sq (rg (wY (ya z) z (nl (th (rt (At.inBlockR (At.thenR ?_))))))))
        obtain rfl := some1 h
        have aA : Stp [] (Lg.O0 A) w F m := (su_ j z)
        exact At.res (.inl z) z (.tmp z .nil) ⟨z, (se_ aA z z)⟩
       ·refine WC.condF' z T (sk (At.inBlock (th (sq (rg (wY (ya z) z (nl (th (rt ?_)))))))))
        obtain rfl := some1 h
        have aC : Stp [] (Lg.O0 A) w F m := (su_ j z)
        exact At.res (.inl z) z (.tmp z .nil) ⟨z, (se_ aC z z)⟩
      ·refine WC.condF' z S (sq (rg (wY (yf fo41_2 z) z (wY (yl ty3 z z (r.cell 2 _ z)) z (wY (Y.neq_i z z) z (wY (ym z) z ?_))))))
       refine WL.cut 4 (σ := Unit) (fun _ w' => m = w') (fun _ => [(1, pt t 0), (40, vB ((!decide (a0.Kind = 5)) && (!decide (a0.Im = 0))))]) ?_ ?_
       ·refine WL.part 36 z (fun U => ?_) (fun U => ?_)
        ·refine ug z z (wY (yf fo41_9 z) z (ug z z (wY (yl ty34 z z (r.cell 9 _ z)) z (ug z z (wY (Y.neq_u (b := 0) z z) z (wY (Y.pick (b := true) z z) z (WL.ren (v' := vB ((!decide (a0.Kind = 5)) && (!decide (a0.Im = 0)))) 40 z (congrArg vB (andT U)) ?_)))))))
         exact nl (At.join () z (.cons z (.cons z .nil)))
        ·refine WL.gS z z z z (WL.gS z z z z (WL.gS z z z z (wY (Y.pick (b := false) z z) z (WL.ren (v' := vB ((!decide (a0.Kind = 5)) && (!decide (a0.Im = 0)))) 40 z (congrArg vB (andF U)) ?_))))
         exact nl (At.join () z (.cons z (.cons z .nil)))
       ·rintro _ _ rfl
        refine (show WL _ _ _ _ _ [(1, pt t 0), (40, vB ((!decide (a0.Kind = 5)) && (!decide (a0.Im = 0))))] _ from ?_)
        obtain ⟨a5, aD, h⟩ := lt1 h
        refine WL.yE (ya z) (congrArg vB aD.symm) z (nl (th ?_))
        rcases cnd h with ⟨V, h⟩ | ⟨V, h⟩
        ·refine WC.condT' z V (sk (th ?_))
         rcases cnd h with ⟨W, h⟩ | ⟨W, h⟩
         ·refine WC.condT' z W (sq (rg (wY (ya z) z (nl (th (rt (At.inBlockR (At.thenR ?_))))))))
          obtain rfl := some1 h
          have aE : Stp [] (Lg.O0 A) w F m := (su_ j z)
          exact At.res (.inl z) z (.tmp z .nil) ⟨z, (se_ aE z z)⟩
         ·refine WC.condF' z W (sk (At.inBlock (th (sq (rg (wY (ya z) z (nl (th (rt ?_)))))))))
          obtain rfl := some1 h
          have aF : Stp [] (Lg.O0 A) w F m := (su_ j z)
          exact At.res (.inl z) z (.tmp z .nil) ⟨z, (se_ aF z z)⟩
        ·refine WC.condF' z V (sq (rg (wY (yf fo41_2 z) z (wY (yl ty3 z z (r.cell 2 _ z)) z (wY (Y.neq_i z z) z (wY (ym z) z ?_))))))
         obtain ⟨aT, h, aG⟩ := bnd h
         refine WL.cut 5 (σ := (Bool × Own)) (fun x w' => x.1 = aT ∧ Stp [] F m x.2 w') (fun x => [(1, pt t 0), (49, vB x.1)]) ?_ ?_
         ·rcases cnd h with ⟨X, h⟩ | ⟨X, h⟩
          ·refine WL.ren 44 z (congrArg vB X) (ug z z (wY (yf fo41_10 z) z (ug z z (wY (yL ty39 z z (r.cells 10 (hl a0.Hist (vl ah ai aj) (vl ak al am)) z) z) z (ug z z ?_)))))
           have aH := ae.i j z z
           have aI := af.i j z z
           obtain ⟨aU, aJ, h⟩ := bnd h
           refine WL.call (vals := [ag (hl a0.Hist (vl ah ai aj) (vl ak al am))]) kok76 z z (c_point_bare (A := fun _ => True) (a0 := a0.Hist) (Sl.all aH) (Sl.all aI) aJ) ?_
           rintro a1 a2 ⟨rfl, aK⟩
           obtain ⟨aW, aX, aY, ao⟩ := adoptE F (fun k => 1) aK
           refine ug z z (wY (Y.not z) z (wY (Y.pick (b := true) z z) z ?_))
           exact nl (At.join (σ := (Bool × Own)) ((!aU), aW) ⟨some1 h, (su_ ao z)⟩ (.cons z (.cons z .nil)))
          ·refine WL.ren 44 z (congrArg vB X) (WL.gS z z z z (WL.gS z z z z (WL.gS z z z z (WL.gS z z z z (wY (Y.pick (b := false) z z) z ?_)))))
           exact nl (At.join (σ := (Bool × Own)) (false, F) ⟨some1 h, (sr_ _ _ _)⟩ (.cons z (.cons z .nil)))
         ·rintro ⟨aZ, ad⟩ G ⟨rfl, D⟩
          replace h := aG
          try dsimp only at h D
          refine (show WL _ _ _ _ _ [(1, pt t 0), (49, vB aZ)] _ from ?_)
          refine wY (ya z) z (nl (th ?_))
          rcases cnd h with ⟨Z, h⟩ | ⟨Z, h⟩
          ·refine WC.condT' z Z (sk (th ?_))
           rcases cnd h with ⟨aa, h⟩ | ⟨aa, h⟩
           ·refine WC.condT' z aa (sq (rg (wY (ya z) z (nl (th (rt (At.inBlockR (At.thenR ?_))))))))
            obtain rfl := some1 h
            have aL : Stp [] (Lg.O0 A) w ad G := (tr_ (su_ j z) (su_ D z))
            exact At.res (.inl z) z (.tmp z .nil) ⟨z, (se_ aL z z)⟩
           ·refine WC.condF' z aa (sk (At.inBlock (th (sq (rg (wY (ya z) z (nl (th (rt ?_)))))))))
            obtain rfl := some1 h
            have aM : Stp [] (Lg.O0 A) w ad G := (tr_ (su_ j z) (su_ D z))
            exact At.res (.inl z) z (.tmp z .nil) ⟨z, (se_ aM z z)⟩
          ·refine WC.condF' z Z (rg (wY (yf fo41_11 z) z ?_))
           have an := r.st D z
           refine wY (yl ty3 z z (an.cell 16 _ z)) z (wY (Y.lss_i z z) z (wY (ym z) z ?_))
           refine WL.cut 4 (σ := Unit) (fun _ w' => G = w') (fun _ => [(57, vB ((decide (a0.Flags < 0)) || (decide (31 < a0.Flags))))]) ?_ ?_
           ·refine WL.part 53 z (fun ab => ?_) (fun ab => ?_)
            ·refine WL.gS z z z z (WL.gS z z z z (WL.gS z z z z (wY (Y.pick (b := true) z z) z (WL.ren (v' := vB ((decide (a0.Flags < 0)) || (decide (31 < a0.Flags)))) 57 z (congrArg vB (orT ab)) ?_))))
             exact nl (At.join () z (.cons z .nil))
            ·refine ug z z (wY (yf fo41_11 z) z (ug z z (wY (yl ty3 z z (an.cell 16 _ z)) z (ug z z (wY (Y.gtr_i z z) z (wY (Y.pick (b := false) z z) z (WL.ren (v' := vB ((decide (a0.Flags < 0)) || (decide (31 < a0.Flags)))) 57 z (congrArg vB (orF ab)) ?_)))))))
             exact nl (At.join () z (.cons z .nil))
           ·rintro _ _ rfl
            refine (show WL _ _ _ _ _ [(57, vB ((decide (a0.Flags < 0)) || (decide (31 < a0.Flags))))] _ from ?_)
            obtain ⟨a6, aN, h⟩ := lt1 h
            refine WL.yE (ya z) (congrArg vB aN.symm) z (nl (th ?_))
            rcases cnd h with ⟨ac, h⟩ | ⟨ac, h⟩
            ·refine WC.condT' z ac (sq (rg (wY (ya z) z (nl (th (rt (At.inBlockR (At.thenR ?_))))))))
             obtain rfl := some1 h
             have aO : Stp [] (Lg.O0 A) w ad G := (tr_ (su_ j z) (su_ D z))
             exact At.res (.inl z) z (.tmp z .nil) ⟨z, (se_ aO z z)⟩
            ·refine WC.condF' z ac (sk (At.inBlock (th (sq (rg (wY (ya z) z (nl (th (rt ?_)))))))))
             obtain rfl := some1 h
             have aP : Stp [] (Lg.O0 A) w ad G := (tr_ (su_ j z) (su_ D z))
             exact At.res (.inl z) z (.tmp z .nil) ⟨z, (se_ aP z z)⟩
theorem c_num_Finite {a0 : UInt64} {w : World} {r0 : Bool} (h : num_Finite a0 = some r0) : Rets Tryd.prog 54 [vu a0] w (fun v w' => v = vB r0 ∧ Ext w w') := by
 unfold num_Finite at h
 refine Rets.enter Tryd.func54 z z ?_
 refine (show WC _ _ _ _ [(0, vu a0)] _ from ?_)
 refine sq (rg (wY (ya z) z (nl (th (sq (rg (wY (ym z) z (wY (Y.and_u (b := 9218868437227405312) z z) z (wY (Y.neq_u (b := 9218868437227405312) z z) z ?_)))))))))
 obtain ⟨o, j, h⟩ := lt1 h
 refine WL.yE (ya z) (congrArg vB j.symm) z (nl (th (rt ?_)))
 obtain rfl := some1 h
 have m : Stp [] (Lg.O0 (fun _ => False)) w (Lg.O0 (fun _ => False)) w := (sr_ _ _ _)
 exact At.res (.inl z) z (.tmp z .nil) ⟨z, (se_ m z z)⟩
theorem c_num_of {a0 : UInt64} {w : World} : Rets Tryd.prog 77 [vu a0] w (fun v w' => v = .float .f64 a0.toNat ∧ Ext w w') := by
  refine Rets.enter Tryd.func77 z z ?_
  refine (show WC _ _ _ _ [(0, vu a0)] _ from ?_)
  refine sq (rg (wY (ya (v := .float .f64 0) z) z (nl (th ?_))))
  refine sq (rg ?_)
  refine wY (ym z) z (wY (Y.ffrom xfrom_95 z) z ?_)
  refine wY (ya z) z (nl (th (rt ?_)))
  exact At.res (.inl z) z (.tmp z .nil) ⟨z, Ext.refl w⟩
theorem c_num_Less {a0 : UInt64} {a1 : UInt64} {w : World} {r0 : Bool} (h : num_Less a0 a1 = some r0) : Rets Tryd.prog 55 [vu a0, vu a1] w (fun v w' => v = vB r0 ∧ Ext w w') := by
  unfold num_Less at h
  obtain rfl := some1 h
  refine Rets.enter Tryd.func55 z z ?_
  refine (show WC _ _ _ _ [(0, vu a0), (1, vu a1)] _ from ?_)
  refine sq (rg (wY (ya (v := .bool false) z) z (nl (th ?_))))
  refine sq (rg ?_)
  refine wY (ym z) z (WL.call (vals := [vu a0]) kok77 z z (c_num_of) ?_)
  rintro K M ⟨rfl, o⟩
  obtain ⟨I, D, F, j⟩ := adoptE (Lg.O0 (fun _ => False)) (fun k => 1) o
  refine wY (ym z) z (WL.call (vals := [vu a1]) kok77 z z (c_num_of) ?_)
  rintro P r ⟨rfl, t⟩
  obtain ⟨J, G, H, m⟩ := adoptE I (fun k => 1) t
  refine wY (Y.fless z z) z ?_
  refine wY (ya z) z (nl (th (rt ?_)))
  have hs : Stp [] (Lg.O0 (fun _ => False)) w J r := (tr_ (su_ j z) (su_ m z))
  exact At.res (.inl z) z (.tmp z .nil) ⟨z, se_ hs z z⟩
end Go.Lg
