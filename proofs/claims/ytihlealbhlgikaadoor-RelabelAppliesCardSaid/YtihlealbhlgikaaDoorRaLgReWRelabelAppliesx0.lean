/- The walks of RelabelApplies and of what it calls, printed by gen.py. -/
import Derived.Test.YtihlealbhlgikaaDoorRaLgPart0
import Derived.Test.YtihlealbhlgikaaDoorRaLgPart2
import Derived.Test.YtihlealbhlgikaaDoorProg
set_option linter.unusedVariables false
namespace Go.Lg
open Go Go.Proofs
set_option maxRecDepth 100000
set_option maxHeartbeats 4000000
abbrev cp (p : api_Point) (a b c : Value) : List Value := [vs p.Name, a, vi p.Kind, vi p.Temp, .bool p.Mono, vi p.Start, vi p.Time, vi p.Int_, vu p.Re, vu p.Im, vi p.Hist.Scale, vu p.Hist.Zero, vi p.Hist.Pos.Offset, b, vi p.Hist.Neg.Offset, c, vi p.Flags]
abbrev hl (h : api_Hist) (a b : Value) : List Value := [vi h.Scale, vu h.Zero, vi h.Pos.Offset, a, vi h.Neg.Offset, b]
abbrev hzr : List Value := [vi 0, vu 0, vi 0, sn, vi 0, sn]
theorem fmix : Tryd.prog.follows .mixedOrders = true := by kernel_rfl
theorem ty3 : TyOk Tryd.prog 3 (.int .i64) 1 8 (.int .i64 0) := tyOk Tryd.underlying3 (by kernel_rfl)
theorem ty4 : TyOk Tryd.prog 4 .bool 1 1 (.bool false) := tyOk Tryd.underlying4 (by kernel_rfl)
theorem ty5 : TyOk Tryd.prog 5 (.int .u8) 1 1 (.int .u8 0) := tyOk Tryd.underlying5 (by kernel_rfl)
theorem ty9 : TyOk Tryd.prog 9 .string 1 16 (.string ⟨#[]⟩) := tyOk Tryd.underlying9 (by kernel_rfl)
theorem ty22 : TyOk Tryd.prog 22 (.slice 28) 1 24 (.slice none 0 0) := tyOk Tryd.underlying22 (by kernel_rfl)
theorem ty25 : TyOk Tryd.prog 25 (.int .i64) 1 8 (.int .i64 0) := tyOk Tryd.underlying25 (by kernel_rfl)
theorem ty28 : TyOk Tryd.prog 28 (.struct #[(Field.mk "Kind" 3 0 false "" "" 0), (Field.mk "Key" 9 1 false "" "" 8), (Field.mk "Glob" 9 2 false "" "" 24), (Field.mk "To" 9 3 false "" "" 40), (Field.mk "Val" 9 4 false "" "" 56)]) 5 72 (.agg #[(.int .i64 0), (.string ⟨#[]⟩), (.string ⟨#[]⟩), (.string ⟨#[]⟩), (.string ⟨#[]⟩)]) := tyOk Tryd.underlying28 (by kernel_rfl)
theorem ty29 : TyOk Tryd.prog 29 (.pointer 71) 1 8 (.pointer none) := tyOk Tryd.underlying29 (by kernel_rfl)
theorem ty33 : TyOk Tryd.prog 33 (.slice 59) 1 24 (.slice none 0 0) := tyOk Tryd.underlying33 (by kernel_rfl)
theorem ty34 : TyOk Tryd.prog 34 (.int .u64) 1 8 (.int .u64 0) := tyOk Tryd.underlying34 (by kernel_rfl)
theorem ty35 : TyOk Tryd.prog 35 (.slice 34) 1 24 (.slice none 0 0) := tyOk Tryd.underlying35 (by kernel_rfl)
theorem ty37 : TyOk Tryd.prog 37 (.struct #[(Field.mk "Offset" 3 0 false "" "" 0), (Field.mk "Counts" 35 1 false "" "" 8)]) 2 32 (.agg #[(.int .i64 0), (.slice none 0 0)]) := tyOk Tryd.underlying37 (by kernel_rfl)
theorem ty39 : TyOk Tryd.prog 39 (.struct #[(Field.mk "Scale" 3 0 false "" "" 0), (Field.mk "Zero" 34 1 false "" "" 8), (Field.mk "Pos" 37 2 false "" "" 16), (Field.mk "Neg" 37 4 false "" "" 48)]) 6 80 (.agg #[(.int .i64 0), (.int .u64 0), (.int .i64 0), (.slice none 0 0), (.int .i64 0), (.slice none 0 0)]) := tyOk Tryd.underlying39 (by kernel_rfl)
theorem ty41 : TyOk Tryd.prog 41 (.struct #[(Field.mk "Name" 9 0 false "" "" 0), (Field.mk "Attrs" 33 1 false "" "" 16), (Field.mk "Kind" 3 2 false "" "" 40), (Field.mk "Temp" 3 3 false "" "" 48), (Field.mk "Mono" 4 4 false "" "" 56), (Field.mk "Start" 3 5 false "" "" 64), (Field.mk "Time" 3 6 false "" "" 72), (Field.mk "Int" 3 7 false "" "" 80), (Field.mk "Re" 34 8 false "" "" 88), (Field.mk "Im" 34 9 false "" "" 96), (Field.mk "Hist" 39 10 false "" "" 104), (Field.mk "Flags" 3 16 false "" "" 184)]) 17 192 (.agg #[(.string ⟨#[]⟩), (.slice none 0 0), (.int .i64 0), (.int .i64 0), (.bool false), (.int .i64 0), (.int .i64 0), (.int .i64 0), (.int .u64 0), (.int .u64 0), (.int .i64 0), (.int .u64 0), (.int .i64 0), (.slice none 0 0), (.int .i64 0), (.slice none 0 0), (.int .i64 0)]) := tyOk Tryd.underlying41 (by kernel_rfl)
theorem ty46 : TyOk Tryd.prog 46 (.struct #[(Field.mk "P" 41 0 false "" "" 0), (Field.mk "Kept" 4 17 false "" "" 192), (Field.mk "E" 25 18 false "" "" 200)]) 19 208 (.agg #[(.string ⟨#[]⟩), (.slice none 0 0), (.int .i64 0), (.int .i64 0), (.bool false), (.int .i64 0), (.int .i64 0), (.int .i64 0), (.int .u64 0), (.int .u64 0), (.int .i64 0), (.int .u64 0), (.int .i64 0), (.slice none 0 0), (.int .i64 0), (.slice none 0 0), (.int .i64 0), (.bool false), (.int .i64 0)]) := tyOk Tryd.underlying46 (by kernel_rfl)
theorem ty52 : TyOk Tryd.prog 52 (.struct #[(Field.mk "P" 41 0 false "" "" 0), (Field.mk "Stop" 3 17 false "" "" 192)]) 18 200 (.agg #[(.string ⟨#[]⟩), (.slice none 0 0), (.int .i64 0), (.int .i64 0), (.bool false), (.int .i64 0), (.int .i64 0), (.int .i64 0), (.int .u64 0), (.int .u64 0), (.int .i64 0), (.int .u64 0), (.int .i64 0), (.slice none 0 0), (.int .i64 0), (.slice none 0 0), (.int .i64 0), (.int .i64 0)]) := tyOk Tryd.underlying52 (by kernel_rfl)
theorem ty59 : TyOk Tryd.prog 59 (.struct #[(Field.mk "Key" 9 0 false "" "" 0), (Field.mk "Val" 9 1 false "" "" 16)]) 2 32 (.agg #[(.string ⟨#[]⟩), (.string ⟨#[]⟩)]) := tyOk Tryd.underlying59 (by kernel_rfl)
theorem ty61 : TyOk Tryd.prog 61 (.slice 91) 1 24 (.slice none 0 0) := tyOk Tryd.underlying61 (by kernel_rfl)
theorem ty63 : TyOk Tryd.prog 63 (.struct #[(Field.mk "L" 61 0 false "" "" 0), (Field.mk "At" 3 1 false "" "" 24), (Field.mk "E" 25 2 false "" "" 32)]) 3 40 (.agg #[(.slice none 0 0), (.int .i64 0), (.int .i64 0)]) := tyOk Tryd.underlying63 (by kernel_rfl)
theorem ty66 : TyOk Tryd.prog 66 (.pointer 96) 1 8 (.pointer none) := tyOk Tryd.underlying66 (by kernel_rfl)
theorem ty69 : TyOk Tryd.prog 69 (.slice 73) 1 24 (.slice none 0 0) := tyOk Tryd.underlying69 (by kernel_rfl)
theorem ty73 : TyOk Tryd.prog 73 (.struct #[(Field.mk "Rule" 28 0 true "" "" 0), (Field.mk "g" 66 5 false "" "limnograph/relabel" 72)]) 6 80 (.agg #[(.int .i64 0), (.string ⟨#[]⟩), (.string ⟨#[]⟩), (.string ⟨#[]⟩), (.string ⟨#[]⟩), (.pointer none)]) := tyOk Tryd.underlying73 (by kernel_rfl)
theorem ty89 : TyOk Tryd.prog 89 (.slice 4) 1 24 (.slice none 0 0) := tyOk Tryd.underlying89 (by kernel_rfl)
theorem ty91 : TyOk Tryd.prog 91 (.struct #[(Field.mk "Many" 4 0 false "" "" 0), (Field.mk "Plain" 4 1 false "" "" 1), (Field.mk "In" 89 2 false "" "" 8), (Field.mk "C" 5 3 false "" "" 32)]) 4 40 (.agg #[(.bool false), (.bool false), (.slice none 0 0), (.int .u8 0)]) := tyOk Tryd.underlying91 (by kernel_rfl)
theorem ty94 : TyOk Tryd.prog 94 (.slice 100) 1 24 (.slice none 0 0) := tyOk Tryd.underlying94 (by kernel_rfl)
theorem ty98 : TyOk Tryd.prog 98 (.array 4 34) 4 32 (.agg #[(.int .u64 0), (.int .u64 0), (.int .u64 0), (.int .u64 0)]) := tyOk Tryd.underlying98 (by kernel_rfl)
theorem ty100 : TyOk Tryd.prog 100 (.struct #[(Field.mk "kind" 3 0 false "" "limnograph/glob" 0), (Field.mk "set" 98 1 false "" "limnograph/glob" 8), (Field.mk "plain" 4 5 false "" "limnograph/glob" 40), (Field.mk "c" 5 6 false "" "limnograph/glob" 41)]) 7 48 (.agg #[(.int .i64 0), (.int .u64 0), (.int .u64 0), (.int .u64 0), (.int .u64 0), (.bool false), (.int .u8 0)]) := tyOk Tryd.underlying100 (by kernel_rfl)
theorem ty102 : TyOk Tryd.prog 102 (.struct #[(Field.mk "at" 3 0 false "" "limnograph/glob" 0), (Field.mk "e" 25 1 false "" "limnograph/glob" 8)]) 2 16 (.agg #[(.int .i64 0), (.int .i64 0)]) := tyOk Tryd.underlying102 (by kernel_rfl)
theorem ty117 : TyOk Tryd.prog 117 (.struct #[(Field.mk "C" 5 0 false "" "" 0), (Field.mk "Next" 3 1 false "" "" 8)]) 2 16 (.agg #[(.int .u8 0), (.int .i64 0)]) := tyOk Tryd.underlying117 (by kernel_rfl)
theorem ty125 : TyOk Tryd.prog 125 (.array 2 37) 4 64 (.agg #[(.int .i64 0), (.slice none 0 0), (.int .i64 0), (.slice none 0 0)]) := tyOk Tryd.underlying125 (by kernel_rfl)
theorem ty137 : TyOk Tryd.prog 137 (.slice 5) 1 24 (.slice none 0 0) := tyOk Tryd.underlying137 (by kernel_rfl)
theorem ty143 : TyOk Tryd.prog 143 (.int .u64) 1 8 (.int .u64 0) := tyOk Tryd.underlying143 (by kernel_rfl)
theorem fo28_0 : FieldOk Tryd.prog 28 0 0 := fieldOk Tryd.underlying28 rfl rfl (by kernel_rfl)
theorem fo28_1 : FieldOk Tryd.prog 28 1 1 := fieldOk Tryd.underlying28 rfl rfl (by kernel_rfl)
theorem fo28_2 : FieldOk Tryd.prog 28 2 2 := fieldOk Tryd.underlying28 rfl rfl (by kernel_rfl)
theorem fo28_3 : FieldOk Tryd.prog 28 3 3 := fieldOk Tryd.underlying28 rfl rfl (by kernel_rfl)
theorem fo28_4 : FieldOk Tryd.prog 28 4 4 := fieldOk Tryd.underlying28 rfl rfl (by kernel_rfl)
theorem fo37_0 : FieldOk Tryd.prog 37 0 0 := fieldOk Tryd.underlying37 rfl rfl (by kernel_rfl)
theorem fo37_1 : FieldOk Tryd.prog 37 1 1 := fieldOk Tryd.underlying37 rfl rfl (by kernel_rfl)
theorem fo39_0 : FieldOk Tryd.prog 39 0 0 := fieldOk Tryd.underlying39 rfl rfl (by kernel_rfl)
theorem fo39_1 : FieldOk Tryd.prog 39 1 1 := fieldOk Tryd.underlying39 rfl rfl (by kernel_rfl)
theorem fo39_2 : FieldOk Tryd.prog 39 2 2 := fieldOk Tryd.underlying39 rfl rfl (by kernel_rfl)
theorem fo39_3 : FieldOk Tryd.prog 39 3 4 := fieldOk Tryd.underlying39 rfl rfl (by kernel_rfl)
theorem fo41_0 : FieldOk Tryd.prog 41 0 0 := fieldOk Tryd.underlying41 rfl rfl (by kernel_rfl)
theorem fo41_1 : FieldOk Tryd.prog 41 1 1 := fieldOk Tryd.underlying41 rfl rfl (by kernel_rfl)
theorem fo41_2 : FieldOk Tryd.prog 41 2 2 := fieldOk Tryd.underlying41 rfl rfl (by kernel_rfl)
theorem fo41_3 : FieldOk Tryd.prog 41 3 3 := fieldOk Tryd.underlying41 rfl rfl (by kernel_rfl)
theorem fo41_4 : FieldOk Tryd.prog 41 4 4 := fieldOk Tryd.underlying41 rfl rfl (by kernel_rfl)
theorem fo41_5 : FieldOk Tryd.prog 41 5 5 := fieldOk Tryd.underlying41 rfl rfl (by kernel_rfl)
theorem fo41_6 : FieldOk Tryd.prog 41 6 6 := fieldOk Tryd.underlying41 rfl rfl (by kernel_rfl)
theorem fo41_7 : FieldOk Tryd.prog 41 7 7 := fieldOk Tryd.underlying41 rfl rfl (by kernel_rfl)
theorem fo41_8 : FieldOk Tryd.prog 41 8 8 := fieldOk Tryd.underlying41 rfl rfl (by kernel_rfl)
theorem fo41_9 : FieldOk Tryd.prog 41 9 9 := fieldOk Tryd.underlying41 rfl rfl (by kernel_rfl)
theorem fo41_10 : FieldOk Tryd.prog 41 10 10 := fieldOk Tryd.underlying41 rfl rfl (by kernel_rfl)
theorem fo41_11 : FieldOk Tryd.prog 41 11 16 := fieldOk Tryd.underlying41 rfl rfl (by kernel_rfl)
theorem fo46_0 : FieldOk Tryd.prog 46 0 0 := fieldOk Tryd.underlying46 rfl rfl (by kernel_rfl)
theorem fo46_1 : FieldOk Tryd.prog 46 1 17 := fieldOk Tryd.underlying46 rfl rfl (by kernel_rfl)
theorem fo46_2 : FieldOk Tryd.prog 46 2 18 := fieldOk Tryd.underlying46 rfl rfl (by kernel_rfl)
theorem fo52_0 : FieldOk Tryd.prog 52 0 0 := fieldOk Tryd.underlying52 rfl rfl (by kernel_rfl)
theorem fo52_1 : FieldOk Tryd.prog 52 1 17 := fieldOk Tryd.underlying52 rfl rfl (by kernel_rfl)
theorem fo59_0 : FieldOk Tryd.prog 59 0 0 := fieldOk Tryd.underlying59 rfl rfl (by kernel_rfl)
theorem fo59_1 : FieldOk Tryd.prog 59 1 1 := fieldOk Tryd.underlying59 rfl rfl (by kernel_rfl)
theorem fo63_0 : FieldOk Tryd.prog 63 0 0 := fieldOk Tryd.underlying63 rfl rfl (by kernel_rfl)
theorem fo63_1 : FieldOk Tryd.prog 63 1 1 := fieldOk Tryd.underlying63 rfl rfl (by kernel_rfl)
theorem fo63_2 : FieldOk Tryd.prog 63 2 2 := fieldOk Tryd.underlying63 rfl rfl (by kernel_rfl)
theorem fo71_0 : FieldOk Tryd.prog 71 0 0 := fieldOk Tryd.underlying71 rfl rfl (by kernel_rfl)
theorem fo73_0 : FieldOk Tryd.prog 73 0 0 := fieldOk Tryd.underlying73 rfl rfl (by kernel_rfl)
theorem fo73_1 : FieldOk Tryd.prog 73 1 5 := fieldOk Tryd.underlying73 rfl rfl (by kernel_rfl)
theorem fo91_0 : FieldOk Tryd.prog 91 0 0 := fieldOk Tryd.underlying91 rfl rfl (by kernel_rfl)
theorem fo91_2 : FieldOk Tryd.prog 91 2 2 := fieldOk Tryd.underlying91 rfl rfl (by kernel_rfl)
theorem fo96_1 : FieldOk Tryd.prog 96 1 1 := fieldOk Tryd.underlying96 rfl rfl (by kernel_rfl)
theorem fo100_0 : FieldOk Tryd.prog 100 0 0 := fieldOk Tryd.underlying100 rfl rfl (by kernel_rfl)
theorem fo100_1 : FieldOk Tryd.prog 100 1 1 := fieldOk Tryd.underlying100 rfl rfl (by kernel_rfl)
theorem fo102_0 : FieldOk Tryd.prog 102 0 0 := fieldOk Tryd.underlying102 rfl rfl (by kernel_rfl)
theorem fo102_1 : FieldOk Tryd.prog 102 1 1 := fieldOk Tryd.underlying102 rfl rfl (by kernel_rfl)
theorem fo117_0 : FieldOk Tryd.prog 117 0 0 := fieldOk Tryd.underlying117 rfl rfl (by kernel_rfl)
theorem fo117_1 : FieldOk Tryd.prog 117 1 1 := fieldOk Tryd.underlying117 rfl rfl (by kernel_rfl)
theorem agok59 : AgOk Tryd.prog 59 #[(Field.mk "Key" 9 0 false "" "" 0), (Field.mk "Val" 9 1 false "" "" 16)] := ⟨Tryd.underlying59, by kernel_rfl, by kernel_rfl⟩
theorem agok102 : AgOk Tryd.prog 102 #[(Field.mk "at" 3 0 false "" "limnograph/glob" 0), (Field.mk "e" 25 1 false "" "limnograph/glob" 8)] := ⟨Tryd.underlying102, by kernel_rfl, by kernel_rfl⟩
theorem x64_96 : X64 Tryd.prog 96 := x64 Tryd.func96 (by kernel_rfl) rfl (by kernel_rfl) (by kernel_rfl)
theorem xfrom_95 : XFrom Tryd.prog 95 := xfrom Tryd.func95 (by kernel_rfl) rfl (by kernel_rfl) (by kernel_rfl)
theorem kok7 : CallOk Tryd.prog 7 := callOk Tryd.func7 (by kernel_rfl) rfl
theorem kok8 : CallOk Tryd.prog 8 := callOk Tryd.func8 (by kernel_rfl) rfl
theorem kok10 : CallOk Tryd.prog 10 := callOk Tryd.func10 (by kernel_rfl) rfl
theorem kok11 : CallOk Tryd.prog 11 := callOk Tryd.func11 (by kernel_rfl) rfl
theorem kok12 : CallOk Tryd.prog 12 := callOk Tryd.func12 (by kernel_rfl) rfl
theorem kok13 : CallOk Tryd.prog 13 := callOk Tryd.func13 (by kernel_rfl) rfl
theorem kok14 : CallOk Tryd.prog 14 := callOk Tryd.func14 (by kernel_rfl) rfl
theorem kok15 : CallOk Tryd.prog 15 := callOk Tryd.func15 (by kernel_rfl) rfl
theorem kok16 : CallOk Tryd.prog 16 := callOk Tryd.func16 (by kernel_rfl) rfl
theorem kok17 : CallOk Tryd.prog 17 := callOk Tryd.func17 (by kernel_rfl) rfl
theorem kok18 : CallOk Tryd.prog 18 := callOk Tryd.func18 (by kernel_rfl) rfl
theorem kok19 : CallOk Tryd.prog 19 := callOk Tryd.func19 (by kernel_rfl) rfl
theorem kok20 : CallOk Tryd.prog 20 := callOk Tryd.func20 (by kernel_rfl) rfl
theorem kok21 : CallOk Tryd.prog 21 := callOk Tryd.func21 (by kernel_rfl) rfl
theorem kok22 : CallOk Tryd.prog 22 := callOk Tryd.func22 (by kernel_rfl) rfl
theorem kok23 : CallOk Tryd.prog 23 := callOk Tryd.func23 (by kernel_rfl) rfl
theorem kok24 : CallOk Tryd.prog 24 := callOk Tryd.func24 (by kernel_rfl) rfl
theorem kok25 : CallOk Tryd.prog 25 := callOk Tryd.func25 (by kernel_rfl) rfl
theorem kok26 : CallOk Tryd.prog 26 := callOk Tryd.func26 (by kernel_rfl) rfl
theorem kok27 : CallOk Tryd.prog 27 := callOk Tryd.func27 (by kernel_rfl) rfl
theorem kok28 : CallOk Tryd.prog 28 := callOk Tryd.func28 (by kernel_rfl) rfl
theorem kok29 : CallOk Tryd.prog 29 := callOk Tryd.func29 (by kernel_rfl) rfl
theorem kok30 : CallOk Tryd.prog 30 := callOk Tryd.func30 (by kernel_rfl) rfl
theorem kok31 : CallOk Tryd.prog 31 := callOk Tryd.func31 (by kernel_rfl) rfl
theorem kok32 : CallOk Tryd.prog 32 := callOk Tryd.func32 (by kernel_rfl) rfl
theorem kok33 : CallOk Tryd.prog 33 := callOk Tryd.func33 (by kernel_rfl) rfl
theorem kok34 : CallOk Tryd.prog 34 := callOk Tryd.func34 (by kernel_rfl) rfl
theorem kok35 : CallOk Tryd.prog 35 := callOk Tryd.func35 (by kernel_rfl) rfl
theorem kok36 : CallOk Tryd.prog 36 := callOk Tryd.func36 (by kernel_rfl) rfl
theorem kok37 : CallOk Tryd.prog 37 := callOk Tryd.func37 (by kernel_rfl) rfl
theorem kok38 : CallOk Tryd.prog 38 := callOk Tryd.func38 (by kernel_rfl) rfl
theorem kok39 : CallOk Tryd.prog 39 := callOk Tryd.func39 (by kernel_rfl) rfl
theorem kok40 : CallOk Tryd.prog 40 := callOk Tryd.func40 (by kernel_rfl) rfl
theorem kok41 : CallOk Tryd.prog 41 := callOk Tryd.func41 (by kernel_rfl) rfl
theorem kok42 : CallOk Tryd.prog 42 := callOk Tryd.func42 (by kernel_rfl) rfl
theorem kok43 : CallOk Tryd.prog 43 := callOk Tryd.func43 (by kernel_rfl) rfl
theorem kok44 : CallOk Tryd.prog 44 := callOk Tryd.func44 (by kernel_rfl) rfl
theorem kok45 : CallOk Tryd.prog 45 := callOk Tryd.func45 (by kernel_rfl) rfl
theorem kok46 : CallOk Tryd.prog 46 := callOk Tryd.func46 (by kernel_rfl) rfl
theorem kok47 : CallOk Tryd.prog 47 := callOk Tryd.func47 (by kernel_rfl) rfl
theorem kok48 : CallOk Tryd.prog 48 := callOk Tryd.func48 (by kernel_rfl) rfl
theorem kok49 : CallOk Tryd.prog 49 := callOk Tryd.func49 (by kernel_rfl) rfl
theorem kok50 : CallOk Tryd.prog 50 := callOk Tryd.func50 (by kernel_rfl) rfl
theorem kok51 : CallOk Tryd.prog 51 := callOk Tryd.func51 (by kernel_rfl) rfl
theorem kok52 : CallOk Tryd.prog 52 := callOk Tryd.func52 (by kernel_rfl) rfl
theorem kok53 : CallOk Tryd.prog 53 := callOk Tryd.func53 (by kernel_rfl) rfl
theorem kok54 : CallOk Tryd.prog 54 := callOk Tryd.func54 (by kernel_rfl) rfl
theorem kok55 : CallOk Tryd.prog 55 := callOk Tryd.func55 (by kernel_rfl) rfl
theorem kok56 : CallOk Tryd.prog 56 := callOk Tryd.func56 (by kernel_rfl) rfl
theorem kok57 : CallOk Tryd.prog 57 := callOk Tryd.func57 (by kernel_rfl) rfl
theorem kok58 : CallOk Tryd.prog 58 := callOk Tryd.func58 (by kernel_rfl) rfl
theorem kok59 : CallOk Tryd.prog 59 := callOk Tryd.func59 (by kernel_rfl) rfl
theorem kok60 : CallOk Tryd.prog 60 := callOk Tryd.func60 (by kernel_rfl) rfl
theorem kok61 : CallOk Tryd.prog 61 := callOk Tryd.func61 (by kernel_rfl) rfl
theorem kok62 : CallOk Tryd.prog 62 := callOk Tryd.func62 (by kernel_rfl) rfl
theorem kok63 : CallOk Tryd.prog 63 := callOk Tryd.func63 (by kernel_rfl) rfl
theorem kok64 : CallOk Tryd.prog 64 := callOk Tryd.func64 (by kernel_rfl) rfl
theorem kok65 : CallOk Tryd.prog 65 := callOk Tryd.func65 (by kernel_rfl) rfl
theorem kok66 : CallOk Tryd.prog 66 := callOk Tryd.func66 (by kernel_rfl) rfl
theorem kok67 : CallOk Tryd.prog 67 := callOk Tryd.func67 (by kernel_rfl) rfl
theorem kok68 : CallOk Tryd.prog 68 := callOk Tryd.func68 (by kernel_rfl) rfl
theorem kok69 : CallOk Tryd.prog 69 := callOk Tryd.func69 (by kernel_rfl) rfl
theorem kok70 : CallOk Tryd.prog 70 := callOk Tryd.func70 (by kernel_rfl) rfl
theorem kok71 : CallOk Tryd.prog 71 := callOk Tryd.func71 (by kernel_rfl) rfl
theorem kok72 : CallOk Tryd.prog 72 := callOk Tryd.func72 (by kernel_rfl) rfl
theorem kok73 : CallOk Tryd.prog 73 := callOk Tryd.func73 (by kernel_rfl) rfl
theorem kok74 : CallOk Tryd.prog 74 := callOk Tryd.func74 (by kernel_rfl) rfl
theorem kok75 : CallOk Tryd.prog 75 := callOk Tryd.func75 (by kernel_rfl) rfl
theorem kok76 : CallOk Tryd.prog 76 := callOk Tryd.func76 (by kernel_rfl) rfl
theorem kok77 : CallOk Tryd.prog 77 := callOk Tryd.func77 (by kernel_rfl) rfl
theorem kok78 : CallOk Tryd.prog 78 := callOk Tryd.func78 (by kernel_rfl) rfl
theorem kok79 : CallOk Tryd.prog 79 := callOk Tryd.func79 (by kernel_rfl) rfl
theorem kok80 : CallOk Tryd.prog 80 := callOk Tryd.func80 (by kernel_rfl) rfl
theorem kok81 : CallOk Tryd.prog 81 := callOk Tryd.func81 (by kernel_rfl) rfl
theorem kok82 : CallOk Tryd.prog 82 := callOk Tryd.func82 (by kernel_rfl) rfl
theorem kok83 : CallOk Tryd.prog 83 := callOk Tryd.func83 (by kernel_rfl) rfl
theorem kok84 : CallOk Tryd.prog 84 := callOk Tryd.func84 (by kernel_rfl) rfl
theorem kok85 : CallOk Tryd.prog 85 := callOk Tryd.func85 (by kernel_rfl) rfl
theorem kok86 : CallOk Tryd.prog 86 := callOk Tryd.func86 (by kernel_rfl) rfl
theorem kok87 : CallOk Tryd.prog 87 := callOk Tryd.func87 (by kernel_rfl) rfl
theorem kok88 : CallOk Tryd.prog 88 := callOk Tryd.func88 (by kernel_rfl) rfl
theorem kok89 : CallOk Tryd.prog 89 := callOk Tryd.func89 (by kernel_rfl) rfl
theorem kok90 : CallOk Tryd.prog 90 := callOk Tryd.func90 (by kernel_rfl) rfl
theorem kok91 : CallOk Tryd.prog 91 := callOk Tryd.func91 (by kernel_rfl) rfl
theorem kok92 : CallOk Tryd.prog 92 := callOk Tryd.func92 (by kernel_rfl) rfl
theorem kok93 : CallOk Tryd.prog 93 := callOk Tryd.func93 (by kernel_rfl) rfl
theorem kok94 : CallOk Tryd.prog 94 := callOk Tryd.func94 (by kernel_rfl) rfl
theorem kok97 : CallOk Tryd.prog 97 := callOk Tryd.func97 (by kernel_rfl) rfl
theorem kok98 : CallOk Tryd.prog 98 := callOk Tryd.func98 (by kernel_rfl) rfl
theorem kok99 : CallOk Tryd.prog 99 := callOk Tryd.func99 (by kernel_rfl) rfl
theorem kok100 : CallOk Tryd.prog 100 := callOk Tryd.func100 (by kernel_rfl) rfl
theorem c_glob_closed {a0 : List UInt8} {a1 : Int} {w : World} {r0 : Bool} (h : glob_closed a0 a1 = some r0) : Rets Tryd.prog 91 [vs a0, vi a1] w (fun v w' => v = vB r0 ∧ Ext w w') := by
 unfold glob_closed at h
 refine Rets.enter Tryd.func91 z z ?_
 refine (show WC _ _ _ _ [(0, vs a0), (1, vi a1)] _ from ?_)
 refine sq (rg (wY (ya z) z (nl (th (sq ?_)))))
 obtain ⟨ad, h, K⟩ := bnd h
 refine WC.join (σ := Int) (fun x w' => x = ad ∧ w = w') (fun x => [(0, vs a0), (1, vi x)]) ?_ ?_
 ·refine WC.block ?_
  obtain ⟨I, h, M⟩ := flow1 h
  obtain ⟨J, h⟩ := loop_some h
  refine WC.joinB 0 (σ := Int) (fun x w' => I = .go x ∧ w = w') (fun x => [(0, vs a0), (1, vi x)]) ?_ ?_
  ·refine WC.loop (σ := Int) (fun x k w' => loopN k (glob_closed_lp1 a0) x = some I ∧ w = w') (fun x => [(0, vs a0), (1, vi x)]) a1 J (.cons z (.cons z .nil)) ⟨h, z⟩ ?_
   rintro j J _ ⟨h, rfl⟩
   obtain ⟨ae, al, rfl, h, t⟩ := rnd1 h
   unfold glob_closed_lp1 at h
   try dsimp only at h
   refine (show WC _ _ _ _ [(0, vs a0), (1, vi j)] _ from ?_)
   refine sq (sq (rg (wY (ym z) z (wY (ym z) z (wY (Y.len_s ty9 z) z (wY (Y.lss_i z z) z (wY (ym z) z ?_)))))))
   obtain ⟨af, h, Q⟩ := bnd h
   refine WL.cut 5 (σ := Bool) (fun x w' => x = af ∧ w = w') (fun x => [(0, vs a0), (1, vi j), (14, vB x)]) ?_ ?_
   ·rcases cnd h with ⟨m, h⟩ | ⟨m, h⟩
    ·refine WL.ren 9 z (congrArg vB m) (ug z z (wY (ym z) z (ug z z (wY (ym z) z (ug z z ?_)))))
     obtain ⟨ah, S, h⟩ := bnd h
     refine wY (Y.index_s ty9 z z S) z (ug z z (wY (Y.neq_b (b := 93) z z) z (wY (Y.pick (b := true) z z) z ?_)))
     exact nl (At.join (σ := Bool) (!decide (ah = 93)) ⟨some1 h, z⟩ (.cons z (.cons z (.cons z .nil))))
    ·refine WL.ren 9 z (congrArg vB m) (WL.gS z z z z (WL.gS z z z z (WL.gS z z z z (WL.gS z z z z (wY (Y.pick (b := false) z z) z ?_)))))
     exact nl (At.join (σ := Bool) false ⟨some1 h, z⟩ (.cons z (.cons z (.cons z .nil))))
   ·rintro ai _ ⟨rfl, rfl⟩
    replace h := Q
    try dsimp only at h
    refine (show WL _ _ _ _ _ [(0, vs a0), (1, vi j), (14, vB ai)] _ from ?_)
    refine nl (th ?_)
    rcases cnd h with ⟨o, h⟩ | ⟨o, h⟩
    ·refine WC.condT' z o (sk (th ?_))
     obtain ⟨aj, h, T⟩ := bnd h
     refine WC.join (σ := Int) (fun x w' => x = aj ∧ w = w') (fun x => [(0, vs a0), (1, vi x)]) ?_ ?_
     ·refine WC.block (sq ?_)
      obtain ⟨ak, h, U⟩ := bnd h
      refine WC.join (σ := Int) (fun x w' => x = ak ∧ w = w') (fun x => [(0, vs a0), (1, vi x)]) ?_ ?_
      ·refine sq (rg (wY (ym z) z (wY (ym z) z ?_)))
       obtain ⟨am, V, h⟩ := bnd h
       refine wY (Y.index_s ty9 z z V) z (wY (Y.eql_b (b := 92) z z) z (nl (th ?_)))
       rcases cnd h with ⟨r, h⟩ | ⟨r, h⟩
       ·refine WC.condT' z r (rg (wY (ym z) z (wY (Y.add_i z z) z ?_)))
        obtain ⟨W, G, h⟩ := lt1 h
        refine WL.yE (ya z) (congrArg vi G.symm) z (nl ?_)
        exact At.join (σ := Int) W ⟨some1 h, z⟩ (.cons z (.cons z .nil))
       ·refine WC.condF' z r (sk ?_)
        exact At.join (σ := Int) j ⟨some1 h, z⟩ (.cons z (.cons z .nil))
      ·rintro X _ ⟨rfl, rfl⟩
       replace h := U
       try dsimp only at h
       refine (show At _ _ _ [(0, vs a0), (1, vi X)] _ from ?_)
       refine th (rg (wY (ym z) z (wY (Y.add_i z z) z ?_)))
       obtain ⟨Z, H, h⟩ := lt1 h
       refine WL.yE (ya z) (congrArg vi H.symm) z (nl (At.inBlock ?_))
       exact At.join (σ := Int) Z ⟨some1 h, z⟩ (.cons z (.cons z .nil))
     ·rintro D _ ⟨rfl, rfl⟩
      replace h := T
      try dsimp only at h
      refine (show At _ _ _ [(0, vs a0), (1, vi D)] _ from ?_)
      exact At.round D ae (Nat.lt_succ_self _) ⟨next1 h t, z⟩ (.cons z (.cons z .nil))
    ·refine WC.condF' z o (WC.exit (At.thenX (At.loopX ?_)))
     exact At.hitB (σ := Int) j ⟨brk1 h t, z⟩ (.cons z (.cons z .nil))
  ·rintro F _ ⟨rfl, rfl⟩
   replace h := flowK_go M
   try dsimp only at h
   refine (show At _ _ _ [(0, vs a0), (1, vi F)] _ from ?_)
   refine At.inBlockHit ?_
   exact At.join (σ := Int) F ⟨some1 h, z⟩ (.cons z (.cons z .nil))
 ·rintro aa _ ⟨rfl, rfl⟩
  replace h := K
  try dsimp only at h
  refine (show At _ _ _ [(0, vs a0), (1, vi aa)] _ from ?_)
  refine th (sq (rg (wY (ym z) z (wY (ym z) z (wY (Y.len_s ty9 z) z (wY (Y.lss_i z z) z ?_))))))
  obtain ⟨an, ab, h⟩ := lt1 h
  refine WL.yE (ya z) (congrArg vB ab.symm) z (nl (th (rt ?_)))
  obtain rfl := some1 h
  have ac : Stp [] (Lg.O0 (fun _ => False)) w (Lg.O0 (fun _ => False)) w := (sr_ _ _ _)
  exact At.res (.inl z) z (.tmp z .nil) ⟨z, (se_ ac z z)⟩
theorem c_glob_member {a0 : List UInt8} {a1 : Int} {w : World} {r0 : UInt8} {r1 : Int} (h : glob_member a0 a1 = some (r0, r1)) : Rets Tryd.prog 92 [vs a0, vi a1] w (fun v w' => v = tp [vb r0, vi r1] ∧ Ext w w') := by
 unfold glob_member at h
 refine Rets.enter Tryd.func92 z z ?_
 refine (show WC _ _ _ _ [(0, vs a0), (1, vi a1)] _ from ?_)
 refine sq (rg (wY (ya (v := vb 0) z) z (wY (ya z) z (nl (th (sq (sq (rg (wY (ym z) z ?_)))))))))
 refine wY (ym z) z ?_
 obtain ⟨F, m, h⟩ := bnd h
 refine wY (Y.index_s ty9 z z m) z (wY (Y.eql_b (b := 92) z z) z (nl (th ?_)))
 rcases cnd h with ⟨j, h⟩ | ⟨j, h⟩
 ·refine WC.condT' z j (sq (rg (wY (ym z) z (wY (ym z) z (wY (Y.add_i z z) z ?_)))))
  obtain ⟨G, o, h⟩ := bnd h
  refine wY (Y.index_s ty9 z z o) z (wY (ya z) z (wY (ya z) z (nl (th (rt (At.thenR ?_))))))
  obtain ⟨rfl, rfl⟩ := tup2 h
  have r : Stp [] (Lg.O0 (fun _ => False)) w (Lg.O0 (fun _ => False)) w := (sr_ _ _ _)
  exact At.res (.inl z) z (.tmp z (.tmp z .nil)) ⟨z, (se_ r z z)⟩
 ·refine WC.condF' z j (sk (th (sq (rg (wY (ym z) z (wY (ym z) z ?_))))))
  obtain ⟨H, t, h⟩ := bnd h
  refine wY (Y.index_s ty9 z z t) z (wY (ya z) z (wY (ya z) z (nl (th (rt ?_)))))
  obtain ⟨rfl, rfl⟩ := tup2 h
  have D : Stp [] (Lg.O0 (fun _ => False)) w (Lg.O0 (fun _ => False)) w := (sr_ _ _ _)
  exact At.res (.inl z) z (.tmp z (.tmp z .nil)) ⟨z, (se_ D z z)⟩
theorem c_glob_class {A : Nat → Prop} {a0 : List UInt8} {a1 : Int} {w : World} (hG0 : CellsAt w 0 0 [vi 0, vi 0]) (hGA0 : A 0) {r0 : glob_piece} {r1 : Int} {r2 : glob_fault} (h : glob_class a0 a1 = some (r0, r1, r2)) : Rets Tryd.prog 70 [vs a0, vi a1] w (fun v w' => v = Value.tuple (List.toArray [ag [vi r0.kind, vu r0.set.a0, vu r0.set.a1, vu r0.set.a2, vu r0.set.a3, vB r0.plain, vb r0.c], vi r1, ag [vi r2.at_, vi r2.e]]) ∧ Ext w w') := by
 unfold glob_class at h
 refine Rets.enter Tryd.func70 z z ?_
 have eh : CAt [0, 1] (Lg.O0 A) w 0 0 [vi 0, vi 0] := CAt.glob hG0 (if_pos hGA0)
 refine (show WC _ _ _ _ [(0, vs a0), (1, vi a1)] _ from ?_)
 refine sq (rg (WL.alloc (O := (Lg.O0 A)) 11 [vi 0, vu 0, vu 0, vu 0, vu 0, vB false, vb 0] ty100 z z ?_))
 intro r fB gk ae ar
 refine wY (ya z) z (WL.alloc (O := fB) 12 [vi 0, vi 0] ty102 z z ?_)
 intro t fC gl G au
 refine nl (th (sq (rg (WL.alloc (O := fC) 13 [vi 0, vu 0, vu 0, vu 0, vu 0, vB false, vb 0] ty100 z z ?_))))
 intro j fD b6 o b7
 refine nl (th (sq (rg (wY (ym z) z (wY (Y.add_i z z) z ?_)))))
 obtain ⟨bu, cr, h⟩ := lt1 h
 refine WL.yE (ya z) (congrArg vi cr.symm) z (nl (th (sq (rg (wY (ym z) z (wY (ym z) z (wY (Y.len_s ty9 z) z (wY (Y.lss_i z z) z (wY (ym z) z ?_)))))))))
 obtain ⟨fF, h, ei⟩ := bnd h
 refine WL.cut 5 (σ := Bool) (fun x w' => x = fF ∧ b6 = w') (fun x => [(0, vs a0), (1, vi a1), (4, pt r 0), (6, pt t 0), (7, pt j 0), (8, vi bu), (29, vB x)]) ?_ ?_
 ·rcases cnd h with ⟨bw, h⟩ | ⟨bw, h⟩
  ·refine WL.ren 24 z (congrArg vB bw) (ug z z (wY (ym z) z (ug z z (wY (ym z) z (ug z z ?_)))))
   obtain ⟨fG, ej, h⟩ := bnd h
   refine wY (Y.index_s ty9 z z ej) z (ug z z (wY (Y.eql_b (b := 33) z z) z (wY (Y.pick (b := true) z z) z ?_)))
   exact nl (At.join (σ := Bool) (decide (fG = 33)) ⟨some1 h, z⟩ (.cons z (.cons z (.cons z (.cons z (.cons z (.cons z (.cons z .nil))))))))
  ·refine WL.ren 24 z (congrArg vB bw) (WL.gS z z z z (WL.gS z z z z (WL.gS z z z z (WL.gS z z z z (wY (Y.pick (b := false) z z) z ?_)))))
   exact nl (At.join (σ := Bool) false ⟨some1 h, z⟩ (.cons z (.cons z (.cons z (.cons z (.cons z (.cons z (.cons z .nil))))))))
 ·rintro K _ ⟨rfl, rfl⟩
  replace h := ei
  try dsimp only at h
  refine (show WL _ _ _ _ _ [(0, vs a0), (1, vi a1), (4, pt r 0), (6, pt t 0), (7, pt j 0), (8, vi bu), (29, vB K)] _ from ?_)
  refine wY (ya z) z (nl (th (sq ?_)))
  obtain ⟨fH, h, ek⟩ := bnd h
  refine WC.join (σ := Int) (fun x w' => x = fH ∧ b6 = w') (fun x => [(0, vs a0), (1, vi a1), (4, pt r 0), (6, pt t 0), (7, pt j 0), (8, vi x), (9, vB K)]) ?_ ?_
  ·refine sq (rg (wY (ym z) z (nl (th ?_))))
   rcases cnd h with ⟨bx, h⟩ | ⟨bx, h⟩
   ·refine WC.condT' z bx (rg (wY (ym z) z (wY (Y.add_i z z) z ?_)))
    obtain ⟨em, cs, h⟩ := lt1 h
    refine WL.yE (ya z) (congrArg vi cs.symm) z (nl ?_)
    exact At.join (σ := Int) em ⟨some1 h, z⟩ (.cons z (.cons z (.cons z (.cons z (.cons z (.cons z (.cons z .nil)))))))
   ·refine WC.condF' z bx (sk ?_)
    exact At.join (σ := Int) bu ⟨some1 h, z⟩ (.cons z (.cons z (.cons z (.cons z (.cons z (.cons z (.cons z .nil)))))))
  ·rintro F _ ⟨rfl, rfl⟩
   replace h := ek
   try dsimp only at h
   refine (show At _ _ _ [(0, vs a0), (1, vi a1), (4, pt r 0), (6, pt t 0), (7, pt j 0), (8, vi F), (9, vB K)] _ from ?_)
   refine th (sq (rg (wY (ym z) z (wY (ya z) z (nl (th (sq (sq (rg ?_)))))))))
   refine wY (ym z) z (wY (ym z) z ?_)
   obtain ⟨gJ, en, h⟩ := bnd h
   refine WL.call (vals := [vs a0, vi F]) kok91 z z (c_glob_closed en) ?_
   rintro gm bz ⟨rfl, eo⟩
   obtain ⟨bd, fI, fJ, m⟩ := adoptE fD (fun k => 1) eo
   refine wY (Y.not z) z (nl (th ?_))
   rcases cnd h with ⟨bA, h⟩ | ⟨bA, h⟩
   ·refine WC.condT' z bA (sq (rg ?_))
    have ep := b7.st m z
    refine wY (yL ty100 z z (ep.cells 0 [vi 0, vu 0, vu 0, vu 0, vu 0, vB false, vb 0] z) z) z (wY (ym z) z (wY (yb (vals := [(0, vi a1), (1, vi 2)]) (cells := [vi a1, vi 2]) (fe_ z) (by kernel_rfl)) z ?_))
    have et := ((ar.st G z).st o z).st m z
    refine WL.store (v := ag [vi 0, vu 0, vu 0, vu 0, vu 0, vB false, vb 0]) (cells' := [vi 0, vu 0, vu 0, vu 0, vu 0, vB false, vb 0]) ty100 z z et z (le_ z) z z ?_
    intro gn bF eu
    refine wY (ya z) z ?_
    have ey := ((au.st o z).st m z).st bF z
    refine WL.store (v := ag [vi a1, vi 2]) (cells' := [vi a1, vi 2]) ty102 z z ey z (le_ z) z z ?_
    intro ez bG eA
    refine nl (th (rt (At.thenR ?_)))
    obtain ⟨rfl, rfl, rfl⟩ := tup3 h
    have eB : Stp [11, 12] (Lg.O0 A) w bd ez := (tr_ (su_ ae z) (tr_ (su_ G z) (tr_ (su_ o z) (tr_ (su_ m z) (tr_ (su_ bF z) (su_ bG z))))))
    have eC := eu.st bG z
    exact At.res (.inl z) z (.cell z (eC.runAg 0 [vi 0, vu 0, vu 0, vu 0, vu 0, vB false, vb 0] ty100 z z z) (.tmp z (.cell z (eA.runAg 0 [vi a1, vi 2] ty102 z z z) .nil))) ⟨z, (se_ eB z z)⟩
   ·refine WC.condF' z bA (sk (th (sq ?_)))
    obtain ⟨fK, h, bB⟩ := flow1 h
    refine WC.join (σ := (UInt64 × UInt64 × UInt64 × UInt64 × Int × Own)) (fun x w' => fK = .go (x.1, x.2.1, x.2.2.1, x.2.2.2.1, x.2.2.2.2.1) ∧ Stp [13] bd bz x.2.2.2.2.2 w' ∧ Blk 13 x.2.2.2.2.2 w' j 100 [vi 0, vu x.1, vu x.2.1, vu x.2.2.1, vu x.2.2.2.1, vB false, vb 0]) (fun x => [(1, vi a1), (4, pt r 0), (6, pt t 0), (7, pt j 0), (8, vi x.2.2.2.2.1), (9, vB K), (10, vi F)]) ?_ ?_
    ·refine WC.block ?_
     obtain ⟨ef, h, bC⟩ := flow1 h
     obtain ⟨eg, h⟩ := loop_some h
     refine WC.joinB 0 (σ := (UInt64 × UInt64 × UInt64 × UInt64 × Int × Own)) (fun x w' => ef = .go (x.1, x.2.1, x.2.2.1, x.2.2.2.1, x.2.2.2.2.1) ∧ Stp [13] bd bz x.2.2.2.2.2 w' ∧ Blk 13 x.2.2.2.2.2 w' j 100 [vi 0, vu x.1, vu x.2.1, vu x.2.2.1, vu x.2.2.2.1, vB false, vb 0]) (fun x => [(1, vi a1), (4, pt r 0), (6, pt t 0), (7, pt j 0), (8, vi x.2.2.2.2.1), (9, vB K), (10, vi F)]) ?_ ?_
     ·have eD := b7.st m z
      refine WC.loop (σ := (UInt64 × UInt64 × UInt64 × UInt64 × Int × Own)) (fun x k w' => loopN k (glob_class_lp1 a0) (x.1, x.2.1, x.2.2.1, x.2.2.2.1, x.2.2.2.2.1) = some ef ∧ Stp [13] bd bz x.2.2.2.2.2 w' ∧ Blk 13 x.2.2.2.2.2 w' j 100 [vi 0, vu x.1, vu x.2.1, vu x.2.2.1, vu x.2.2.2.1, vB false, vb 0]) (fun x => [(0, vs a0), (1, vi a1), (4, pt r 0), (6, pt t 0), (7, pt j 0), (8, vi x.2.2.2.2.1), (9, vB K), (10, vi F)]) (0, 0, 0, 0, F, bd) eg (.cons z (.cons z (.cons z (.cons z (.cons z (.cons z (.cons z (.cons z .nil)))))))) ⟨h, (sr_ _ _ _), eD⟩ ?_
      rintro ⟨af, U, V, W, D, av⟩ eg b8 ⟨h, M, ap⟩
      obtain ⟨fL, gK, rfl, h, aK⟩ := rnd1 h
      unfold glob_class_lp1 at h
      try dsimp only at h M ap
      refine (show WC _ _ _ _ [(0, vs a0), (1, vi a1), (4, pt r 0), (6, pt t 0), (7, pt j 0), (8, vi D), (9, vB K), (10, vi F)] _ from ?_)
      refine sq (sq (rg (wY (ym z) z (wY (ym z) z ?_))))
      obtain ⟨gL, eE, h⟩ := bnd h
      refine wY (Y.index_s ty9 z z eE) z (wY (Y.neq_b (b := 93) z z) z (nl (th ?_)))
      rcases cnd h with ⟨aL, h⟩ | ⟨aL, h⟩
      ·refine WC.condT' z aL (sk (th ?_))
       obtain ⟨eF, h, aM⟩ := flow1 h
       refine WC.join (σ := (UInt64 × UInt64 × UInt64 × UInt64 × Int × Own)) (fun x w' => eF = .go (x.1, x.2.1, x.2.2.1, x.2.2.2.1, x.2.2.2.2.1) ∧ Stp [13] av b8 x.2.2.2.2.2 w' ∧ Blk 13 x.2.2.2.2.2 w' j 100 [vi 0, vu x.1, vu x.2.1, vu x.2.2.1, vu x.2.2.2.1, vB false, vb 0]) (fun x => [(0, vs a0), (1, vi a1), (4, pt r 0), (6, pt t 0), (7, pt j 0), (8, vi x.2.2.2.2.1), (9, vB K), (10, vi F)]) ?_ ?_
       ·refine WC.block (sq (sq (rg (wY (ym z) z (wY (ym z) z ?_)))))
        obtain ⟨gp, ct, h⟩ := bnd h
        refine wY (Y.index_s ty9 z z ct) z (wY (Y.eql_b (b := 45) z z) z (nl (th ?_)))
        rcases cnd h with ⟨aN, h⟩ | ⟨aN, h⟩
        ·refine WC.condT' z aN (sq (sq (rg (wY (ym z) z (wY (ym z) z (wY (Y.add_i z z) z ?_))))))
         obtain ⟨gq, cu, h⟩ := bnd h
         refine wY (Y.index_s ty9 z z cu) z (wY (Y.neq_b (b := 93) z z) z (nl (th ?_)))
         rcases cnd h with ⟨aO, h⟩ | ⟨aO, h⟩
         ·refine WC.condT' z aO (sq (rg (wY (yL ty100 z z (ap.cells 0 [vi 0, vu af, vu U, vu V, vu W, vB false, vb 0] z) z) z (wY (ym z) z (wY (yb (vals := [(0, vi D), (1, vi 3)]) (cells := [vi D, vi 3]) (fe_ z) (by kernel_rfl)) z ?_)))))
          have cz := (((ar.st G z).st o z).st m z).st M z
          refine WL.store (v := ag [vi 0, vu af, vu U, vu V, vu W, vB false, vb 0]) (cells' := [vi 0, vu af, vu U, vu V, vu W, vB false, vb 0]) ty100 z z cz z (le_ z) z z ?_
          intro fT bf cA
          refine wY (ya z) z ?_
          have cF := (((au.st o z).st m z).st M z).st bf z
          refine WL.store (v := ag [vi D, vi 3]) (cells' := [vi D, vi 3]) ty102 z z cF z (le_ z) z z ?_
          intro cG bg cH
          refine nl (th (rt (At.thenR (At.thenR (At.inBlockR ?_)))))
          have h := outs1 h aM
          refine At.joinR (At.loopR ?_)
          have h := outr1 h aK bC
          refine At.joinBR (At.inBlockR ?_)
          have h := outs1 h bB
          refine At.joinR (At.thenR ?_)
          obtain ⟨rfl, rfl, rfl⟩ := tup3 h
          have cI : Stp [11, 12, 13] (Lg.O0 A) w av cG := (tr_ (su_ ae z) (tr_ (su_ G z) (tr_ (su_ o z) (tr_ (su_ m z) (tr_ (su_ M z) (tr_ (su_ bf z) (su_ bg z)))))))
          have cJ := cA.st bg z
          exact At.res (.inl z) z (.cell z (cJ.runAg 0 [vi 0, vu af, vu U, vu V, vu W, vB false, vb 0] ty100 z z z) (.tmp z (.cell z (cH.runAg 0 [vi D, vi 3] ty102 z z z) .nil))) ⟨z, (se_ cI z z)⟩
         ·refine WC.condF' z aO (sk (th (sq (rg (wY (yf fo100_1 z) z ?_)))))
          obtain ⟨eG, h, cK⟩ := bnd h
          refine WL.callJ (vals := [pt j 1, vb 45]) (σ := (UInt64 × Own)) (fun x w' => x.1 = eG ∧ Stp [13] av b8 x.2 w' ∧ Blk 13 x.2 w' j 100 [vi 0, vu x.1, vu U, vu V, vu W, vB false, vb 0]) (fun x => tp []) kok90 z z ?_ ?_
          ·refine Rets.enter Tryd.func90 z z ?_
           refine (show WC _ _ _ _ [(0, pt j 1), (1, vb 45)] _ from ?_)
           refine WC.draw 13 av fmix (by kernel_rfl) ?_
           intro fU bh
           refine WS.y (ym z) z (WS.y (ym z) z (WS.yE (Y.quo_b (b := 64) (by decide) z z) (show vb ((45 : UInt8) / 64) = vb 0 from congrArg vb (by decide)) z (WS.y (yn z) z (WS.yE (Y.indexAddrA ty98 ty34 z z (by decide) (by decide)) (show (Value.pointer (some ⟨j, 1 + ((0 : UInt8).toNat : Int).toNat * 1, none⟩)) = .pointer (some ⟨j, 1, none⟩) from z) z ?_))))
           have bH := ap.st bh z
           refine WS.y (yl ty34 z z (bH.cell 1 _ z)) z (WS.y (ym z) z (WS.yE (Y.rem_b (b := 64) (by decide) z z) (show vb ((45 : UInt8) % 64) = vb 45 from congrArg vb (by decide)) z (WS.y (Y.conv_bu ty5.u ty143.u z) z (WS.y (Y.shl_uu (a := 1) z z) z (WS.y (Y.or_u z z) z (WS.y (yn z) z (WS.yE (Y.indexAddrA ty98 ty34 z z (by decide) (by decide)) (show (Value.pointer (some ⟨j, 1 + ((0 : UInt8).toNat : Int).toNat * 1, none⟩)) = .pointer (some ⟨j, 1, none⟩) from z) z (WS.tail ?_))))))))
           obtain ⟨bD, cL, h⟩ := lt1 h
           refine WL.ren 14 z (congrArg vu cL.symm) (WL.store (v := vu bD) (cells' := [vi 0, vu bD, vu U, vu V, vu W, vB false, vb 0]) ty34 z z bH z (le_ z) z z ?_)
           intro fV b9 cM
           refine nl ?_
           exact At.res (.inr z) z .nil ⟨(bD, av), ⟨some1 h, (tr_ (su_ bh z) (su_ b9 z)), cM⟩, z⟩
          ·rintro ⟨eH, eI⟩ fY ⟨rfl, bi, bI⟩
           replace h := cK
           try dsimp only at h bi bI
           refine (show WL _ _ _ _ _ ((58, tp []) :: _) _ from ?_)
           refine nl (th (sq (rg (wY (ym z) z (wY (Y.add_i z z) z ?_)))))
           obtain ⟨cN, ca, h⟩ := lt1 h
           refine WL.yE (ya z) (congrArg vi ca.symm) z (nl (th (WC.exit (At.thenX (At.inBlockHit ?_)))))
           exact At.join (σ := (UInt64 × UInt64 × UInt64 × UInt64 × Int × Own)) (eH, U, V, W, cN, eI) ⟨go2 h, (su_ bi z), bI⟩ (.cons z (.cons z (.cons z (.cons z (.cons z (.cons z (.cons z (.cons z .nil))))))))
        ·refine WC.condF' z aN (sk (th (sq (rg (wY (ym z) z (wY (ym z) z ?_))))))
         obtain ⟨⟨H, ax⟩, cO, h⟩ := bnd h
         refine WL.call (vals := [vs a0, vi D]) kok92 z z (c_glob_member cO) ?_
         rintro f0 aP ⟨rfl, cP⟩
         obtain ⟨bE, fx, fy, X⟩ := adoptE av (fun k => 1) cP
         refine wY (ym z) z (wY (yx z z) z (wY (yx z z) z (wY (ya z) z (wY (ya z) z (nl (th (sq (rg (wY (ym z) z ?_)))))))))
         refine wY (ya z) z (nl (th (sq ?_)))
         obtain ⟨eJ, h, bJ⟩ := flow1 h
         refine WC.join (σ := (Int × UInt8 × Own)) (fun x w' => eJ = .go (x.1, x.2.1) ∧ Stp [] bE aP x.2.2 w') (fun x => [(0, vs a0), (1, vi a1), (4, pt r 0), (6, pt t 0), (7, pt j 0), (8, vi D), (9, vB K), (10, vi F), (11, vb H), (12, vi x.1), (13, vb x.2.1)]) ?_ ?_
         ·refine sq (rg (wY (ym z) z (wY (ym z) z (wY (Y.add_i z z) z ?_))))
          obtain ⟨ay, cQ, h⟩ := lt1 h
          refine WL.yE (ya z) (congrArg vi cQ.symm) z (nl (th (sq (rg (wY (ym z) z (wY (ym z) z ?_))))))
          obtain ⟨gr, cR, h⟩ := bnd h
          refine wY (Y.index_s ty9 z z cR) z (wY (Y.eql_b (b := 45) z z) z (wY (ym z) z ?_))
          obtain ⟨eK, h, cS⟩ := bnd h
          refine WL.cut 6 (σ := Bool) (fun x w' => x = eK ∧ aP = w') (fun x => [(0, vs a0), (1, vi a1), (4, pt r 0), (6, pt t 0), (7, pt j 0), (8, vi D), (9, vB K), (10, vi F), (11, vb H), (12, vi ax), (13, vb H), (14, vi ay), (81, vB x)]) ?_ ?_
          ·rcases cnd h with ⟨aQ, h⟩ | ⟨aQ, h⟩
           ·refine WL.ren 75 z (congrArg vB aQ) (ug z z (wY (ym z) z (ug z z (wY (ym z) z (ug z z (wY (Y.add_i z z) z (ug z z ?_)))))))
            obtain ⟨eL, cT, h⟩ := bnd h
            refine wY (Y.index_s ty9 z z cT) z (ug z z (wY (Y.neq_b (b := 93) z z) z (wY (Y.pick (b := true) z z) z ?_)))
            exact nl (At.join (σ := Bool) (!decide (eL = 93)) ⟨some1 h, z⟩ (.cons z (.cons z (.cons z (.cons z (.cons z (.cons z (.cons z (.cons z (.cons z (.cons z (.cons z (.cons z (.cons z .nil))))))))))))))
           ·refine WL.ren 75 z (congrArg vB aQ) (WL.gS z z z z (WL.gS z z z z (WL.gS z z z z (WL.gS z z z z (WL.gS z z z z (wY (Y.pick (b := false) z z) z ?_))))))
            exact nl (At.join (σ := Bool) false ⟨some1 h, z⟩ (.cons z (.cons z (.cons z (.cons z (.cons z (.cons z (.cons z (.cons z (.cons z (.cons z (.cons z (.cons z (.cons z .nil))))))))))))))
          ·rintro eM _ ⟨rfl, rfl⟩
           replace h := cS
           try dsimp only at h
           refine (show WL _ _ _ _ _ [(0, vs a0), (1, vi a1), (4, pt r 0), (6, pt t 0), (7, pt j 0), (8, vi D), (9, vB K), (10, vi F), (11, vb H), (12, vi ax), (13, vb H), (14, vi ay), (81, vB eM)] _ from ?_)
           refine wY (ym z) z ?_
           obtain ⟨eN, h, cU⟩ := bnd h
           refine WL.cut 6 (σ := Bool) (fun x w' => x = eN ∧ aP = w') (fun x => [(0, vs a0), (1, vi a1), (4, pt r 0), (6, pt t 0), (7, pt j 0), (8, vi D), (9, vB K), (10, vi F), (11, vb H), (12, vi ax), (13, vb H), (14, vi ay), (88, vB x)]) ?_ ?_
           ·rcases cnd h with ⟨aR, h⟩ | ⟨aR, h⟩
            ·refine WL.ren 82 z (congrArg vB aR) (ug z z (wY (ym z) z (ug z z (wY (ym z) z (ug z z (wY (Y.add_i z z) z (ug z z ?_)))))))
             obtain ⟨eO, cV, h⟩ := bnd h
             refine wY (Y.index_s ty9 z z cV) z (ug z z (wY (Y.neq_b (b := 45) z z) z (wY (Y.pick (b := true) z z) z ?_)))
             exact nl (At.join (σ := Bool) (!decide (eO = 45)) ⟨some1 h, z⟩ (.cons z (.cons z (.cons z (.cons z (.cons z (.cons z (.cons z (.cons z (.cons z (.cons z (.cons z (.cons z (.cons z .nil))))))))))))))
            ·refine WL.ren 82 z (congrArg vB aR) (WL.gS z z z z (WL.gS z z z z (WL.gS z z z z (WL.gS z z z z (WL.gS z z z z (wY (Y.pick (b := false) z z) z ?_))))))
             exact nl (At.join (σ := Bool) false ⟨some1 h, z⟩ (.cons z (.cons z (.cons z (.cons z (.cons z (.cons z (.cons z (.cons z (.cons z (.cons z (.cons z (.cons z (.cons z .nil))))))))))))))
           ·rintro eP _ ⟨rfl, rfl⟩
            replace h := cU
            try dsimp only at h
            refine (show WL _ _ _ _ _ [(0, vs a0), (1, vi a1), (4, pt r 0), (6, pt t 0), (7, pt j 0), (8, vi D), (9, vB K), (10, vi F), (11, vb H), (12, vi ax), (13, vb H), (14, vi ay), (88, vB eP)] _ from ?_)
            refine nl (th ?_)
            rcases cnd h with ⟨aS, h⟩ | ⟨aS, h⟩
            ·refine WC.condT' z aS (sq (rg (wY (ym z) z (wY (ym z) z (wY (Y.add_i z z) z ?_)))))
             obtain ⟨⟨eQ, gs⟩, cW, h⟩ := bnd h
             refine WL.call (vals := [vs a0, vi (w64 (ay + 1))]) kok92 z z (c_glob_member cW) ?_
             rintro f1 f2 ⟨rfl, cX⟩
             obtain ⟨cb, fz, fA, ab⟩ := adoptE bE (fun k => 1) cX
             refine wY (ym z) z (wY (yx z z) z (wY (yx z z) z (wY (ya z) z (wY (ya z) z (nl (th (sq (sq (rg ?_)))))))))
             refine wY (ym z) z (wY (ym z) z (wY (Y.lss_b z z) z (nl (th ?_))))
             rcases cnd h with ⟨aT, h⟩ | ⟨aT, h⟩
             ·refine WC.condT' z aT (sq (rg ?_))
              have cZ := (ap.st X z).st ab z
              refine wY (yL ty100 z z (cZ.cells 0 [vi 0, vu af, vu U, vu V, vu W, vB false, vb 0] z) z) z (wY (ym z) z (wY (yb (vals := [(0, vi D), (1, vi 3)]) (cells := [vi D, vi 3]) (fe_ z) (by kernel_rfl)) z ?_))
              have c5 := (((((ar.st G z).st o z).st m z).st M z).st X z).st ab z
              refine WL.store (v := ag [vi 0, vu af, vu U, vu V, vu W, vB false, vb 0]) (cells' := [vi 0, vu af, vu U, vu V, vu W, vB false, vb 0]) ty100 z z c5 z (le_ z) z z ?_
              intro f3 bj c6
              refine wY (ya z) z ?_
              have dc := (((((au.st o z).st m z).st M z).st X z).st ab z).st bj z
              refine WL.store (v := ag [vi D, vi 3]) (cells' := [vi D, vi 3]) ty102 z z dc z (le_ z) z z ?_
              intro dd bk de
              refine nl (th (rt (At.thenR ?_)))
              have h := outs1 h bJ
              refine At.joinR (At.thenR (At.inBlockR ?_))
              have h := outs1 h aM
              refine At.joinR (At.loopR ?_)
              have h := outr1 h aK bC
              refine At.joinBR (At.inBlockR ?_)
              have h := outs1 h bB
              refine At.joinR (At.thenR ?_)
              obtain ⟨rfl, rfl, rfl⟩ := tup3 h
              have df : Stp [11, 12, 13] (Lg.O0 A) w cb dd := (tr_ (su_ ae z) (tr_ (su_ G z) (tr_ (su_ o z) (tr_ (su_ m z) (tr_ (su_ M z) (tr_ (su_ X z) (tr_ (su_ ab z) (tr_ (su_ bj z) (su_ bk z)))))))))
              have dg := c6.st bk z
              exact At.res (.inl z) z (.cell z (dg.runAg 0 [vi 0, vu af, vu U, vu V, vu W, vB false, vb 0] ty100 z z z) (.tmp z (.cell z (de.runAg 0 [vi D, vi 3] ty102 z z z) .nil))) ⟨z, (se_ df z z)⟩
             ·refine WC.condF' z aT (sk (th (rg (wY (ym z) z (wY (ym z) z (wY (Y.add_i z z) z (wY (ym z) z (wY (Y.add_i z z) z (wY (ya z) z ?_)))))))))
              obtain ⟨dh, cc, h⟩ := lt1 h
              refine WL.yE (ya z) (congrArg vi cc.symm) z (nl ?_)
              exact At.join (σ := (Int × UInt8 × Own)) (dh, eQ, cb) ⟨go2 h, (su_ ab z)⟩ (.cons z (.cons z (.cons z (.cons z (.cons z (.cons z (.cons z (.cons z (.cons z (.cons z (.cons z .nil)))))))))))
            ·refine WC.condF' z aS (sk ?_)
             exact At.join (σ := (Int × UInt8 × Own)) (ax, H, bE) ⟨go2 h, (sr_ _ _ _)⟩ (.cons z (.cons z (.cons z (.cons z (.cons z (.cons z (.cons z (.cons z (.cons z (.cons z (.cons z .nil)))))))))))
         ·rintro ⟨di, Z, aU⟩ aW ⟨rfl, az⟩
          replace h := flowK_go bJ
          try dsimp only at h az
          refine (show At _ _ _ [(0, vs a0), (1, vi a1), (4, pt r 0), (6, pt t 0), (7, pt j 0), (8, vi D), (9, vB K), (10, vi F), (11, vb H), (12, vi di), (13, vb Z)] _ from ?_)
          refine th (sq (rg (wY (yf fo100_1 z) z (wY (ym z) z (wY (ym z) z ?_)))))
          obtain ⟨eR, h, dj⟩ := bnd h
          refine WL.callJ (vals := [pt j 1, vb H, vb Z]) (σ := (UInt64 × UInt64 × UInt64 × UInt64 × Own)) (fun x w' => (x.1, x.2.1, x.2.2.1, x.2.2.2.1) = eR ∧ Stp [13] aU aW x.2.2.2.2 w' ∧ Blk 13 x.2.2.2.2 w' j 100 [vi 0, vu x.1, vu x.2.1, vu x.2.2.1, vu x.2.2.2.1, vB false, vb 0]) (fun x => tp []) kok69 z z ?_ ?_
          ·refine Rets.enter Tryd.func69 z z ?_
           refine (show WC _ _ _ _ [(0, pt j 1), (1, vb H), (2, vb Z)] _ from ?_)
           refine sq (rg (wY (ym z) z (wY (Y.conv_bi ty5.u ty3.u z) z ?_)))
           obtain ⟨eS, dk, h⟩ := lt1 h
           refine WL.yE (ya z) (congrArg vi dk.symm) z (nl (th (WC.block ?_)))
           obtain ⟨cd, h, dl⟩ := flow1 h
           obtain ⟨ce, h⟩ := loop_some h
           refine WC.joinB 0 (σ := (UInt64 × UInt64 × UInt64 × UInt64 × Own)) (fun x w' => cd = .go (x.1, x.2.1, x.2.2.1, x.2.2.2.1) ∧ Stp [13] aU aW x.2.2.2.2 w' ∧ Blk 13 x.2.2.2.2 w' j 100 [vi 0, vu x.1, vu x.2.1, vu x.2.2.1, vu x.2.2.2.1, vB false, vb 0]) (fun x => []) ?_ ?_
           ·have dn := (ap.st X z).st az z
            refine WC.loop (σ := (UInt64 × UInt64 × UInt64 × UInt64 × Int × Own)) (fun x k w' => loopN k (glob_class_lp2 Z) (x.1, x.2.1, x.2.2.1, x.2.2.2.1, x.2.2.2.2.1) = some cd ∧ Stp [13] aU aW x.2.2.2.2.2 w' ∧ Blk 13 x.2.2.2.2.2 w' j 100 [vi 0, vu x.1, vu x.2.1, vu x.2.2.1, vu x.2.2.2.1, vB false, vb 0]) (fun x => [(0, pt j 1), (2, vb Z), (6, vi x.2.2.2.2.1)]) (af, U, V, W, eS, aU) ce (.cons z (.cons z (.cons z .nil))) ⟨h, (sr_ _ _ _), dn⟩ ?_
            rintro ⟨ah, ai, aj, ak, Q, aX⟩ ce dp ⟨h, aA, aY⟩
            obtain ⟨eT, gt, rfl, h, bK⟩ := rnd1 h
            unfold glob_class_lp2 at h
            try dsimp only at h aA aY
            refine (show WC _ _ _ _ [(0, pt j 1), (2, vb Z), (6, vi Q)] _ from ?_)
            refine sq (sq (rg (wY (ym z) z (wY (ym z) z (wY (Y.conv_bi ty5.u ty3.u z) z (wY (Y.leq_i z z) z (nl (th ?_))))))))
            rcases cnd h with ⟨aZ, h⟩ | ⟨aZ, h⟩
            ·refine WC.condT' z aZ (sk (th (sq (WC.block (rg (wY (ym z) z (wY (ym z) z (wY (Y.conv_ib ty3.u ty5.u z) z ?_))))))))
             obtain ⟨p256, h, dr⟩ := bnd h
             refine WL.callJ (vals := [pt j 1, vb (toU8 Q)]) (σ := (UInt64 × UInt64 × UInt64 × UInt64 × Own)) (fun x w' => (x.1, x.2.1, x.2.2.1, x.2.2.2.1) = p256 ∧ Stp [13] aX dp x.2.2.2.2 w' ∧ Blk 13 x.2.2.2.2 w' j 100 [vi 0, vu x.1, vu x.2.1, vu x.2.2.1, vu x.2.2.2.1, vB false, vb 0]) (fun x => tp []) kok90 z z ?_ ?_
             ·refine Rets.enter Tryd.func90 z z ?_
              refine (show WC _ _ _ _ [(0, pt j 1), (1, vb (toU8 Q))] _ from ?_)
              refine WC.draw 13 aX fmix (by kernel_rfl) ?_
              intro f4 bl
              refine WS.y (ym z) z (WS.y (ym z) z (WS.y (Y.quo_b (b := 64) (by decide) z z) z (WS.y (yn z) z ?_)))
              obtain ⟨gu, bL, h⟩ := bnd h
              have bM := idx_in bL
              refine WS.y (Y.indexAddrA ty98 ty34 z z bM.1 bM.2) z ?_
              have bO := aY.st bl z
              refine WS.y (yl ty34 z z (CellsAt.idxU (xs := ([ah, ai, aj, ak] : List UInt64)) (bO.cells 1 [vu ah, vu ai, vu aj, vu ak] z) bL)) z (WS.y (ym z) z (WS.y (Y.rem_b (b := 64) (by decide) z z) z (WS.y (Y.conv_bu ty5.u ty143.u z) z (WS.y (Y.shl_uu (a := 1) z z) z (WS.y (Y.or_u z z) z (WS.y (yn z) z ?_))))))
              obtain ⟨gw, bP, h⟩ := bnd h
              have bQ := idx_in bP
              refine WS.y (Y.indexAddrA ty98 ty34 z z bQ.1 bQ.2) z (WS.tail ?_)
              obtain ⟨I, ds, h⟩ := lt1 h
              refine WL.ren 14 z (congrArg vu ds.symm) (WL.store4 (xs := ([ah, ai, aj, ak] : List UInt64)) (off := 1) (v := I) (fun i => [vi 0, vu (up4 i 0 I ah), vu (up4 i 1 I ai), vu (up4 i 2 I aj), vu (up4 i 3 I ak), vB false, vb 0]) ty34 z z bP z bO (le_ z) z z z z ?_)
              intro f5 cf a2
              replace a2 : Blk _ _ _ _ _ [vi 0, vu (up4 (((toU8 Q) / 64).toNat : Int) 0 I ah), vu (up4 (((toU8 Q) / 64).toNat : Int) 1 I ai), vu (up4 (((toU8 Q) / 64).toNat : Int) 2 I aj), vu (up4 (((toU8 Q) / 64).toNat : Int) 3 I ak), vB false, vb 0] := a2
              refine nl ?_
              exact At.res (.inr z) z .nil ⟨((up4 (((toU8 Q) / 64).toNat : Int) 0 I ah), (up4 (((toU8 Q) / 64).toNat : Int) 1 I ai), (up4 (((toU8 Q) / 64).toNat : Int) 2 I aj), (up4 (((toU8 Q) / 64).toNat : Int) 3 I ak), aX), ⟨some1 h, (tr_ (su_ bl z) (su_ cf z)), a2⟩, z⟩
             ·rintro ⟨eU, eV, eW, eX, eY⟩ f6 ⟨rfl, bm, bR⟩
              replace h := dr
              try dsimp only at h bm bR
              refine (show WL _ _ _ _ _ ((18, tp []) :: _) _ from ?_)
              refine nl (At.inBlock (th (rg (wY (ym z) z (wY (Y.add_i z z) z ?_)))))
              obtain ⟨eZ, dt, h⟩ := lt1 h
              refine WL.yE (ya z) (congrArg vi dt.symm) z (nl ?_)
              exact At.round (eU, eV, eW, eX, eZ, eY) eT (Nat.lt_succ_self _) ⟨next1 h bK, (tr_ (su_ aA z) (su_ bm z)), bR⟩ (.cons z (.cons z (.cons z .nil)))
            ·refine WC.condF' z aZ (WC.exit (At.thenX (At.loopX ?_)))
             exact At.hitB (σ := (UInt64 × UInt64 × UInt64 × UInt64 × Own)) (ah, ai, aj, ak, aX) ⟨brk1 h bK, (su_ aA z), aY⟩ .nil
           ·rintro ⟨e0, e1, e2, e5, e6⟩ f7 ⟨rfl, bn, bS⟩
            replace h := flowK_go dl
            try dsimp only at h bn bS
            refine (show At _ _ _ [] _ from ?_)
            refine At.inBlockHit ?_
            exact At.res (.inr z) z .nil ⟨(e0, e1, e2, e5, e6), ⟨some1 h, (su_ bn z), bS⟩, z⟩
          ·rintro ⟨e7, e8, e9, fa, fc⟩ f8 ⟨rfl, bo, bT⟩
           replace h := dj
           try dsimp only at h bo bT
           refine (show WL _ _ _ _ _ ((110, tp []) :: _) _ from ?_)
           refine nl (th (rg (wY (ym z) z (wY (ym z) z (wY (Y.add_i z z) z ?_)))))
           obtain ⟨du, cg, h⟩ := lt1 h
           refine WL.yE (ya z) (congrArg vi cg.symm) z (nl (At.inBlock ?_))
           exact At.join (σ := (UInt64 × UInt64 × UInt64 × UInt64 × Int × Own)) (e7, e8, e9, fa, du, fc) ⟨go2 h, (tr_ (su_ X z) (tr_ (su_ az z) (su_ bo z))), bT⟩ (.cons z (.cons z (.cons z (.cons z (.cons z (.cons z (.cons z (.cons z .nil))))))))
       ·rintro ⟨fd, fe, ff, fg, bU, fh⟩ f9 ⟨rfl, bp, bW⟩
        replace h := flowK_go aM
        try dsimp only at h bp bW
        refine (show At _ _ _ [(0, vs a0), (1, vi a1), (4, pt r 0), (6, pt t 0), (7, pt j 0), (8, vi bU), (9, vB K), (10, vi F)] _ from ?_)
        exact At.round (fd, fe, ff, fg, bU, fh) fL (Nat.lt_succ_self _) ⟨next1 h aK, (tr_ (su_ M z) (su_ bp z)), bW⟩ (.cons z (.cons z (.cons z (.cons z (.cons z (.cons z (.cons z (.cons z .nil))))))))
      ·refine WC.condF' z aL (WC.exit (At.thenX (At.loopX ?_)))
       exact At.hitB (σ := (UInt64 × UInt64 × UInt64 × UInt64 × Int × Own)) (af, U, V, W, D, av) ⟨brk1 h aK, (su_ M z), ap⟩ (.cons z (.cons z (.cons z (.cons z (.cons z (.cons z (.cons z .nil)))))))
     ·rintro ⟨fN, fO, fP, fQ, ch, fR⟩ gz ⟨rfl, bX, ci⟩
      replace h := flowK_go bC
      try dsimp only at h bX ci
      refine (show At _ _ _ [(1, vi a1), (4, pt r 0), (6, pt t 0), (7, pt j 0), (8, vi ch), (9, vB K), (10, vi F)] _ from ?_)
      refine At.inBlockHit ?_
      exact At.join (σ := (UInt64 × UInt64 × UInt64 × UInt64 × Int × Own)) (fN, fO, fP, fQ, ch, fR) ⟨go2 h, (su_ bX z), ci⟩ (.cons z (.cons z (.cons z (.cons z (.cons z (.cons z (.cons z .nil)))))))
    ·rintro ⟨aG, aH, aI, aJ, aa, aC⟩ a3 ⟨rfl, S, a4⟩
     replace h := flowK_go bB
     try dsimp only at h S a4
     refine (show At _ _ _ [(1, vi a1), (4, pt r 0), (6, pt t 0), (7, pt j 0), (8, vi aa), (9, vB K), (10, vi F)] _ from ?_)
     refine th (sq (sq (rg (wY (ym z) z (wY (ym z) z (wY (Y.eql_i z z) z (nl (th ?_))))))))
     rcases cnd h with ⟨a5, h⟩ | ⟨a5, h⟩
     ·refine WC.condT' z a5 (sq (rg (wY (yL ty100 z z (a4.cells 0 [vi 0, vu aG, vu aH, vu aI, vu aJ, vB false, vb 0] z) z) z (wY (ym z) z (wY (yb (vals := [(0, vi a1), (1, vi 3)]) (cells := [vi a1, vi 3]) (fe_ z) (by kernel_rfl)) z ?_)))))
      have dz := (((ar.st G z).st o z).st m z).st S z
      refine WL.store (v := ag [vi 0, vu aG, vu aH, vu aI, vu aJ, vB false, vb 0]) (cells' := [vi 0, vu aG, vu aH, vu aI, vu aJ, vB false, vb 0]) ty100 z z dz z (le_ z) z z ?_
      intro ga bq dA
      refine wY (ya z) z ?_
      have dE := (((au.st o z).st m z).st S z).st bq z
      refine WL.store (v := ag [vi a1, vi 3]) (cells' := [vi a1, vi 3]) ty102 z z dE z (le_ z) z z ?_
      intro dF br dG
      refine nl (th (rt (At.thenR ?_)))
      obtain ⟨rfl, rfl, rfl⟩ := tup3 h
      have dH : Stp [11, 12, 13] (Lg.O0 A) w aC dF := (tr_ (su_ ae z) (tr_ (su_ G z) (tr_ (su_ o z) (tr_ (su_ m z) (tr_ (su_ S z) (tr_ (su_ bq z) (su_ br z)))))))
      have dI := dA.st br z
      exact At.res (.inl z) z (.cell z (dI.runAg 0 [vi 0, vu aG, vu aH, vu aI, vu aJ, vB false, vb 0] ty100 z z z) (.tmp z (.cell z (dG.runAg 0 [vi a1, vi 3] ty102 z z z) .nil))) ⟨z, (se_ dH z z)⟩
     ·refine WC.condF' z a5 (sk (th (sq ?_)))
      obtain ⟨fi, h, dJ⟩ := bnd h
      refine WC.join (σ := (UInt64 × UInt64 × UInt64 × UInt64 × Own)) (fun x w' => (x.1, x.2.1, x.2.2.1, x.2.2.2.1) = fi ∧ Stp [13] aC a3 x.2.2.2.2 w' ∧ Blk 13 x.2.2.2.2 w' j 100 [vi 0, vu x.1, vu x.2.1, vu x.2.2.1, vu x.2.2.2.1, vB false, vb 0]) (fun x => [(1, vi a1), (4, pt r 0), (6, pt t 0), (7, pt j 0), (8, vi aa)]) ?_ ?_
      ·refine sq (rg (wY (ym z) z (nl (th ?_))))
       rcases cnd h with ⟨a6, h⟩ | ⟨a6, h⟩
       ·refine WC.condT' z a6 (sq (rg (wY (ym z) z (nl (th ?_)))))
        obtain ⟨fj, h, dK⟩ := bnd h
        refine WC.join (σ := (UInt64 × UInt64 × UInt64 × UInt64 × Own)) (fun x w' => (x.1, x.2.1, x.2.2.1, x.2.2.2.1) = fj ∧ Stp [13] aC a3 x.2.2.2.2 w' ∧ Blk 13 x.2.2.2.2 w' j 100 [vi 0, vu x.1, vu x.2.1, vu x.2.2.1, vu x.2.2.2.1, vB false, vb 0]) (fun x => [(1, vi a1), (4, pt r 0), (6, pt t 0), (7, pt j 0), (8, vi aa)]) ?_ ?_
        ·refine WC.block ?_
         obtain ⟨cj, h, dL⟩ := flow1 h
         obtain ⟨ck, h⟩ := loop_some h
         refine WC.joinB 2 (σ := (UInt64 × UInt64 × UInt64 × UInt64 × Own)) (fun x w' => cj = .go (x.1, x.2.1, x.2.2.1, x.2.2.2.1) ∧ Stp [13] aC a3 x.2.2.2.2 w' ∧ Blk 13 x.2.2.2.2 w' j 100 [vi 0, vu x.1, vu x.2.1, vu x.2.2.1, vu x.2.2.2.1, vB false, vb 0]) (fun x => [(1, vi a1), (4, pt r 0), (6, pt t 0), (7, pt j 0), (8, vi aa)]) ?_ ?_
         ·refine WC.loop (σ := (UInt64 × UInt64 × UInt64 × UInt64 × Int × Own)) (fun x k w' => loopN k (glob_class_lp3) (x.1, x.2.1, x.2.2.1, x.2.2.2.1, x.2.2.2.2.1) = some cj ∧ Stp [13] aC a3 x.2.2.2.2.2 w' ∧ Blk 13 x.2.2.2.2.2 w' j 100 [vi 0, vu x.1, vu x.2.1, vu x.2.2.1, vu x.2.2.2.1, vB false, vb 0]) (fun x => [(1, vi a1), (4, pt r 0), (6, pt t 0), (7, pt j 0), (8, vi aa), (121, vi x.2.2.2.2.1)]) (aG, aH, aI, aJ, 0, aC) ck (.cons z (.cons z (.cons z (.cons z (.cons z (.cons z .nil)))))) ⟨h, (sr_ _ _ _), a4⟩ ?_
          rintro ⟨al, am, an, ao, T, cl⟩ ck gb ⟨h, aD, aq⟩
          obtain ⟨fk, gB, rfl, h, bY⟩ := rnd1 h
          unfold glob_class_lp3 at h
          try dsimp only at h aD aq
          refine (show WC _ _ _ _ [(1, vi a1), (4, pt r 0), (6, pt t 0), (7, pt j 0), (8, vi aa), (121, vi T)] _ from ?_)
          refine sq (rg (wY (Y.lss_i z z) z (nl (th (sq ?_)))))
          rcases cnd h with ⟨a7, h⟩ | ⟨a7, h⟩
          ·refine WC.condT' z a7 (sk (th (sq (WC.block (sq (rg (wY (ym z) z (wY (ya z) z (nl ?_)))))))))
           refine th (rg (wY (ym z) z (wY (ym z) z (wY (yf fo100_1 z) z ?_))))
           obtain ⟨gC, bZ, h⟩ := bnd h
           have b0 := idx_in bZ
           refine wY (Y.indexAddrA ty98 ty34 z z b0.1 b0.2) z (wY (yl ty34 z z (CellsAt.idxU (xs := ([al, am, an, ao] : List UInt64)) (aq.cells 1 [vu al, vu am, vu an, vu ao] z) bZ)) z (wY (Y.not_u z) z (wY (yf fo100_1 z) z ?_)))
           obtain ⟨gE, b1, h⟩ := bnd h
           have b2 := idx_in b1
           refine wY (Y.indexAddrA ty98 ty34 z z b2.1 b2.2) z ?_
           obtain ⟨J, dM, h⟩ := lt1 h
           refine WL.ren 129 z (congrArg vu dM.symm) (WL.store4 (xs := ([al, am, an, ao] : List UInt64)) (off := 1) (v := J) (fun i => [vi 0, vu (up4 i 0 J al), vu (up4 i 1 J am), vu (up4 i 2 J an), vu (up4 i 3 J ao), vB false, vb 0]) ty34 z z b1 z aq (le_ z) z z z z ?_)
           intro gc cm a8
           replace a8 : Blk _ _ _ _ _ [vi 0, vu (up4 T 0 J al), vu (up4 T 1 J am), vu (up4 T 2 J an), vu (up4 T 3 J ao), vB false, vb 0] := a8
           refine nl (At.inBlock (th (rg (wY (Y.add_i z z) z (wY (ym z) z (nl ?_))))))
           exact At.round ((up4 T 0 J al), (up4 T 1 J am), (up4 T 2 J an), (up4 T 3 J ao), w64 (T + 1), cl) fk (Nat.lt_succ_self _) ⟨next1 h bY, (tr_ (su_ aD z) (su_ cm z)), a8⟩ (.cons z (.cons z (.cons z (.cons z (.cons z (.cons z .nil))))))
          ·refine WC.condF' z a7 (WC.exit (At.thenX (At.loopX ?_)))
           exact At.hitB (σ := (UInt64 × UInt64 × UInt64 × UInt64 × Own)) (al, am, an, ao, cl) ⟨brk1 h bY, (su_ aD z), aq⟩ (.cons z (.cons z (.cons z (.cons z (.cons z .nil)))))
         ·rintro ⟨fl, fm, fn, fo, fp⟩ gd ⟨rfl, bs, b3⟩
          replace h := flowK_go dL
          try dsimp only at h bs b3
          refine (show At _ _ _ [(1, vi a1), (4, pt r 0), (6, pt t 0), (7, pt j 0), (8, vi aa)] _ from ?_)
          refine At.inBlockHit ?_
          exact At.join (σ := (UInt64 × UInt64 × UInt64 × UInt64 × Own)) (fl, fm, fn, fo, fp) ⟨some1 h, (su_ bs z), b3⟩ (.cons z (.cons z (.cons z (.cons z (.cons z .nil)))))
        ·rintro ⟨fq, fs, ft, fu, fw⟩ ge ⟨rfl, bt, b4⟩
         replace h := dK
         try dsimp only at h bt b4
         refine (show At _ _ _ [(1, vi a1), (4, pt r 0), (6, pt t 0), (7, pt j 0), (8, vi aa)] _ from ?_)
         exact At.join (σ := (UInt64 × UInt64 × UInt64 × UInt64 × Own)) (fq, fs, ft, fu, fw) ⟨some1 h, (su_ bt z), b4⟩ (.cons z (.cons z (.cons z (.cons z (.cons z .nil)))))
       ·refine WC.condF' z a6 (sk ?_)
        exact At.join (σ := (UInt64 × UInt64 × UInt64 × UInt64 × Own)) (aG, aH, aI, aJ, aC) ⟨some1 h, (sr_ _ _ _), a4⟩ (.cons z (.cons z (.cons z (.cons z (.cons z .nil)))))
      ·rintro ⟨a9, ba, bb, bc, cn⟩ gf ⟨rfl, ac, b5⟩
       replace h := dJ
       try dsimp only at h ac b5
       refine (show At _ _ _ [(1, vi a1), (4, pt r 0), (6, pt t 0), (7, pt j 0), (8, vi aa)] _ from ?_)
       refine th (sq (WC.drawH [11] [0, 1, 2, 3, 4, 5, 6, 7] cn 9 fmix z (by kernel_rfl) ?_))
       intro gg ad
       refine WD.y 0 z (by kernel_rfl) (fun gh gG co => have dN := b5.st ad z; have dO := dN.st co z; yL ty100 z z (dO.cells 0 [vi 0, vu a9, vu ba, vu bb, vu bc, vB false, vb 0] z) z) z (WD.y 1 z (by kernel_rfl) (fun _ _ _ => ym z) z (WD.y 2 z (by kernel_rfl) (fun _ _ _ => Y.add_i z z) z (WD.y 3 z (by kernel_rfl) (fun _ _ _ => ym z) z (WD.y 4 z (by kernel_rfl) (fun _ _ _ => Y.sub_i z z) z (WD.y 5 z (by kernel_rfl) (fun gi gH cq => have dP := eh.st ae z; have dQ := dP.st G z; have dR := dQ.st o z; have dS := dR.st m z; have dT := dS.st S z; have dU := dT.st ac z; have dV := dU.st ad z; have dW := dV.st cq z; yL ty102 z z dW.at_ z) z (WD.heavy 6 z (by kernel_rfl) ?_))))))
       have d2 := (((((ar.st G z).st o z).st m z).st S z).st ac z).st ad z
       refine WL.store (v := ag [vi 0, vu a9, vu ba, vu bb, vu bc, vB false, vb 0]) (cells' := [vi 0, vu a9, vu ba, vu bb, vu bc, vB false, vb 0]) ty100 z z d2 z (le_ z) z z ?_
       intro gj aE d3
       refine nl (At.dq (su_ aE z) ?_)
       obtain ⟨gI, d4, h⟩ := lt1 h
       refine WD.yE 7 z (by kernel_rfl) (fun _ _ _ => ya z) (congrArg vi d4.symm) z (WD.phase [12] [0, 1, 2, 3, 4, 5, 6, 7, 8] (by kernel_rfl) (by kernel_rfl) (WD.heavy 8 z (by kernel_rfl) ?_))
       have ea := (((((au.st o z).st m z).st S z).st ac z).st ad z).st aE z
       refine WL.store (v := ag [vi 0, vi 0]) (cells' := [vi 0, vi 0]) ty102 z z ea z (le_ z) z z ?_
       intro eb aF ec
       refine nl (At.dq (su_ aF z) (WD.done_ (by kernel_rfl) (th (rt ?_))))
       obtain ⟨rfl, rfl, rfl⟩ := tup3 h
       have ed : Stp [11, 12, 13] (Lg.O0 A) w cn eb := (tr_ (su_ ae z) (tr_ (su_ G z) (tr_ (su_ o z) (tr_ (su_ m z) (tr_ (su_ S z) (tr_ (su_ ac z) (tr_ (su_ ad z) (tr_ (su_ aE z) (su_ aF z)))))))))
       have ee := d3.st aF z
       exact At.res (.inl z) z (.cell z (ee.runAg 0 [vi 0, vu a9, vu ba, vu bb, vu bc, vB false, vb 0] ty100 z z z) (.tmp z (.cell z (ec.runAg 0 [vi 0, vi 0] ty102 z z z) .nil))) ⟨z, (se_ ed z z)⟩
theorem c_glob_byteOf {a0 : UInt8} {w : World} {r0 : glob_piece} (h : glob_byteOf a0 = some r0) : Rets Tryd.prog 71 [vb a0] w (fun v w' => v = ag [vi r0.kind, vu r0.set.a0, vu r0.set.a1, vu r0.set.a2, vu r0.set.a3, vB r0.plain, vb r0.c] ∧ Ext w w') := by
 unfold glob_byteOf at h
 refine Rets.enter Tryd.func71 z z ?_
 refine (show WC _ _ _ _ [(0, vb a0)] _ from ?_)
 refine sq (rg (WL.alloc (O := (Lg.O0 (fun _ => False))) 11 [vi 0, vu 0, vu 0, vu 0, vu 0, vB false, vb 0] ty100 z z ?_))
 intro ay an aq W aa
 refine nl (th (sq (rg (wY (ym z) z (wY (yb (vals := [(2, vB true), (3, vb a0)]) (cells := [vi 0, vu 0, vu 0, vu 0, vu 0, vB true, vb a0]) (fe_ z) (by kernel_rfl)) z (WL.alloc (O := an) 12 [vi 0, vu 0, vu 0, vu 0, vu 0, vB false, vb 0] ty100 z z ?_))))))
 intro J K ar r ab
 refine WL.store (v := ag [vi 0, vu 0, vu 0, vu 0, vu 0, vB true, vb a0]) (cells' := [vi 0, vu 0, vu 0, vu 0, vu 0, vB true, vb a0]) ty100 z z ab z (le_ z) z z ?_
 intro ac t ad
 refine nl (th (sq (rg (wY (yf fo100_1 z) z (wY (ym z) z ?_)))))
 obtain ⟨ao, h, ae⟩ := bnd h
 refine WL.callJ (vals := [pt J 1, vb a0]) (σ := (UInt64 × UInt64 × UInt64 × UInt64 × Own)) (fun x w' => (x.1, x.2.1, x.2.2.1, x.2.2.2.1) = ao ∧ Stp [12] K ac x.2.2.2.2 w' ∧ Blk 12 x.2.2.2.2 w' J 100 [vi 0, vu x.1, vu x.2.1, vu x.2.2.1, vu x.2.2.2.1, vB true, vb a0]) (fun x => tp []) kok90 z z ?_ ?_
 ·refine Rets.enter Tryd.func90 z z ?_
  refine (show WC _ _ _ _ [(0, pt J 1), (1, vb a0)] _ from ?_)
  refine WC.draw 13 K fmix (by kernel_rfl) ?_
  intro au D
  refine WS.y (ym z) z (WS.y (ym z) z (WS.y (Y.quo_b (b := 64) (by decide) z z) z (WS.y (yn z) z ?_)))
  obtain ⟨az, M, h⟩ := bnd h
  have Q := idx_in M
  refine WS.y (Y.indexAddrA ty98 ty34 z z Q.1 Q.2) z ?_
  have S := ad.st D z
  refine WS.y (yl ty34 z z (CellsAt.idxU (xs := ([0, 0, 0, 0] : List UInt64)) (S.cells 1 [vu 0, vu 0, vu 0, vu 0] z) M)) z (WS.y (ym z) z (WS.y (Y.rem_b (b := 64) (by decide) z z) z (WS.y (Y.conv_bu ty5.u ty143.u z) z (WS.y (Y.shl_uu (a := 1) z z) z (WS.y (Y.or_u z z) z (WS.y (yn z) z ?_))))))
  obtain ⟨aA, T, h⟩ := bnd h
  have U := idx_in T
  refine WS.y (Y.indexAddrA ty98 ty34 z z U.1 U.2) z (WS.tail ?_)
  obtain ⟨j, af, h⟩ := lt1 h
  refine WL.ren 14 z (congrArg vu af.symm) (WL.store4 (xs := ([0, 0, 0, 0] : List UInt64)) (off := 1) (v := j) (fun i => [vi 0, vu (up4 i 0 j 0), vu (up4 i 1 j 0), vu (up4 i 2 j 0), vu (up4 i 3 j 0), vB true, vb a0]) ty34 z z T z S (le_ z) z z z z ?_)
  intro av X o
  replace o : Blk _ _ _ _ _ [vi 0, vu (up4 ((a0 / 64).toNat : Int) 0 j 0), vu (up4 ((a0 / 64).toNat : Int) 1 j 0), vu (up4 ((a0 / 64).toNat : Int) 2 j 0), vu (up4 ((a0 / 64).toNat : Int) 3 j 0), vB true, vb a0] := o
  refine nl ?_
  exact At.res (.inr z) z .nil ⟨((up4 ((a0 / 64).toNat : Int) 0 j 0), (up4 ((a0 / 64).toNat : Int) 1 j 0), (up4 ((a0 / 64).toNat : Int) 2 j 0), (up4 ((a0 / 64).toNat : Int) 3 j 0), K), ⟨some1 h, (tr_ (su_ D z) (su_ X z)), o⟩, z⟩
 ·rintro ⟨F, G, H, I, ap⟩ ax ⟨rfl, m, V⟩
  replace h := ae
  try dsimp only at h m V
  refine (show WL _ _ _ _ _ ((8, tp []) :: _) _ from ?_)
  refine nl (th (sq (rg (wY (yL ty100 z z (V.cells 0 [vi 0, vu F, vu G, vu H, vu I, vB true, vb a0] z) z) z ?_))))
  have aj := ((aa.st r z).st t z).st m z
  refine WL.store (v := ag [vi 0, vu F, vu G, vu H, vu I, vB true, vb a0]) (cells' := [vi 0, vu F, vu G, vu H, vu I, vB true, vb a0]) ty100 z z aj z (le_ z) z z ?_
  intro ak Z al
  refine nl (th (rt ?_))
  obtain rfl := some1 h
  have am : Stp [11, 12] (Lg.O0 (fun _ => False)) w ap ak := (tr_ (su_ W z) (tr_ (su_ r z) (tr_ (su_ t z) (tr_ (su_ m z) (su_ Z z)))))
  exact At.res (.inl z) z (.cell z (al.runAg 0 [vi 0, vu F, vu G, vu H, vu I, vB true, vb a0] ty100 z z z) .nil) ⟨z, (se_ am z z)⟩
theorem c_glob_next {A : Nat → Prop} {a0 : List UInt8} {a1 : Int} {w : World} (hG0 : CellsAt w 0 0 [vi 0, vi 0]) (hGA0 : A 0) {r0 : glob_piece} {r1 : Int} {r2 : glob_fault} (h : glob_next a0 a1 = some (r0, r1, r2)) : Rets Tryd.prog 48 [vs a0, vi a1] w (fun v w' => v = Value.tuple (List.toArray [ag [vi r0.kind, vu r0.set.a0, vu r0.set.a1, vu r0.set.a2, vu r0.set.a3, vB r0.plain, vb r0.c], vi r1, ag [vi r2.at_, vi r2.e]]) ∧ Ext w w') := by
 unfold glob_next at h
 refine Rets.enter Tryd.func48 z z ?_
 have Z : CAt [0, 1] (Lg.O0 A) w 0 0 [vi 0, vi 0] := CAt.glob hG0 (if_pos hGA0)
 refine (show WC _ _ _ _ [(0, vs a0), (1, vi a1)] _ from ?_)
 refine sq (rg (WL.alloc (O := (Lg.O0 A)) 11 [vi 0, vu 0, vu 0, vu 0, vu 0, vB false, vb 0] ty100 z z ?_))
 intro d2 da dM t T
 refine wY (ya z) z (WL.alloc (O := da) 12 [vi 0, vi 0] ty102 z z ?_)
 intro d3 I dN j U
 refine nl (th (sq (sq (rg (wY (ym z) z (wY (ym z) z ?_))))))
 obtain ⟨d4, cC, h⟩ := bnd h
 refine wY (Y.index_s ty9 z z cC) z (nl (th (WC.block (sq (rg (wY (Y.eql_b (b := 42) z z) z ?_))))))
 obtain ⟨d5, cD, h⟩ := lt1 h
 refine WL.yE (ya z) (congrArg vB cD.symm) z (nl (th ?_))
 rcases cnd h with ⟨aD, h⟩ | ⟨aD, h⟩
 ·refine WC.condT' z aD (sq (WC.drawH [11] [0, 1, 2, 3] I 5 fmix z (by kernel_rfl) ?_))
  intro dO W
  refine WD.y 0 z (by kernel_rfl) (fun _ _ _ => yb (vals := [(0, vi 1)]) (cells := [vi 1, vu 0, vu 0, vu 0, vu 0, vB false, vb 0]) (fe_ z) (by kernel_rfl)) z (WD.y 1 z (by kernel_rfl) (fun dP d6 a6 => have cE := Z.st t z; have cF := cE.st j z; have cG := cF.st W z; have cH := cG.st a6 z; yL ty102 z z cH.at_ z) z (WD.heavy 2 z (by kernel_rfl) ?_))
  have cJ := (T.st j z).st W z
  refine WL.store (v := ag [vi 1, vu 0, vu 0, vu 0, vu 0, vB false, vb 0]) (cells' := [vi 1, vu 0, vu 0, vu 0, vu 0, vB false, vb 0]) ty100 z z cJ z (le_ z) z z ?_
  intro dQ am cK
  refine nl (At.dq (su_ am z) (WD.y 3 z (by kernel_rfl) (fun _ _ _ => ya z) z (WD.phase [12] [0, 1, 2, 3, 4] (by kernel_rfl) (by kernel_rfl) (WD.heavy 4 z (by kernel_rfl) ?_))))
  have cM := (U.st W z).st am z
  refine WL.store (v := ag [vi 0, vi 0]) (cells' := [vi 0, vi 0]) ty102 z z cM z (le_ z) z z ?_
  intro cN an cO
  refine nl (At.dq (su_ an z) (WD.done_ (by kernel_rfl) (th (rt (At.inBlockR (At.thenR ?_))))))
  obtain ⟨rfl, rfl, rfl⟩ := tup3 h
  have cP : Stp [11, 12] (Lg.O0 A) w I cN := (tr_ (su_ t z) (tr_ (su_ j z) (tr_ (su_ W z) (tr_ (su_ am z) (su_ an z)))))
  have cQ := cK.st an z
  exact At.res (.inl z) z (.cell z (cQ.runAg 0 [vi 1, vu 0, vu 0, vu 0, vu 0, vB false, vb 0] ty100 z z z) (.tmp z (.cell z (cO.runAg 0 [vi 0, vi 0] ty102 z z z) .nil))) ⟨z, (se_ cP z z)⟩
 ·refine WC.condF' z aD (sq (rg (wY (Y.eql_b (b := 63) z z) z ?_)))
  obtain ⟨d7, cR, h⟩ := lt1 h
  refine WL.yE (ya z) (congrArg vB cR.symm) z (nl (th ?_))
  rcases cnd h with ⟨aE, h⟩ | ⟨aE, h⟩
  ·refine WC.condT' z aE (sq (rg (WL.alloc (O := I) 13 [vi 0, vu 0, vu 0, vu 0, vu 0, vB false, vb 0] ty100 z z ?_)))
   intro H aI aF X cS
   refine nl (th (sq (rg (wY (yf fo100_1 z) z ?_))))
   obtain ⟨db, h, cT⟩ := bnd h
   refine WL.callJ (vals := [pt H 1, vb 0, vb 255]) (σ := (UInt64 × UInt64 × UInt64 × UInt64 × Own)) (fun x w' => (x.1, x.2.1, x.2.2.1, x.2.2.2.1) = db ∧ Stp [13] aI aF x.2.2.2.2 w' ∧ Blk 13 x.2.2.2.2 w' H 100 [vi 0, vu x.1, vu x.2.1, vu x.2.2.1, vu x.2.2.2.1, vB false, vb 0]) (fun x => tp []) kok69 z z ?_ ?_
   ·refine Rets.enter Tryd.func69 z z ?_
    refine (show WC _ _ _ _ [(0, pt H 1), (1, vb 0), (2, vb 255)] _ from ?_)
    refine sq (rg (wY (ym z) z (wY (Y.conv_bi ty5.u ty3.u z) z ?_)))
    obtain ⟨dc, cU, h⟩ := lt1 h
    refine WL.yE (ya z) (congrArg vi cU.symm) z (nl (th (WC.block ?_)))
    obtain ⟨cy, h, cV⟩ := flow1 h
    obtain ⟨cz, h⟩ := loop_some h
    refine WC.joinB 0 (σ := (UInt64 × UInt64 × UInt64 × UInt64 × Own)) (fun x w' => cy = .go (x.1, x.2.1, x.2.2.1, x.2.2.2.1) ∧ Stp [13] aI aF x.2.2.2.2 w' ∧ Blk 13 x.2.2.2.2 w' H 100 [vi 0, vu x.1, vu x.2.1, vu x.2.2.1, vu x.2.2.2.1, vB false, vb 0]) (fun x => []) ?_ ?_
    ·refine WC.loop (σ := (UInt64 × UInt64 × UInt64 × UInt64 × Int × Own)) (fun x k w' => loopN k (glob_next_lp1) (x.1, x.2.1, x.2.2.1, x.2.2.2.1, x.2.2.2.2.1) = some cy ∧ Stp [13] aI aF x.2.2.2.2.2 w' ∧ Blk 13 x.2.2.2.2.2 w' H 100 [vi 0, vu x.1, vu x.2.1, vu x.2.2.1, vu x.2.2.2.1, vB false, vb 0]) (fun x => [(0, pt H 1), (2, vb 255), (6, vi x.2.2.2.2.1)]) (0, 0, 0, 0, dc, aI) cz (.cons z (.cons z (.cons z .nil))) ⟨h, (sr_ _ _ _), cS⟩ ?_
     rintro ⟨aa, ab, ac, ad, F, aJ⟩ cz cW ⟨h, ao, aG⟩
     obtain ⟨dd, d8, rfl, h, aU⟩ := rnd1 h
     unfold glob_next_lp1 at h
     try dsimp only at h ao aG
     refine (show WC _ _ _ _ [(0, pt H 1), (2, vb 255), (6, vi F)] _ from ?_)
     refine sq (sq (rg (wY (ym z) z (wY (ym z) z (wY (Y.conv_bi ty5.u ty3.u z) z (wY (Y.leq_i z z) z (nl (th ?_))))))))
     rcases cnd h with ⟨aH, h⟩ | ⟨aH, h⟩
     ·refine WC.condT' z aH (sk (th (sq (WC.block (rg (wY (ym z) z (wY (ym z) z (wY (Y.conv_ib ty3.u ty5.u z) z ?_))))))))
      obtain ⟨cX, h, a7⟩ := bnd h
      refine WL.callJ (vals := [pt H 1, vb (toU8 F)]) (σ := (UInt64 × UInt64 × UInt64 × UInt64 × Own)) (fun x w' => (x.1, x.2.1, x.2.2.1, x.2.2.2.1) = cX ∧ Stp [13] aJ cW x.2.2.2.2 w' ∧ Blk 13 x.2.2.2.2 w' H 100 [vi 0, vu x.1, vu x.2.1, vu x.2.2.1, vu x.2.2.2.1, vB false, vb 0]) (fun x => tp []) kok90 z z ?_ ?_
      ·refine Rets.enter Tryd.func90 z z ?_
       refine (show WC _ _ _ _ [(0, pt H 1), (1, vb (toU8 F))] _ from ?_)
       refine WC.draw 13 aJ fmix (by kernel_rfl) ?_
       intro dp av
       refine WS.y (ym z) z (WS.y (ym z) z (WS.y (Y.quo_b (b := 64) (by decide) z z) z (WS.y (yn z) z ?_)))
       obtain ⟨dR, aK, h⟩ := bnd h
       have aL := idx_in aK
       refine WS.y (Y.indexAddrA ty98 ty34 z z aL.1 aL.2) z ?_
       have aM := aG.st av z
       refine WS.y (yl ty34 z z (CellsAt.idxU (xs := ([aa, ab, ac, ad] : List UInt64)) (aM.cells 1 [vu aa, vu ab, vu ac, vu ad] z) aK)) z (WS.y (ym z) z (WS.y (Y.rem_b (b := 64) (by decide) z z) z (WS.y (Y.conv_bu ty5.u ty143.u z) z (WS.y (Y.shl_uu (a := 1) z z) z (WS.y (Y.or_u z z) z (WS.y (yn z) z ?_))))))
       obtain ⟨dS, aN, h⟩ := bnd h
       have aO := idx_in aN
       refine WS.y (Y.indexAddrA ty98 ty34 z z aO.1 aO.2) z (WS.tail ?_)
       obtain ⟨D, a8, h⟩ := lt1 h
       refine WL.ren 14 z (congrArg vu a8.symm) (WL.store4 (xs := ([aa, ab, ac, ad] : List UInt64)) (off := 1) (v := D) (fun i => [vi 0, vu (up4 i 0 D aa), vu (up4 i 1 D ab), vu (up4 i 2 D ac), vu (up4 i 3 D ad), vB false, vb 0]) ty34 z z aN z aM (le_ z) z z z z ?_)
       intro dr aW ap
       replace ap : Blk _ _ _ _ _ [vi 0, vu (up4 (((toU8 F) / 64).toNat : Int) 0 D aa), vu (up4 (((toU8 F) / 64).toNat : Int) 1 D ab), vu (up4 (((toU8 F) / 64).toNat : Int) 2 D ac), vu (up4 (((toU8 F) / 64).toNat : Int) 3 D ad), vB false, vb 0] := ap
       refine nl ?_
       exact At.res (.inr z) z .nil ⟨((up4 (((toU8 F) / 64).toNat : Int) 0 D aa), (up4 (((toU8 F) / 64).toNat : Int) 1 D ab), (up4 (((toU8 F) / 64).toNat : Int) 2 D ac), (up4 (((toU8 F) / 64).toNat : Int) 3 D ad), aJ), ⟨some1 h, (tr_ (su_ av z) (su_ aW z)), ap⟩, z⟩
      ·rintro ⟨de, df, dg, dh, di⟩ ds ⟨rfl, ax, aX⟩
       replace h := a7
       try dsimp only at h ax aX
       refine (show WL _ _ _ _ _ ((18, tp []) :: _) _ from ?_)
       refine nl (At.inBlock (th (rg (wY (ym z) z (wY (Y.add_i z z) z ?_)))))
       obtain ⟨cY, a9, h⟩ := lt1 h
       refine WL.yE (ya z) (congrArg vi a9.symm) z (nl ?_)
       exact At.round (de, df, dg, dh, cY, di) dd (Nat.lt_succ_self _) ⟨next1 h aU, (tr_ (su_ ao z) (su_ ax z)), aX⟩ (.cons z (.cons z (.cons z .nil)))
     ·refine WC.condF' z aH (WC.exit (At.thenX (At.loopX ?_)))
      exact At.hitB (σ := (UInt64 × UInt64 × UInt64 × UInt64 × Own)) (aa, ab, ac, ad, aJ) ⟨brk1 h aU, (su_ ao z), aG⟩ .nil
    ·rintro ⟨dj, dk, dl, dm, dn⟩ dT ⟨rfl, aP, aY⟩
     replace h := flowK_go cV
     try dsimp only at h aP aY
     refine (show At _ _ _ [] _ from ?_)
     refine At.inBlockHit ?_
     exact At.res (.inr z) z .nil ⟨(dj, dk, dl, dm, dn), ⟨some1 h, (su_ aP z), aY⟩, z⟩
   ·rintro ⟨aQ, aR, aS, aT, cA⟩ dU ⟨rfl, J, aZ⟩
    replace h := cT
    try dsimp only at h J aZ
    refine (show WL _ _ _ _ _ ((18, tp []) :: _) _ from ?_)
    refine nl (th (sq (WC.drawH [11] [0, 1, 2, 3] cA 5 fmix z (by kernel_rfl) ?_)))
    intro dt G
    refine WD.y 0 z (by kernel_rfl) (fun du dV a2 => have ba := aZ.st G z; have bb := ba.st a2 z; yL ty100 z z (bb.cells 0 [vi 0, vu aQ, vu aR, vu aS, vu aT, vB false, vb 0] z) z) z (WD.y 1 z (by kernel_rfl) (fun dw dW a3 => have bc := Z.st t z; have bd := bc.st j z; have bf := bd.st X z; have bg := bf.st J z; have bh := bg.st G z; have bi := bh.st a3 z; yL ty102 z z bi.at_ z) z (WD.heavy 2 z (by kernel_rfl) ?_))
    have bm := (((T.st j z).st X z).st J z).st G z
    refine WL.store (v := ag [vi 0, vu aQ, vu aR, vu aS, vu aT, vB false, vb 0]) (cells' := [vi 0, vu aQ, vu aR, vu aS, vu aT, vB false, vb 0]) ty100 z z bm z (le_ z) z z ?_
    intro dx ae bn
    refine nl (At.dq (su_ ae z) (WD.y 3 z (by kernel_rfl) (fun _ _ _ => ya z) z (WD.phase [12] [0, 1, 2, 3, 4] (by kernel_rfl) (by kernel_rfl) (WD.heavy 4 z (by kernel_rfl) ?_))))
    have br := (((U.st X z).st J z).st G z).st ae z
    refine WL.store (v := ag [vi 0, vi 0]) (cells' := [vi 0, vi 0]) ty102 z z br z (le_ z) z z ?_
    intro bs af bt
    refine nl (At.dq (su_ af z) (WD.done_ (by kernel_rfl) (th (rt (At.inBlockR (At.thenR ?_))))))
    obtain ⟨rfl, rfl, rfl⟩ := tup3 h
    have bu : Stp [11, 12, 13] (Lg.O0 A) w cA bs := (tr_ (su_ t z) (tr_ (su_ j z) (tr_ (su_ X z) (tr_ (su_ J z) (tr_ (su_ G z) (tr_ (su_ ae z) (su_ af z)))))))
    have bw := bn.st af z
    exact At.res (.inl z) z (.cell z (bw.runAg 0 [vi 0, vu aQ, vu aR, vu aS, vu aT, vB false, vb 0] ty100 z z z) (.tmp z (.cell z (bt.runAg 0 [vi 0, vi 0] ty102 z z z) .nil))) ⟨z, (se_ bu z z)⟩
  ·refine WC.condF' z aE (sq (rg (wY (Y.eql_b (b := 91) z z) z ?_)))
   obtain ⟨dX, bx, h⟩ := lt1 h
   refine WL.yE (ya z) (congrArg vB bx.symm) z (nl (th ?_))
   rcases cnd h with ⟨aq, h⟩ | ⟨aq, h⟩
   ·refine WC.condT' z aq (sq (rg (wY (ym z) z (wY (ym z) z ?_))))
    have bA := (Z.st t z).st j z
    obtain ⟨⟨m, dY, V⟩, bB, h⟩ := bnd h
    refine WL.call (vals := [vs a0, vi a1]) kok70 z z (c_glob_class (A := fun _ => True) bA.at_ trivial bB) ?_
    rintro dy dz ⟨rfl, bC⟩
    obtain ⟨cZ, c4, c5, ah⟩ := adoptE I (fun k => 1) bC
    refine wY (yx z z) z (wY (yx z z) z (wY (yx z z) z ?_))
    have bE := (T.st j z).st ah z
    refine WL.store (v := ag [vi m.kind, vu m.set.a0, vu m.set.a1, vu m.set.a2, vu m.set.a3, vB m.plain, vb m.c]) (cells' := [vi m.kind, vu m.set.a0, vu m.set.a1, vu m.set.a2, vu m.set.a3, vB m.plain, vb m.c]) ty100 z z bE z (le_ z) z z ?_
    intro dA ay bF
    refine wY (ya z) z ?_
    have bH := (U.st ah z).st ay z
    refine WL.store (v := ag [vi V.at_, vi V.e]) (cells' := [vi V.at_, vi V.e]) ty102 z z bH z (le_ z) z z ?_
    intro bI az bJ
    refine nl (th (rt (At.inBlockR (At.thenR ?_))))
    obtain ⟨rfl, rfl, rfl⟩ := tup3 h
    have bK : Stp [11, 12] (Lg.O0 A) w cZ bI := (tr_ (su_ t z) (tr_ (su_ j z) (tr_ (su_ ah z) (tr_ (su_ ay z) (su_ az z)))))
    have bL := bF.st az z
    exact At.res (.inl z) z (.cell z (bL.runAg 0 [vi m.kind, vu m.set.a0, vu m.set.a1, vu m.set.a2, vu m.set.a3, vB m.plain, vb m.c] ty100 z z z) (.tmp z (.cell z (bJ.runAg 0 [vi V.at_, vi V.e] ty102 z z z) .nil))) ⟨z, (se_ bK z z)⟩
   ·refine WC.condF' z aq (sq (rg (wY (Y.eql_b (b := 92) z z) z ?_)))
    obtain ⟨dZ, bM, h⟩ := lt1 h
    refine WL.yE (ya z) (congrArg vB bM.symm) z (nl (th ?_))
    rcases cnd h with ⟨ar, h⟩ | ⟨ar, h⟩
    ·refine WC.condT' z ar (sq (sq (rg (wY (ym z) z (wY (Y.add_i z z) z (wY (ym z) z (wY (Y.len_s ty9 z) z (wY (Y.eql_i z z) z (nl ?_)))))))))
     refine th ?_
     rcases cnd h with ⟨au, h⟩ | ⟨au, h⟩
     ·refine WC.condT' z au (sq (rg (wY (yb (vals := []) (cells := [vi 0, vu 0, vu 0, vu 0, vu 0, vB false, vb 0]) (fe_ z) (by kernel_rfl)) z (wY (ym z) z (wY (yb (vals := [(0, vi a1), (1, vi 2)]) (cells := [vi a1, vi 2]) (fe_ z) (by kernel_rfl)) z ?_)))))
      have bO := T.st j z
      refine WL.store (v := ag [vi 0, vu 0, vu 0, vu 0, vu 0, vB false, vb 0]) (cells' := [vi 0, vu 0, vu 0, vu 0, vu 0, vB false, vb 0]) ty100 z z bO z (le_ z) z z ?_
      intro dB aA bP
      refine wY (ya z) z ?_
      have bQ := U.st aA z
      refine WL.store (v := ag [vi a1, vi 2]) (cells' := [vi a1, vi 2]) ty102 z z bQ z (le_ z) z z ?_
      intro bR aC bS
      refine nl (th (rt (At.thenR (At.inBlockR (At.thenR ?_)))))
      obtain ⟨rfl, rfl, rfl⟩ := tup3 h
      have bT : Stp [11, 12] (Lg.O0 A) w I bR := (tr_ (su_ t z) (tr_ (su_ j z) (tr_ (su_ aA z) (su_ aC z))))
      have bU := bP.st aC z
      exact At.res (.inl z) z (.cell z (bU.runAg 0 [vi 0, vu 0, vu 0, vu 0, vu 0, vB false, vb 0] ty100 z z z) (.tmp z (.cell z (bS.runAg 0 [vi a1, vi 2] ty102 z z z) .nil))) ⟨z, (se_ bT z z)⟩
     ·refine WC.condF' z au (sk (th (sq (WC.drawH [11] [0, 1, 2, 3, 4, 5, 6, 7] I 9 fmix z (by kernel_rfl) ?_))))
      intro dC K
      refine WD.y 0 z (by kernel_rfl) (fun _ _ _ => ym z) z (WD.y 1 z (by kernel_rfl) (fun _ _ _ => ym z) z (WD.y 2 z (by kernel_rfl) (fun _ _ _ => Y.add_i z z) z ?_))
      obtain ⟨c0, bW, h⟩ := bnd h
      refine WD.y 3 z (by kernel_rfl) (fun _ _ _ => Y.index_s ty9 z z bW) z (WD.y 5 z (by kernel_rfl) (fun dD d0 a4 => have bX := Z.st t z; have bY := bX.st j z; have bZ := bY.st K z; have b0 := bZ.st a4 z; yL ty102 z z b0.at_ z) z (WD.heavy 4 z (by kernel_rfl) ?_))
      obtain ⟨o, b1, h⟩ := bnd h
      refine WL.call (vals := [vb c0]) kok71 z z (c_glob_byteOf b1) ?_
      rintro dE dF ⟨rfl, b2⟩
      obtain ⟨c1, c6, c7, M⟩ := adoptE I (fun k => 1) b2
      refine nl (At.dq (su_ M z) (WD.heavy 6 z (by kernel_rfl) ?_))
      have b5 := ((T.st j z).st K z).st M z
      refine WL.store (v := ag [vi o.kind, vu o.set.a0, vu o.set.a1, vu o.set.a2, vu o.set.a3, vB o.plain, vb o.c]) (cells' := [vi o.kind, vu o.set.a0, vu o.set.a1, vu o.set.a2, vu o.set.a3, vB o.plain, vb o.c]) ty100 z z b5 z (le_ z) z z ?_
      intro dG ai b6
      refine nl (At.dq (su_ ai z) (WD.y 7 z (by kernel_rfl) (fun _ _ _ => ya z) z (WD.phase [12] [0, 1, 2, 3, 4, 5, 6, 7, 8] (by kernel_rfl) (by kernel_rfl) (WD.heavy 8 z (by kernel_rfl) ?_))))
      have b9 := ((U.st K z).st M z).st ai z
      refine WL.store (v := ag [vi 0, vi 0]) (cells' := [vi 0, vi 0]) ty102 z z b9 z (le_ z) z z ?_
      intro ca aj cb
      refine nl (At.dq (su_ aj z) (WD.done_ (by kernel_rfl) (th (rt (At.inBlockR (At.thenR ?_))))))
      obtain ⟨rfl, rfl, rfl⟩ := tup3 h
      have cc : Stp [11, 12] (Lg.O0 A) w c1 ca := (tr_ (su_ t z) (tr_ (su_ j z) (tr_ (su_ K z) (tr_ (su_ M z) (tr_ (su_ ai z) (su_ aj z))))))
      have cd := b6.st aj z
      exact At.res (.inl z) z (.cell z (cd.runAg 0 [vi o.kind, vu o.set.a0, vu o.set.a1, vu o.set.a2, vu o.set.a3, vB o.plain, vb o.c] ty100 z z z) (.tmp z (.cell z (cb.runAg 0 [vi 0, vi 0] ty102 z z z) .nil))) ⟨z, (se_ cc z z)⟩
    ·refine WC.condF' z ar (sk (At.inBlock (th (sq (WC.drawH [11] [0, 1, 2, 3, 4, 5, 6] I 8 fmix z (by kernel_rfl) ?_)))))
     intro dH Q
     refine WD.y 0 z (by kernel_rfl) (fun _ _ _ => ym z) z (WD.y 1 z (by kernel_rfl) (fun _ _ _ => ym z) z ?_)
     obtain ⟨c2, ce, h⟩ := bnd h
     refine WD.y 2 z (by kernel_rfl) (fun _ _ _ => Y.index_s ty9 z z ce) z (WD.y 4 z (by kernel_rfl) (fun dI d1 a5 => have cf := Z.st t z; have cg := cf.st j z; have ch := cg.st Q z; have ci := ch.st a5 z; yL ty102 z z ci.at_ z) z (WD.heavy 3 z (by kernel_rfl) ?_))
     obtain ⟨r, cj, h⟩ := bnd h
     refine WL.call (vals := [vb c2]) kok71 z z (c_glob_byteOf cj) ?_
     rintro dJ dK ⟨rfl, ck⟩
     obtain ⟨c3, c8, c9, S⟩ := adoptE I (fun k => 1) ck
     refine nl (At.dq (su_ S z) (WD.heavy 5 z (by kernel_rfl) ?_))
     have cn := ((T.st j z).st Q z).st S z
     refine WL.store (v := ag [vi r.kind, vu r.set.a0, vu r.set.a1, vu r.set.a2, vu r.set.a3, vB r.plain, vb r.c]) (cells' := [vi r.kind, vu r.set.a0, vu r.set.a1, vu r.set.a2, vu r.set.a3, vB r.plain, vb r.c]) ty100 z z cn z (le_ z) z z ?_
     intro dL ak co
     refine nl (At.dq (su_ ak z) (WD.y 6 z (by kernel_rfl) (fun _ _ _ => ya z) z (WD.phase [12] [0, 1, 2, 3, 4, 5, 6, 7] (by kernel_rfl) (by kernel_rfl) (WD.heavy 7 z (by kernel_rfl) ?_))))
     have cs := ((U.st Q z).st S z).st ak z
     refine WL.store (v := ag [vi 0, vi 0]) (cells' := [vi 0, vi 0]) ty102 z z cs z (le_ z) z z ?_
     intro ct al cu
     refine nl (At.dq (su_ al z) (WD.done_ (by kernel_rfl) (th (rt ?_))))
     obtain ⟨rfl, rfl, rfl⟩ := tup3 h
     have cw : Stp [11, 12] (Lg.O0 A) w c3 ct := (tr_ (su_ t z) (tr_ (su_ j z) (tr_ (su_ Q z) (tr_ (su_ S z) (tr_ (su_ ak z) (su_ al z))))))
     have cx := co.st al z
     exact At.res (.inl z) z (.cell z (cx.runAg 0 [vi r.kind, vu r.set.a0, vu r.set.a1, vu r.set.a2, vu r.set.a3, vB r.plain, vb r.c] ty100 z z z) (.tmp z (.cell z (cu.runAg 0 [vi 0, vi 0] ty102 z z z) .nil))) ⟨z, (se_ cw z z)⟩
theorem c_glob_Compile {A : Nat → Prop} {a0 : List UInt8} {w : World} (hG0 : CellsAt w 0 0 [vi 0, vi 0]) (hGA0 : A 0) {r0 : Option glob_Glob} {r1 : Int} {r2 : Int} (h : glob_Compile a0 = some (r0, r1, r2)) : Rets Tryd.prog 26 [vs a0] w (fun v w' => ∃ (u0 : Value), v = tp [u0, vi r1, vi r2] ∧ Ext w w' ∧ OptP u0 r0 fun d => ∃ (p0 : Nat) (al : Value), u0 = .pointer (some ⟨p0, 0, none⟩) ∧ (w'.heap[p0]? = some (.cells (List.toArray [vs d.text, al]) 96 (0, 0)) ∧ w.heap.size ≤ p0) ∧ Sl rep_glob_piece w' (fun k => w.heap.size ≤ k ∧ k ≠ p0) al d.pieces) := by
 unfold glob_Compile at h
 refine Rets.enter Tryd.func26 z z ?_
 have bg : CAt [0, 1] (Lg.O0 A) w 0 0 [vi 0, vi 0] := CAt.glob hG0 (if_pos hGA0)
 refine (show WC _ _ _ _ [(0, vs a0)] _ from ?_)
 refine sq (rg (wY (ya z) z (wY (ya z) z (wY (ya z) z (nl (th (sq (sq (rg ?_)))))))))
 refine wY (ym z) z (wY (Y.len_s ty9 z) z (wY (Y.gtr_i z z) z (nl (th ?_))))
 rcases cnd h with ⟨W, h⟩ | ⟨W, h⟩
 ·refine WC.condT' z W (sq (rg (wY (ya z) z (wY (ya z) z (wY (ya z) z (nl (th (rt (At.thenR ?_)))))))))
  obtain ⟨rfl, rfl, rfl⟩ := tup3 h
  have bh : Stp [] (Lg.O0 A) w (Lg.O0 A) w := (sr_ _ _ _)
  exact At.res (.inl z) z (.tmp z (.tmp z (.tmp z .nil))) ⟨Value.pointer none, z, (se_ bh z z), z⟩
 ·refine WC.condF' z W (sk (th (sq (rg (wY (ym z) z (wY (yb (vals := [(0, vs a0)]) (cells := [vs a0, sn]) (fe_ z) (by kernel_rfl)) z (WL.box (O := (Lg.O0 A)) 11 [vs a0, sn] z z z ?_)))))))
  intro I am an Q bi
  refine wY (ya z) z (nl (th (sq (sq (rg (wY (ya z) z (nl (th (WC.block ?_)))))))))
  obtain ⟨bb, h, ao⟩ := flow1 h
  obtain ⟨bc, h⟩ := loop_some h
  refine WC.joinB 0 (σ := (List glob_piece × Own × Value)) (fun x w' => bb = .go x.1 ∧ Stp [11, 12, 13, 15, 1001] am an x.2.1 w' ∧ OwnSl 1002 rep_glob_piece 100 x.2.1 w' x.2.2 x.1 ∧ Blk 11 x.2.1 w' I 96 [vs a0, x.2.2]) (fun x => [(2, pt I 0)]) ?_ ?_
  ·refine WC.loop (σ := (List glob_piece × Int × Own × Value)) (fun x k w' => loopN k (glob_Compile_lp1 a0) (x.1, x.2.1) = some bb ∧ Stp [11, 12, 13, 15, 1001] am an x.2.2.1 w' ∧ OwnSl 1001 rep_glob_piece 100 x.2.2.1 w' x.2.2.2 x.1 ∧ Blk 11 x.2.2.1 w' I 96 [vs a0, x.2.2.2]) (fun x => [(0, vs a0), (2, pt I 0), (5, vi x.2.1)]) ([], 0, am, sn) bc (.cons z (.cons z (.cons z .nil))) ⟨h, (sr_ _ _ _), (OwnSl.nil 1001 rep_glob_piece 100), bi⟩ ?_
   rintro ⟨bG, bd, bH, bI⟩ bc bU ⟨h, F, X, S⟩
   obtain ⟨bJ, b8, rfl, h, Z⟩ := rnd1 h
   unfold glob_Compile_lp1 at h
   try dsimp only at h F X S
   refine (show WC _ _ _ _ [(0, vs a0), (2, pt I 0), (5, vi bd)] _ from ?_)
   refine sq (sq (rg (wY (ym z) z (wY (ym z) z (wY (Y.len_s ty9 z) z (wY (Y.lss_i z z) z (nl (th ?_))))))))
   rcases cnd h with ⟨aa, h⟩ | ⟨aa, h⟩
   ·refine WC.condT' z aa (sk (th (WC.block (sq (rg (wY (ym z) z (wY (ym z) z ?_)))))))
    have ap := (bg.st Q z).st F z
    obtain ⟨⟨j, b9, J⟩, bk, h⟩ := bnd h
    refine WL.call (vals := [vs a0, vi bd]) kok48 z z (c_glob_next (A := fun _ => True) ap.at_ trivial bk) ?_
    rintro bW bX ⟨rfl, bl⟩
    obtain ⟨bK, bL, bM, t⟩ := adoptE bH (fun k => 1) bl
    refine wY (ym z) z (wY (yx z z) z (wY (yx z z) z (wY (yx z z) z (WL.alloc (O := bK) 12 [vi 0, vu 0, vu 0, vu 0, vu 0, vB false, vb 0] ty100 z z ?_))))
    intro ca bO bY D bm
    refine WL.alloc (O := bO) 13 [vi 0, vi 0] ty102 z z ?_
    intro cb af bZ m bn
    have bo := bm.st m z
    refine WL.store (v := ag [vi j.kind, vu j.set.a0, vu j.set.a1, vu j.set.a2, vu j.set.a3, vB j.plain, vb j.c]) (cells' := [vi j.kind, vu j.set.a0, vu j.set.a1, vu j.set.a2, vu j.set.a3, vB j.plain, vb j.c]) ty100 z z bo z (le_ z) z z ?_
    intro b0 o bp
    refine wY (ya z) z ?_
    have bq := bn.st o z
    refine WL.store (v := ag [vi J.at_, vi J.e]) (cells' := [vi J.at_, vi J.e]) ty102 z z bq z (le_ z) z z ?_
    intro b1 r aq
    refine nl (th (sq (sq (rg (wY (yL ty102 z z (aq.cells 0 [vi J.at_, vi J.e] z) z) z ?_)))))
    have bw := ((((ap.st t z).st D z).st m z).st o z).st r z
    refine wY (yL ty102 z z bw.at_ z) z (wY (Y.neq_ag agok102 z z (EqF.cons (by decide) (fun w => run_part_plain w (by kernel_rfl) z) (fun w => run_part_plain w (by kernel_rfl) z) (EqV.i (a := J.at_) (b := 0) ty3.u) (EqF.cons (by decide) (fun w => run_part_plain w (by kernel_rfl) z) (fun w => run_part_plain w (by kernel_rfl) z) (EqV.i (a := J.e) (b := 0) ty25.u) EqF.nil))) z (nl (th ?_)))
    rcases cnd h with ⟨ab, h⟩ | ⟨ab, h⟩
    ·refine WC.condT' z ab (sq (WC.draw 6 af fmix (by kernel_rfl) ?_))
     intro bx ah
     refine WS.y (yf fo102_0 z) z ?_
     have ar := aq.st ah z
     refine WS.y (yl ty3 z z (ar.cell 0 _ z)) z (WS.y (yf fo102_1 z) z (WS.y (yl ty25 z z (ar.cell 1 _ z)) z (WS.y (ya z) z (WS.y (ya z) z (WS.tail (wY (ya z) z (nl (th (rt ?_)))))))))
     refine At.thenR (At.inBlockR (At.loopR ?_))
     have h := outr1 h Z ao
     refine At.joinBR (At.inBlockR (At.thenR ?_))
     obtain ⟨rfl, rfl, rfl⟩ := tup3 h
     have bz : Stp [11, 12, 13, 15, 1001] (Lg.O0 A) w af bx := (tr_ (su_ Q z) (tr_ (su_ F z) (tr_ (su_ t z) (tr_ (su_ D z) (tr_ (su_ m z) (tr_ (su_ o z) (tr_ (su_ r z) (su_ ah z))))))))
     exact At.res (.inl z) z (.tmp z (.tmp z (.tmp z .nil))) ⟨Value.pointer none, z, (se_ bz z z), z⟩
    ·refine WC.condF' z ab (sk (th (sq (WC.drawH [1001] [0, 1, 2, 3, 4, 5, 6, 7, 8, 9] af 11 fmix z (by kernel_rfl) ?_))))
     intro b2 G
     refine WD.y 0 z (by kernel_rfl) (fun _ _ _ => ym z) z (WD.y 1 z (by kernel_rfl) (fun _ _ _ => ym z) z (WD.y 2 z (by kernel_rfl) (fun _ _ _ => yn z) z (WD.y 3 z (by kernel_rfl) (fun _ _ _ => yf fo96_1 z) z (WD.y 4 z (by kernel_rfl) (fun b3 cc aA => have bA := S.st t z; have aC := bA.st D z; have aD := aC.st m z; have aE := aD.st o z; have aF := aE.st r z; have aG := aF.st G z; have aH := aG.st aA z; yl ty94 z z (aH.cell 1 _ z)) z (WD.y 5 z (by kernel_rfl) (fun bQ b4 au => have aI := bp.st r z; have aJ := aI.st G z; have aK := aJ.st au z; yL ty100 z z (aK.cells 0 [vi j.kind, vu j.set.a0, vu j.set.a1, vu j.set.a2, vu j.set.a3, vB j.plain, vb j.c] z) z) z (WD.heavy 6 z (by kernel_rfl) (WL.buildSlice (O := af) (R := rep_glob_piece) (vals := [(0, ag [vi j.kind, vu j.set.a0, vu j.set.a1, vu j.set.a2, vu j.set.a3, vB j.plain, vb j.c])]) 14 [vi j.kind, vu j.set.a0, vu j.set.a1, vu j.set.a2, vu j.set.a3, vB j.plain, vb j.c] (xs := [j]) (by decide) ty94 ty100 (by decide) (by decide) (fe_ z) (by kernel_rfl) z ⟨[vi j.kind, vu j.set.a0, vu j.set.a1, vu j.set.a2, vu j.set.a3, vB j.plain, vb j.c], [], z, ⟨[vi j.kind], [vu j.set.a0, vu j.set.a1, vu j.set.a2, vu j.set.a3, vB j.plain, vb j.c], z, z, ⟨[vu j.set.a0, vu j.set.a1, vu j.set.a2, vu j.set.a3], [vB j.plain, vb j.c], z, ⟨[vu j.set.a0], [vu j.set.a1, vu j.set.a2, vu j.set.a3], z, z, ⟨[vu j.set.a1], [vu j.set.a2, vu j.set.a3], z, z, ⟨[vu j.set.a2], [vu j.set.a3], z, z, z⟩⟩⟩, ⟨[vB j.plain], [vb j.c], z, z, z⟩⟩⟩, z⟩ z ?_)))))))
     intro b5 b6 bR H aL
     refine nl (At.dq (su_ H z) (WD.heavy 7 z (by kernel_rfl) ?_))
     obtain ⟨aM, av, h⟩ := bnd h
     have aT := ((((((X.st t z z z).st D z z z).st m z z z).st o z z z).st r z z z).st G z z z).st H z z z
     refine WL.append (by decide) ty94 ty100 z (by decide) z z aT aL.src av z ?_
     intro b7 bB bS K ai
     refine nl (At.dq (su_ K z) (WD.y 8 z (by kernel_rfl) (fun _ _ _ => yn z) z (WD.y 9 z (by kernel_rfl) (fun _ _ _ => yf fo96_1 z) z (WD.phase [11] [0, 1, 2, 3, 4, 5, 6, 7, 8, 9, 10] (by kernel_rfl) (by kernel_rfl) (WD.heavy 10 z (by kernel_rfl) ?_)))))
     have aU := h
     obtain ⟨ac, ad, ae, rfl⟩ := ai.shape
     have h := aU
     have a1 := ((((S.st t z).st D z).st m z).st o z).st r z
     have a2 := a1.st G z
     have a3 := a2.st H z
     have a4 := a3.st K z
     refine WL.store (v := (vl ac ad ae)) (cells' := [vs a0, (vl ac ad ae)]) ty94 z z a4 z (le_ z) z z ?_
     intro bT M a5
     refine nl (At.dq (su_ M z) (WD.done_ (by kernel_rfl) (th (rg (wY (ym z) z (wY (ym z) z (wY (Y.add_i z z) z ?_)))))))
     obtain ⟨bC, a6, h⟩ := lt1 h
     refine WL.yE (ya z) (congrArg vi a6.symm) z (nl (At.inBlock ?_))
     have a7 := ai.st M z z z
     exact At.round (aM, bC, bB, (vl ac ad ae)) bJ (Nat.lt_succ_self _) ⟨next1 h Z, (tr_ (su_ F z) (tr_ (su_ t z) (tr_ (su_ D z) (tr_ (su_ m z) (tr_ (su_ o z) (tr_ (su_ r z) (tr_ (su_ G z) (tr_ (su_ H z) (tr_ (su_ K z) (su_ M z)))))))))), a7, a5⟩ (.cons z (.cons z (.cons z .nil)))
   ·refine WC.condF' z aa (WC.exit (At.thenX (At.loopX ?_)))
    obtain ⟨bD, U, a8⟩ := OwnSl.rlb 1002 rfl X
    have a9 := S.st U z
    exact At.hitB (σ := (List glob_piece × Own × Value)) (bG, bD, bI) ⟨brk1 h Z, (tr_ (su_ F z) (su_ U z)), a8, a9⟩ (.cons z .nil)
  ·rintro ⟨cd, ce, bP⟩ bE ⟨rfl, aj, ax, ay⟩
   replace h := flowK_go ao
   try dsimp only at h aj ax ay
   refine (show At _ _ _ [(2, pt I 0)] _ from ?_)
   refine At.inBlockHit (th (sq (rg (wY (ym z) z (wY (ya z) z (wY (ya z) z (wY (ya z) z (nl (th ?_)))))))))
   refine rt ?_
   obtain ⟨rfl, rfl, rfl⟩ := tup3 h
   obtain ⟨bF, V, ba⟩ := OwnSl.giveF rfl flat_glob_piece ax
   have T : Stp [11, 12, 13, 15, 1001, 1002] (Lg.O0 A) w bF bE := (tr_ (su_ Q z) (tr_ (su_ aj z) (su_ V z)))
   have ak := ay.st V z
   exact At.res (.inl z) z (.tmp z (.tmp z (.tmp z .nil))) ⟨pt I 0, z, (se_ T z z), ⟨I, bP, z, (Blk.outF ak T low0 z), (Sl.outFN ba T low0 ak.lab z)⟩⟩
theorem c_label_small {a0 : UInt8} {w : World} {r0 : Bool} (h : label_small a0 = some r0) : Rets Tryd.prog 93 [vb a0] w (fun v w' => v = vB r0 ∧ Ext w w') := by
 unfold label_small at h
 refine Rets.enter Tryd.func93 z z ?_
 refine (show WC _ _ _ _ [(0, vb a0)] _ from ?_)
 refine sq (rg (wY (ya z) z (nl (th (sq (rg (wY (ym z) z (wY (Y.geq_b (b := 97) z z) z (wY (ym z) z ?_)))))))))
 refine WL.cut 3 (σ := Unit) (fun _ w' => w = w') (fun _ => [(8, vB ((decide (97 ≤ a0)) && (decide (a0 ≤ 122))))]) ?_ ?_
 ·refine WL.part 5 z (fun j => ?_) (fun j => ?_)
  ·refine ug z z (wY (ym z) z (ug z z (wY (Y.leq_b (b := 122) z z) z (wY (Y.pick (b := true) z z) z (WL.ren (v' := vB ((decide (97 ≤ a0)) && (decide (a0 ≤ 122)))) 8 z (congrArg vB (andT j)) ?_)))))
   exact nl (At.join () z (.cons z .nil))
  ·refine WL.gS z z z z (WL.gS z z z z (wY (Y.pick (b := false) z z) z (WL.ren (v' := vB ((decide (97 ≤ a0)) && (decide (a0 ≤ 122)))) 8 z (congrArg vB (andF j)) ?_)))
   exact nl (At.join () z (.cons z .nil))
 ·rintro _ _ rfl
  refine (show WL _ _ _ _ _ [(8, vB ((decide (97 ≤ a0)) && (decide (a0 ≤ 122))))] _ from ?_)
  obtain ⟨r, m, h⟩ := lt1 h
  refine WL.yE (ya z) (congrArg vB m.symm) z (nl (th (rt ?_)))
  obtain rfl := some1 h
  have o : Stp [] (Lg.O0 (fun _ => False)) w (Lg.O0 (fun _ => False)) w := (sr_ _ _ _)
  exact At.res (.inl z) z (.tmp z .nil) ⟨z, (se_ o z z)⟩
theorem c_label_isName {a0 : List UInt8} {w : World} {r0 : Bool} (h : label_isName a0 = some r0) : Rets Tryd.prog 72 [vs a0] w (fun v w' => v = vB r0 ∧ Ext w w') := by
 unfold label_isName at h
 refine Rets.enter Tryd.func72 z z ?_
 refine (show WC _ _ _ _ [(0, vs a0)] _ from ?_)
 refine sq (rg (wY (ya z) z (nl (th (sq (sq (rg (wY (ym z) z (wY (Y.eql_s (b := []) z z) z ?_)))))))))
 refine wY (ym z) z ?_
 refine WL.cut 4 (σ := Unit) (fun _ w' => w = w') (fun _ => [(0, vs a0), (11, vB ((decide (a0 = [])) || (decide (32 < (a0.length : Int)))))]) ?_ ?_
 ·refine WL.part 7 z (fun H => ?_) (fun H => ?_)
  ·refine WL.gS z z z z (WL.gS z z z z (WL.gS z z z z (wY (Y.pick (b := true) z z) z (WL.ren (v' := vB ((decide (a0 = [])) || (decide (32 < (a0.length : Int))))) 11 z (congrArg vB (orT H)) ?_))))
   exact nl (At.join () z (.cons z (.cons z .nil)))
  ·refine ug z z (wY (ym z) z (ug z z (wY (Y.len_s ty9 z) z (ug z z (wY (Y.gtr_i z z) z (wY (Y.pick (b := false) z z) z (WL.ren (v' := vB ((decide (a0 = [])) || (decide (32 < (a0.length : Int))))) 11 z (congrArg vB (orF H)) ?_)))))))
   exact nl (At.join () z (.cons z (.cons z .nil)))
 ·rintro _ _ rfl
  refine (show WL _ _ _ _ _ [(0, vs a0), (11, vB ((decide (a0 = [])) || (decide (32 < (a0.length : Int)))))] _ from ?_)
  refine wY (ym z) z ?_
  obtain ⟨aI, h, an⟩ := bnd h
  refine WL.cut 5 (σ := (Bool × Own)) (fun x w' => x.1 = aI ∧ Stp [] (Lg.O0 (fun _ => False)) w x.2 w') (fun x => [(0, vs a0), (17, vB x.1)]) ?_ ?_
  ·rcases cnd h with ⟨I, h⟩ | ⟨I, h⟩
   ·refine WL.ren 12 z (congrArg vB I) (WL.gS z z z z (WL.gS z z z z (WL.gS z z z z (WL.gS z z z z (wY (Y.pick (b := true) z z) z ?_)))))
    exact nl (At.join (σ := (Bool × Own)) (true, (Lg.O0 (fun _ => False))) ⟨some1 h, (sr_ _ _ _)⟩ (.cons z (.cons z .nil)))
   ·refine WL.ren 12 z (congrArg vB I) (ug z z (wY (ym z) z (ug z z ?_)))
    obtain ⟨aJ, ao, h⟩ := bnd h
    refine wY (Y.index_s ty9 z z ao) z (ug z z ?_)
    obtain ⟨aK, ap, h⟩ := bnd h
    refine WL.call (vals := [vb aJ]) kok93 z z (c_label_small ap) ?_
    rintro aW aX ⟨rfl, aq⟩
    obtain ⟨aL, aM, aN, ad⟩ := adoptE (Lg.O0 (fun _ => False)) (fun k => 1) aq
    refine ug z z (wY (Y.not z) z (wY (Y.pick (b := false) z z) z ?_))
    exact nl (At.join (σ := (Bool × Own)) ((!aK), aL) ⟨some1 h, (su_ ad z)⟩ (.cons z (.cons z .nil)))
  ·rintro ⟨aO, ai⟩ ar ⟨rfl, D⟩
   replace h := an
   try dsimp only at h D
   refine (show WL _ _ _ _ _ [(0, vs a0), (17, vB aO)] _ from ?_)
   refine nl (th ?_)
   rcases cnd h with ⟨J, h⟩ | ⟨J, h⟩
   ·refine WC.condT' z J (sq (rg (wY (ya z) z (nl (th (rt (At.thenR ?_)))))))
    obtain rfl := some1 h
    have au : Stp [] (Lg.O0 (fun _ => False)) w ai ar := (su_ D z)
    exact At.res (.inl z) z (.tmp z .nil) ⟨z, (se_ au z z)⟩
   ·refine WC.condF' z J (sk (th (sq (sq (rg (wY (ym z) z (WL.s2b (O := ai) ty9 ty137 ty5 z z ?_)))))))
    intro o Z aa W ab
    refine wY (Y.len ty137 z ab) z (wY (ym z) z (nl (th (WC.block ?_))))
    obtain ⟨aj, h, ac⟩ := flow1 h
    obtain ⟨ak, h⟩ := loop_some h
    refine WC.joinB 0 (σ := Own) (fun x w' => aj = .go () ∧ Stp [] Z aa x w') (fun x => []) ?_ ?_
    ·refine WC.loop (σ := (Int × Own)) (fun x k w' => loopN k (label_isName_lp1 a0) x.1 = some aj ∧ Stp [] Z aa x.2 w') (fun x => [(19, o), (20, vi (a0.length : Int)), (21, vi x.1)]) (0, Z) ak (.cons z (.cons z (.cons z .nil))) ⟨h, (sr_ _ _ _)⟩ ?_
     rintro ⟨r, al⟩ ak aY ⟨h, t⟩
     obtain ⟨aP, a2, rfl, h, K⟩ := rnd1 h
     unfold label_isName_lp1 at h
     try dsimp only at h t
     refine (show WC _ _ _ _ [(19, o), (20, vi (a0.length : Int)), (21, vi r)] _ from ?_)
     refine sq (rg (wY (Y.lss_i z z) z (nl (th (sq ?_)))))
     rcases cnd h with ⟨M, h⟩ | ⟨M, h⟩
     ·refine WC.condT' z M (sk (th (sq (WC.block (sq (rg ?_))))))
      obtain ⟨j, av, h⟩ := bnd h
      have ax := ab.f t z
      obtain ⟨a3, aT, aU, aZ, ay, az, aA, Q, ae, aC⟩ := Sl.at2 ax av
      obtain rfl := ae
      replace Q : CellsAt _ _ _ [vb j] := Q
      have af := CAt.frs Q aC
      refine wY (Y.indexAddr ty137 ty5 z ay z az aA) z (wY (yl ty5 z z af.at_) z (wY (ya z) z (nl (th (sq (rg (wY (ym z) z ?_)))))))
      obtain ⟨m, aD, h⟩ := bnd h
      refine WL.call (vals := [vb j]) kok93 z z (c_label_small aD) ?_
      rintro a1 F ⟨rfl, aE⟩
      obtain ⟨am, aQ, aR, X⟩ := adoptE al (fun k => 1) aE
      refine wY (Y.not z) z (wY (ym z) z ?_)
      refine WL.cut 7 (σ := Unit) (fun _ w' => F = w') (fun _ => [(4, vb j), (19, o), (20, vi (a0.length : Int)), (21, vi r), (35, vB ((!m) && ((decide (j < 48)) || (decide (57 < j)))))]) ?_ ?_
      ·refine WL.part 28 z (fun S => ?_) (fun S => ?_)
       ·refine ug z z (wY (ym z) z (ug z z (wY (Y.lss_b (b := 48) z z) z (ug z z (wY (ym z) z ?_)))))
        refine WL.cut 3 (σ := Unit) (fun _ w' => F = w') (fun _ => [(4, vb j), (19, o), (20, vi (a0.length : Int)), (21, vi r), (28, vB true), (29, vb j), (30, vB (decide (j < 48))), (31, vB (decide (j < 48))), (34, vB ((decide (j < 48)) || (decide (57 < j))))]) ?_ ?_
        ·refine WL.part 31 z (fun G => ?_) (fun G => ?_)
         ·refine WL.gS z z z z (WL.gS z z z z (ug z z (wY (Y.pick (b := true) z z) z (WL.ren (v' := vB ((decide (j < 48)) || (decide (57 < j)))) 34 z (congrArg vB (orT G)) (WL.ren 31 z (congrArg vB G.symm) ?_)))))
          exact nl (At.join () z (.cons z (.cons z (.cons z (.cons z (.cons z (.cons z (.cons z (.cons z (.cons z .nil))))))))))
         ·refine ug z z (wY (ym z) z (ug z z (wY (Y.gtr_b (b := 57) z z) z (ug z z (wY (Y.pick (b := false) z z) z (WL.ren (v' := vB ((decide (j < 48)) || (decide (57 < j)))) 34 z (congrArg vB (orF G)) (WL.ren 31 z (congrArg vB G.symm) ?_)))))))
          exact nl (At.join () z (.cons z (.cons z (.cons z (.cons z (.cons z (.cons z (.cons z (.cons z (.cons z .nil))))))))))
        ·rintro _ _ rfl
         refine (show WL _ _ _ _ _ [(4, vb j), (19, o), (20, vi (a0.length : Int)), (21, vi r), (28, vB true), (29, vb j), (30, vB (decide (j < 48))), (31, vB (decide (j < 48))), (34, vB ((decide (j < 48)) || (decide (57 < j))))] _ from ?_)
         refine wY (Y.pick (b := true) z z) z (WL.ren (v' := vB ((!m) && ((decide (j < 48)) || (decide (57 < j))))) 35 z (congrArg vB (andT S)) ?_)
         exact nl (At.join () z (.cons z (.cons z (.cons z (.cons z (.cons z .nil))))))
       ·refine WL.gS z z z z (WL.gS z z z z (WL.gS z z z z (WL.gS z z z z (WL.gS z z z z (WL.gS z z z z (wY (Y.pick (b := false) z z) z (WL.ren (v' := vB ((!m) && ((decide (j < 48)) || (decide (57 < j))))) 35 z (congrArg vB (andF S)) ?_)))))))
        exact nl (At.join () z (.cons z (.cons z (.cons z (.cons z (.cons z .nil))))))
      ·rintro _ _ rfl
       refine (show WL _ _ _ _ _ [(4, vb j), (19, o), (20, vi (a0.length : Int)), (21, vi r), (35, vB ((!m) && ((decide (j < 48)) || (decide (57 < j)))))] _ from ?_)
       refine wY (ym z) z ?_
       refine WL.cut 3 (σ := Unit) (fun _ w' => F = w') (fun _ => [(4, vb j), (19, o), (20, vi (a0.length : Int)), (21, vi r), (39, vB (((!m) && ((decide (j < 48)) || (decide (57 < j)))) && (!decide (j = 95))))]) ?_ ?_
       ·refine WL.part 36 z (fun T => ?_) (fun T => ?_)
        ·refine ug z z (wY (ym z) z (ug z z (wY (Y.neq_b (b := 95) z z) z (wY (Y.pick (b := true) z z) z (WL.ren (v' := vB (((!m) && ((decide (j < 48)) || (decide (57 < j)))) && (!decide (j = 95)))) 39 z (congrArg vB (andT T)) ?_)))))
         exact nl (At.join () z (.cons z (.cons z (.cons z (.cons z (.cons z .nil))))))
        ·refine WL.gS z z z z (WL.gS z z z z (wY (Y.pick (b := false) z z) z (WL.ren (v' := vB (((!m) && ((decide (j < 48)) || (decide (57 < j)))) && (!decide (j = 95)))) 39 z (congrArg vB (andF T)) ?_)))
         exact nl (At.join () z (.cons z (.cons z (.cons z (.cons z (.cons z .nil))))))
       ·rintro _ _ rfl
        refine (show WL _ _ _ _ _ [(4, vb j), (19, o), (20, vi (a0.length : Int)), (21, vi r), (39, vB (((!m) && ((decide (j < 48)) || (decide (57 < j)))) && (!decide (j = 95))))] _ from ?_)
        refine wY (ym z) z ?_
        refine WL.cut 3 (σ := Unit) (fun _ w' => F = w') (fun _ => [(19, o), (20, vi (a0.length : Int)), (21, vi r), (43, vB ((((!m) && ((decide (j < 48)) || (decide (57 < j)))) && (!decide (j = 95))) && (!decide (j = 46))))]) ?_ ?_
        ·refine WL.part 40 z (fun U => ?_) (fun U => ?_)
         ·refine ug z z (wY (ym z) z (ug z z (wY (Y.neq_b (b := 46) z z) z (wY (Y.pick (b := true) z z) z (WL.ren (v' := vB ((((!m) && ((decide (j < 48)) || (decide (57 < j)))) && (!decide (j = 95))) && (!decide (j = 46)))) 43 z (congrArg vB (andT U)) ?_)))))
          exact nl (At.join () z (.cons z (.cons z (.cons z (.cons z .nil)))))
         ·refine WL.gS z z z z (WL.gS z z z z (wY (Y.pick (b := false) z z) z (WL.ren (v' := vB ((((!m) && ((decide (j < 48)) || (decide (57 < j)))) && (!decide (j = 95))) && (!decide (j = 46)))) 43 z (congrArg vB (andF U)) ?_)))
          exact nl (At.join () z (.cons z (.cons z (.cons z (.cons z .nil)))))
        ·rintro _ _ rfl
         refine (show WL _ _ _ _ _ [(19, o), (20, vi (a0.length : Int)), (21, vi r), (43, vB ((((!m) && ((decide (j < 48)) || (decide (57 < j)))) && (!decide (j = 95))) && (!decide (j = 46))))] _ from ?_)
         refine nl (th ?_)
         rcases cnd h with ⟨V, h⟩ | ⟨V, h⟩
         ·refine WC.condT' z V (sq (rg (wY (ya z) z (nl (th (rt (At.inBlockR (At.thenR (At.loopR ?_)))))))))
          have h := outr1 h K ac
          refine At.joinBR (At.inBlockR (At.thenR ?_))
          obtain rfl := some1 h
          have aF : Stp [] (Lg.O0 (fun _ => False)) w am F := (tr_ (su_ D z) (tr_ (su_ W z) (tr_ (su_ t z) (su_ X z))))
          exact At.res (.inl z) z (.tmp z .nil) ⟨z, (se_ aF z z)⟩
         ·refine WC.condF' z V (sk (At.inBlock (th (rg (wY (Y.add_i z z) z (wY (ym z) z (nl ?_)))))))
          exact At.round (w64 (r + 1), am) aP (Nat.lt_succ_self _) ⟨next1 h K, (tr_ (su_ t z) (su_ X z))⟩ (.cons z (.cons z (.cons z .nil)))
     ·refine WC.condF' z M (WC.exit (At.thenX (At.loopX ?_)))
      exact At.hitB (σ := Own) al ⟨brk1 h K, (su_ t z)⟩ .nil
    ·rintro aS aG ⟨rfl, ah⟩
     replace h := flowK_go ac
     refine (show At _ _ _ [] _ from ?_)
     refine At.inBlockHit (th (sq (rg (wY (ya z) z (nl (th (rt ?_)))))))
     obtain rfl := some1 h
     have aH : Stp [] (Lg.O0 (fun _ => False)) w aS aG := (tr_ (su_ D z) (tr_ (su_ W z) (su_ ah z)))
     exact At.res (.inl z) z (.tmp z .nil) ⟨z, (se_ aH z z)⟩
theorem c_label_isValue {a0 : List UInt8} {w : World} {r0 : Bool} (h : label_isValue a0 = some r0) : Rets Tryd.prog 73 [vs a0] w (fun v w' => v = vB r0 ∧ Ext w w') := by
 unfold label_isValue at h
 refine Rets.enter Tryd.func73 z z ?_
 refine (show WC _ _ _ _ [(0, vs a0)] _ from ?_)
 refine sq (rg (wY (ya z) z (nl (th (sq (sq (rg (wY (ym z) z (wY (Y.eql_s (b := []) z z) z ?_)))))))))
 refine wY (ym z) z ?_
 refine WL.cut 4 (σ := Unit) (fun _ w' => w = w') (fun _ => [(0, vs a0), (11, vB ((decide (a0 = [])) || (decide (32 < (a0.length : Int)))))]) ?_ ?_
 ·refine WL.part 7 z (fun r => ?_) (fun r => ?_)
  ·refine WL.gS z z z z (WL.gS z z z z (WL.gS z z z z (wY (Y.pick (b := true) z z) z (WL.ren (v' := vB ((decide (a0 = [])) || (decide (32 < (a0.length : Int))))) 11 z (congrArg vB (orT r)) ?_))))
   exact nl (At.join () z (.cons z (.cons z .nil)))
  ·refine ug z z (wY (ym z) z (ug z z (wY (Y.len_s ty9 z) z (ug z z (wY (Y.gtr_i z z) z (wY (Y.pick (b := false) z z) z (WL.ren (v' := vB ((decide (a0 = [])) || (decide (32 < (a0.length : Int))))) 11 z (congrArg vB (orF r)) ?_)))))))
   exact nl (At.join () z (.cons z (.cons z .nil)))
 ·rintro _ _ rfl
  refine (show WL _ _ _ _ _ [(0, vs a0), (11, vB ((decide (a0 = [])) || (decide (32 < (a0.length : Int)))))] _ from ?_)
  refine nl (th ?_)
  rcases cnd h with ⟨t, h⟩ | ⟨t, h⟩
  ·refine WC.condT' z t (sq (rg (wY (ya z) z (nl (th (rt (At.thenR ?_)))))))
   obtain rfl := some1 h
   have ab : Stp [] (Lg.O0 (fun _ => False)) w (Lg.O0 (fun _ => False)) w := (sr_ _ _ _)
   exact At.res (.inl z) z (.tmp z .nil) ⟨z, (se_ ab z z)⟩
  ·refine WC.condF' z t (sk (th (sq (sq (rg (wY (ym z) z (WL.s2b (O := (Lg.O0 (fun _ => False))) ty9 ty137 ty5 z z ?_)))))))
   intro m X j Q S
   refine wY (Y.len ty137 z S) z (wY (ym z) z (nl (th (WC.block ?_))))
   obtain ⟨Z, h, T⟩ := flow1 h
   obtain ⟨aa, h⟩ := loop_some h
   refine WC.joinB 0 (σ := Unit) (fun x w' => Z = .go () ∧ j = w') (fun x => []) ?_ ?_
   ·refine WC.loop (σ := Int) (fun x k w' => loopN k (label_isValue_lp1 a0) x = some Z ∧ j = w') (fun x => [(13, m), (14, vi (a0.length : Int)), (15, vi x)]) 0 aa (.cons z (.cons z (.cons z .nil))) ⟨h, z⟩ ?_
    rintro o aa _ ⟨h, rfl⟩
    obtain ⟨aq, aH, rfl, h, D⟩ := rnd1 h
    unfold label_isValue_lp1 at h
    try dsimp only at h
    refine (show WC _ _ _ _ [(13, m), (14, vi (a0.length : Int)), (15, vi o)] _ from ?_)
    refine sq (rg (wY (Y.lss_i z z) z (nl (th (sq ?_)))))
    rcases cnd h with ⟨F, h⟩ | ⟨F, h⟩
    ·refine WC.condT' z F (sk (th (sq (WC.block (sq (rg ?_))))))
     obtain ⟨ar, ac, h⟩ := bnd h
     obtain ⟨aI, aE, aF, aG, ad, ae, af, G, V, ah⟩ := Sl.at2 S ac
     obtain rfl := V
     replace G : CellsAt _ _ _ [vb ar] := G
     have W := CAt.frs G ah
     refine wY (Y.indexAddr ty137 ty5 z ad z ae af) z (wY (yl ty5 z z W.at_) z (wY (ya z) z (nl (th ?_))))
     obtain ⟨au, h, U⟩ := flow1 h
     refine WC.join (σ := Unit) (fun x w' => au = .go () ∧ j = w') (fun x => [(13, m), (14, vi (a0.length : Int)), (15, vi o)]) ?_ ?_
     ·refine WC.block (sq ?_)
      obtain ⟨av, h, ai⟩ := bnd h
      refine WC.join (σ := Bool) (fun x w' => x = av ∧ j = w') (fun x => [(13, m), (14, vi (a0.length : Int)), (15, vi o), (19, vB x)]) ?_ ?_
      ·refine sq (rg (wY (ym z) z (wY (Y.lss_b (b := 33) z z) z ?_)))
       obtain ⟨ax, aj, h⟩ := lt1 h
       refine WL.yE (ya z) (congrArg vB aj.symm) z (nl (th ?_))
       rcases cnd h with ⟨H, h⟩ | ⟨H, h⟩
       ·refine WC.condT' z H (sk ?_)
        exact At.join (σ := Bool) ax ⟨some1 h, z⟩ (.cons z (.cons z (.cons z (.cons z .nil))))
       ·refine WC.condF' z H (sq (rg (wY (ym z) z (wY (Y.gtr_b (b := 126) z z) z ?_))))
        obtain ⟨ay, ak, h⟩ := lt1 h
        refine WL.yE (ya z) (congrArg vB ak.symm) z (nl (th ?_))
        rcases cnd h with ⟨I, h⟩ | ⟨I, h⟩
        ·refine WC.condT' z I (sk ?_)
         exact At.join (σ := Bool) ay ⟨some1 h, z⟩ (.cons z (.cons z (.cons z (.cons z .nil))))
        ·refine WC.condF' z I (sq (rg (wY (ym z) z (wY (Y.eql_b (b := 61) z z) z ?_))))
         obtain ⟨az, al, h⟩ := lt1 h
         refine WL.yE (ya z) (congrArg vB al.symm) z (nl (th ?_))
         rcases cnd h with ⟨J, h⟩ | ⟨J, h⟩
         ·refine WC.condT' z J (sk ?_)
          exact At.join (σ := Bool) az ⟨some1 h, z⟩ (.cons z (.cons z (.cons z (.cons z .nil))))
         ·refine WC.condF' z J (sq (rg (wY (ym z) z (wY (Y.eql_b (b := 59) z z) z ?_))))
          obtain ⟨aA, am, h⟩ := lt1 h
          refine WL.yE (ya z) (congrArg vB am.symm) z (nl (th ?_))
          rcases cnd h with ⟨K, h⟩ | ⟨K, h⟩
          ·refine WC.condT' z K (sk ?_)
           exact At.join (σ := Bool) aA ⟨some1 h, z⟩ (.cons z (.cons z (.cons z (.cons z .nil))))
          ·refine WC.condF' z K (rg (wY (ym z) z (wY (Y.eql_b (b := 44) z z) z ?_)))
           obtain ⟨aC, an, h⟩ := lt1 h
           refine WL.yE (ya z) (congrArg vB an.symm) z (nl ?_)
           exact At.join (σ := Bool) aC ⟨some1 h, z⟩ (.cons z (.cons z (.cons z (.cons z .nil))))
      ·rintro aD _ ⟨rfl, rfl⟩
       replace h := ai
       try dsimp only at h
       refine (show At _ _ _ [(13, m), (14, vi (a0.length : Int)), (15, vi o), (19, vB aD)] _ from ?_)
       refine th ?_
       rcases cnd h with ⟨M, h⟩ | ⟨M, h⟩
       ·refine WC.condT' z M (sq (rg (wY (ya z) z (nl (th (rt (At.inBlockR ?_)))))))
        have h := outs1 h U
        refine At.joinR (At.inBlockR (At.thenR (At.loopR ?_)))
        have h := outr1 h D T
        refine At.joinBR (At.inBlockR (At.thenR ?_))
        obtain rfl := some1 h
        have ao : Stp [] (Lg.O0 (fun _ => False)) w X j := (su_ Q z)
        exact At.res (.inl z) z (.tmp z .nil) ⟨z, (se_ ao z z)⟩
       ·refine WC.condF' z M (sk (At.inBlock ?_))
        exact At.join (σ := Unit) () ⟨go2 h, z⟩ (.cons z (.cons z (.cons z .nil)))
     ·rintro _ _ ⟨rfl, rfl⟩
      replace h := flowK_go U
      refine (show At _ _ _ [(13, m), (14, vi (a0.length : Int)), (15, vi o)] _ from ?_)
      refine At.inBlock (th (rg (wY (Y.add_i z z) z (wY (ym z) z (nl ?_)))))
      exact At.round (w64 (o + 1)) aq (Nat.lt_succ_self _) ⟨next1 h D, z⟩ (.cons z (.cons z (.cons z .nil)))
    ·refine WC.condF' z F (WC.exit (At.thenX (At.loopX ?_)))
     exact At.hitB (σ := Unit) () ⟨brk1 h D, z⟩ .nil
   ·rintro _ _ ⟨rfl, rfl⟩
    replace h := flowK_go T
    refine (show At _ _ _ [] _ from ?_)
    refine At.inBlockHit (th (sq (rg (wY (ya z) z (nl (th (rt ?_)))))))
    obtain rfl := some1 h
    have ap : Stp [] (Lg.O0 (fun _ => False)) w X j := (su_ Q z)
    exact At.res (.inl z) z (.tmp z .nil) ⟨z, (se_ ap z z)⟩
theorem c_label_Check {A : Nat → Prop} {a0 : List UInt8} {a1 : List api_Pair} {v1 : Value} {w : World} (hs1 : Sl rep_api_Pair w A v1 a1) {r0 : Int} (h : label_Check a0 a1 = some r0) : Rets Tryd.prog 49 [vs a0, v1] w (fun v w' => v = vi r0 ∧ Ext w w') := by
 unfold label_Check at h
 refine Rets.enter Tryd.func49 z z ?_
 have ba : Sl rep_api_Pair w (imm (Lg.O0 A)) v1 a1 := (Sl.start hs1)
 refine (show WC _ _ _ _ [(0, vs a0), (1, v1)] _ from ?_)
 refine sq (rg (wY (ya z) z (nl (th (sq (sq (rg (wY (ym z) z ?_))))))))
 obtain ⟨cq, bb, h⟩ := bnd h
 refine WL.call (vals := [vs a0]) kok72 z z (c_label_isName bb) ?_
 rintro ce U ⟨rfl, bc⟩
 obtain ⟨ac, bQ, bR, r⟩ := adoptE (Lg.O0 A) (fun k => 1) bc
 refine wY (Y.not z) z (nl (th ?_))
 rcases cnd h with ⟨af, h⟩ | ⟨af, h⟩
 ·refine WC.condT' z af (sq (rg (wY (ya z) z (nl (th (rt (At.thenR ?_)))))))
  obtain rfl := some1 h
  have bd : Stp [] (Lg.O0 A) w ac U := (su_ r z)
  exact At.res (.inl z) z (.tmp z .nil) ⟨z, (se_ bd z z)⟩
 ·refine WC.condF' z af (sk (th (sq (sq (rg (wY (ym z) z ?_))))))
  have ah := ba.i r z z
  refine wY (Y.len ty33 z ah) z (wY (Y.gtr_i z z) z (nl (th ?_)))
  rcases cnd h with ⟨ai, h⟩ | ⟨ai, h⟩
  ·refine WC.condT' z ai (sq (rg (wY (ya z) z (nl (th (rt (At.thenR ?_)))))))
   obtain rfl := some1 h
   have bf : Stp [] (Lg.O0 A) w ac U := (su_ r z)
   exact At.res (.inl z) z (.tmp z .nil) ⟨z, (se_ bf z z)⟩
  ·refine WC.condF' z ai (sk (th (sq (sq (rg (wY (ym z) z (wY (Y.len ty33 z ah) z (wY (ym z) z (nl ?_)))))))))
   refine th (WC.block ?_)
   obtain ⟨a6, h, aj⟩ := flow1 h
   obtain ⟨a7, h⟩ := loop_some h
   refine WC.joinB 0 (σ := Own) (fun x w' => a6 = .go () ∧ Stp [11] ac U x w') (fun x => []) ?_ ?_
   ·refine WC.loop (σ := (Int × Own)) (fun x k w' => loopN k (label_Check_lp1 a1) x.1 = some a6 ∧ Stp [11] ac U x.2 w') (fun x => [(1, v1), (13, v1), (14, vi (a1.length : Int)), (15, vi x.1)]) (0, ac) a7 (.cons z (.cons z (.cons z (.cons z .nil)))) ⟨h, (sr_ _ _ _)⟩ ?_
    rintro ⟨J, a8⟩ a7 cf ⟨h, t⟩
    obtain ⟨bS, cr, rfl, h, V⟩ := rnd1 h
    unfold label_Check_lp1 at h
    try dsimp only at h t
    refine (show WC _ _ _ _ [(1, v1), (13, v1), (14, vi (a1.length : Int)), (15, vi J)] _ from ?_)
    refine sq (rg (wY (Y.lss_i z z) z (nl (th (sq ?_)))))
    rcases cnd h with ⟨ak, h⟩ | ⟨ak, h⟩
    ·refine WC.condT' z ak (sk (th (sq (WC.block (sq (rg (wY (ym z) z ?_)))))))
     obtain ⟨G, bg, h⟩ := bnd h
     have au := ah.i t z z
     obtain ⟨cs, b7, b8, cg, bh, bi, bj, al, aG, bk⟩ := Sl.at2 au bg
     obtain ⟨_, _, rfl, rfl, rfl⟩ := aG
     replace al : CellsAt _ _ _ [vs G.Key, vs G.Val] := al
     have aH := CAt.imm al bk
     refine wY (Y.indexAddr ty33 ty59 z bh z bi bj) z (wY (yL ty59 z z aH.at_ z) z (WL.alloc (O := a8) 11 [vs [], vs []] ty59 z z ?_))
     intro m bT ch H bl
     refine wY (ya z) z (WL.store (v := ag [vs G.Key, vs G.Val]) (cells' := [vs G.Key, vs G.Val]) ty59 z z bl z (le_ z) z z ?_)
     intro ci I am
     refine nl (th (sq (sq (rg (wY (yf fo59_0 z) z (wY (yl ty9 z z (am.cell 0 _ z)) z ?_))))))
     obtain ⟨ct, bm, h⟩ := bnd h
     refine WL.call (vals := [vs G.Key]) kok72 z z (c_label_isName bm) ?_
     rintro cj bn ⟨rfl, bo⟩
     obtain ⟨av, bU, bW, D⟩ := adoptE bT (fun k => 1) bo
     refine wY (Y.not z) z (wY (ym z) z ?_)
     obtain ⟨bX, h, bp⟩ := bnd h
     refine WL.cut 5 (σ := (Bool × Own)) (fun x w' => x.1 = bX ∧ Stp [] av bn x.2 w') (fun x => [(1, v1), (5, vi J), (6, pt m 0), (13, v1), (14, vi (a1.length : Int)), (15, vi J), (29, vB x.1)]) ?_ ?_
     ·rcases cnd h with ⟨an, h⟩ | ⟨an, h⟩
      ·refine WL.ren 24 z (congrArg vB an) (WL.gS z z z z (WL.gS z z z z (WL.gS z z z z (WL.gS z z z z (wY (Y.pick (b := true) z z) z ?_)))))
       exact nl (At.join (σ := (Bool × Own)) (true, av) ⟨some1 h, (sr_ _ _ _)⟩ (.cons z (.cons z (.cons z (.cons z (.cons z (.cons z (.cons z .nil))))))))
      ·refine WL.ren 24 z (congrArg vB an) (ug z z (wY (yf fo59_1 z) z (ug z z ?_)))
       have bq := am.st D z
       refine wY (yl ty9 z z (bq.cell 1 _ z)) z (ug z z ?_)
       obtain ⟨bY, br, h⟩ := bnd h
       refine WL.call (vals := [vs G.Val]) kok73 z z (c_label_isValue br) ?_
       rintro ck cl ⟨rfl, bs⟩
       obtain ⟨bZ, b0, b1, aI⟩ := adoptE av (fun k => 1) bs
       refine ug z z (wY (Y.not z) z (wY (Y.pick (b := false) z z) z ?_))
       exact nl (At.join (σ := (Bool × Own)) ((!bY), bZ) ⟨some1 h, (su_ aI z)⟩ (.cons z (.cons z (.cons z (.cons z (.cons z (.cons z (.cons z .nil))))))))
     ·rintro ⟨b2, S⟩ K ⟨rfl, F⟩
      replace h := bp
      try dsimp only at h F
      refine (show WL _ _ _ _ _ [(1, v1), (5, vi J), (6, pt m 0), (13, v1), (14, vi (a1.length : Int)), (15, vi J), (29, vB b2)] _ from ?_)
      refine nl (th ?_)
      rcases cnd h with ⟨ao, h⟩ | ⟨ao, h⟩
      ·refine WC.condT' z ao (sq (rg (wY (ya z) z (nl (th (rt (At.thenR (At.inBlockR (At.thenR ?_)))))))))
       refine At.loopR ?_
       have h := outr1 h V aj
       refine At.joinBR (At.inBlockR (At.thenR ?_))
       obtain rfl := some1 h
       have bt : Stp [11] (Lg.O0 A) w S K := (tr_ (su_ r z) (tr_ (su_ t z) (tr_ (su_ H z) (tr_ (su_ I z) (tr_ (su_ D z) (su_ F z))))))
       exact At.res (.inl z) z (.tmp z .nil) ⟨z, (se_ bt z z)⟩
      ·refine WC.condF' z ao (sk (th (sq (rg (wY (ym z) z (wY (ym z) z ?_))))))
       obtain ⟨ax, bu, h⟩ := bnd h
       have bA := (((au.i H z z).i I z z).i D z z).i F z z
       obtain ⟨T, bB, ay⟩ := Sl.slice (ρ := [(30, v1), (31, vi J)]) (x := (.tmp 30)) (lo := none) (hi := (some (.tmp 31))) ty33 ty59 rfl rfl rfl bA bu
       refine wY (Y.sub (.cons z (.cons z .nil)) (bB _ _)) z (wY (Y.mkfunc (fv := []) (cv := [pt m 0]) z z) z ?_)
       obtain ⟨bC, h, aJ⟩ := bnd h
       refine WL.callJ (vals := [T, Value.func (.func 75) (List.toArray []) (List.toArray [pt m 0])]) (σ := (Bool × Own)) (fun x w' => x.1 = bC ∧ Stp [] S K x.2 w') (fun x => vB x.1) kok74 z z ?_ ?_
       ·refine Rets.enter Tryd.func74 z z ?_
        refine (show WC _ _ _ _ [(0, T), (1, Value.func (.func 75) (List.toArray []) (List.toArray [pt m 0]))] _ from ?_)
        refine sq (rg (wY (ya z) z (nl (th (sq (rg (wY (ym z) z (wY (ym z) z ?_))))))))
        obtain ⟨bD, h, aK⟩ := bnd h
        refine WL.callJ (vals := [T, Value.func (.func 75) (List.toArray []) (List.toArray [pt m 0])]) (σ := (Int × Own)) (fun x w' => x.1 = bD ∧ Stp [] S K x.2 w') (fun x => vi x.1) kok94 z z ?_ ?_
        ·refine Rets.enter Tryd.func94 z z ?_
         refine (show WC _ _ _ _ [(0, T), (1, Value.func (.func 75) (List.toArray []) (List.toArray [pt m 0]))] _ from ?_)
         refine sq (rg (wY (ya z) z (nl (th (sq (sq (rg (wY (ym z) z (wY (Y.len ty33 z ay) z ?_)))))))))
         refine wY (ym z) z (nl (th (WC.block ?_)))
         obtain ⟨az, h, ar⟩ := flow1 h
         obtain ⟨aA, h⟩ := loop_some h
         refine WC.joinB 0 (σ := Own) (fun x w' => az = .go () ∧ Stp [] S K x w') (fun x => []) ?_ ?_
         ·refine WC.loop (σ := (Int × Own)) (fun x k w' => loopN k (label_Check_lp2 G ax) x.1 = some az ∧ Stp [] S K x.2 w') (fun x => [(0, T), (1, Value.func (.func 75) (List.toArray []) (List.toArray [pt m 0])), (7, vi (ax.length : Int)), (8, vi x.1)]) (0, S) aA (.cons z (.cons z (.cons z (.cons z .nil)))) ⟨h, (sr_ _ _ _)⟩ ?_
          rintro ⟨ap, aq⟩ aA aL ⟨h, j⟩
          obtain ⟨bE, cm, rfl, h, W⟩ := rnd1 h
          unfold label_Check_lp2 at h
          try dsimp only at h j
          refine (show WC _ _ _ _ [(0, T), (1, Value.func (.func 75) (List.toArray []) (List.toArray [pt m 0])), (7, vi (ax.length : Int)), (8, vi ap)] _ from ?_)
          refine sq (rg (wY (Y.lss_i z z) z (nl (th (sq ?_)))))
          rcases cnd h with ⟨X, h⟩ | ⟨X, h⟩
          ·refine WC.condT' z X (sk (th (sq (WC.block (sq (rg (wY (ym z) z (wY (ya z) z (nl ?_)))))))))
           refine th (sq (rg (wY (ym z) z (wY (ym z) z (wY (ym z) z ?_)))))
           obtain ⟨o, aM, h⟩ := bnd h
           have aN := ay.i j z z
           obtain ⟨cn, b3, b4, b9, aO, aP, aQ, Z, aC, aR⟩ := Sl.at2 aN aM
           obtain ⟨_, _, rfl, rfl, rfl⟩ := aC
           replace Z : CellsAt _ _ _ [vs o.Key, vs o.Val] := Z
           have aD := CAt.imm Z aR
           refine wY (Y.indexAddr ty33 ty59 z aO z aP aQ) z (wY (yL ty59 z z aD.at_ z) z ?_)
           obtain ⟨bF, h, aS⟩ := bnd h
           refine WL.callV (fv := []) (cv := [pt m 0]) (vals := [ag [vs o.Key, vs o.Val]]) (σ := (Bool × Own)) (fun x w' => x.1 = bF ∧ Stp [] aq aL x.2 w') (fun x => vB x.1) kok75 z z z ?_ ?_
           ·refine Rets.enter Tryd.func75 z z ?_
            refine (show WC _ _ _ _ [(0, ag [vs o.Key, vs o.Val]), (1, pt m 0)] _ from ?_)
            refine sq (rg (WL.box (O := aq) 12 [vs o.Key, vs o.Val] z z z ?_))
            intro co bG ca ad aT
            refine wY (ya z) z (nl (th (sq (rg (wY (yf fo59_0 z) z (wY (yl ty9 z z (aT.cell 0 _ z)) z (wY (yf fo59_0 z) z ?_)))))))
            have aY := (((am.st D z).st F z).st j z).st ad z
            refine wY (yl ty9 z z (aY.cell 0 _ z)) z (wY (Y.eql_s z z) z ?_)
            obtain ⟨bH, aZ, h⟩ := lt1 h
            refine WL.yE (ya z) (congrArg vB aZ.symm) z (nl (th (rt ?_)))
            exact At.res (.inl z) z (.tmp z .nil) ⟨(bH, bG), ⟨some1 h, (su_ ad z)⟩, z⟩
           ·rintro ⟨bI, aE⟩ cb ⟨rfl, M⟩
            replace h := aS
            try dsimp only at h M
            refine (show WL _ _ _ _ _ ((16, vB bI) :: _) _ from ?_)
            refine nl (th ?_)
            rcases cnd h with ⟨aa, h⟩ | ⟨aa, h⟩
            ·refine WC.condT' z aa (sq (rg (wY (ym z) z (wY (ya z) z (nl (th (rt (At.inBlockR (At.thenR ?_)))))))))
             refine At.loopR ?_
             have h := outr1 h W ar
             refine At.joinBR (At.inBlockR (At.thenR ?_))
             exact At.res (.inl z) z (.tmp z .nil) ⟨(ap, aE), ⟨some1 h, (tr_ (su_ j z) (su_ M z))⟩, z⟩
            ·refine WC.condF' z aa (sk (At.inBlock (th (rg (wY (Y.add_i z z) z (wY (ym z) z (nl ?_)))))))
             exact At.round (w64 (ap + 1), aE) bE (Nat.lt_succ_self _) ⟨next1 h W, (tr_ (su_ j z) (su_ M z))⟩ (.cons z (.cons z (.cons z (.cons z .nil))))
          ·refine WC.condF' z X (WC.exit (At.thenX (At.loopX ?_)))
           exact At.hitB (σ := Own) aq ⟨brk1 h W, (su_ j z)⟩ .nil
         ·rintro bJ cc ⟨rfl, aF⟩
          replace h := flowK_go ar
          refine (show At _ _ _ [] _ from ?_)
          refine At.inBlockHit (th (sq (rg (wY (ya z) z (nl (th (rt ?_)))))))
          exact At.res (.inl z) z (.tmp z .nil) ⟨((-1), bJ), ⟨some1 h, (su_ aF z)⟩, z⟩
        ·rintro ⟨bK, bL⟩ cd ⟨rfl, ae⟩
         replace h := aK
         try dsimp only at h ae
         refine (show WL _ _ _ _ _ ((7, vi bK) :: _) _ from ?_)
         refine wY (Y.geq_i z z) z ?_
         obtain ⟨bM, a2, h⟩ := lt1 h
         refine WL.yE (ya z) (congrArg vB a2.symm) z (nl (th (rt ?_)))
         exact At.res (.inl z) z (.tmp z .nil) ⟨(bM, bL), ⟨some1 h, (su_ ae z)⟩, z⟩
       ·rintro ⟨b5, a9⟩ bO ⟨rfl, Q⟩
        replace h := aJ
        try dsimp only at h Q
        refine (show WL _ _ _ _ _ ((34, vB b5) :: _) _ from ?_)
        refine nl (th ?_)
        rcases cnd h with ⟨ab, h⟩ | ⟨ab, h⟩
        ·refine WC.condT' z ab (sq (rg (wY (ya z) z (nl (th (rt (At.inBlockR (At.thenR (At.loopR ?_)))))))))
         have h := outr1 h V aj
         refine At.joinBR (At.inBlockR (At.thenR ?_))
         obtain rfl := some1 h
         have a3 : Stp [11] (Lg.O0 A) w a9 bO := (tr_ (su_ r z) (tr_ (su_ t z) (tr_ (su_ H z) (tr_ (su_ I z) (tr_ (su_ D z) (tr_ (su_ F z) (su_ Q z)))))))
         exact At.res (.inl z) z (.tmp z .nil) ⟨z, (se_ a3 z z)⟩
        ·refine WC.condF' z ab (sk (At.inBlock (th (rg (wY (Y.add_i z z) z (wY (ym z) z (nl ?_)))))))
         exact At.round (w64 (J + 1), a9) bS (Nat.lt_succ_self _) ⟨next1 h V, (tr_ (su_ t z) (tr_ (su_ H z) (tr_ (su_ I z) (tr_ (su_ D z) (tr_ (su_ F z) (su_ Q z))))))⟩ (.cons z (.cons z (.cons z (.cons z .nil))))
    ·refine WC.condF' z ak (WC.exit (At.thenX (At.loopX ?_)))
     exact At.hitB (σ := Own) a8 ⟨brk1 h V, (su_ t z)⟩ .nil
   ·rintro b6 bP ⟨rfl, a4⟩
    replace h := flowK_go aj
    refine (show At _ _ _ [] _ from ?_)
    refine At.inBlockHit (th (sq (rg (wY (ya z) z (nl (th (rt ?_)))))))
    obtain rfl := some1 h
    have a5 : Stp [11] (Lg.O0 A) w b6 bP := (tr_ (su_ r z) (su_ a4 z))
    exact At.res (.inl z) z (.tmp z .nil) ⟨z, (se_ a5 z z)⟩
theorem c_relabel_isKey {a0 : List UInt8} {w : World} {r0 : Bool} (h : relabel_isKey a0 = some r0) : Rets Tryd.prog 27 [vs a0] w (fun v w' => v = vB r0 ∧ Ext w w') := by
 unfold relabel_isKey at h
 refine Rets.enter Tryd.func27 z z ?_
 refine (show WC _ _ _ _ [(0, vs a0)] _ from ?_)
 refine sq (rg (wY (ya z) z (nl (th (sq (rg (wY (ym z) z ?_)))))))
 obtain ⟨J, m, h⟩ := bnd h
 refine WL.call (vals := [vs a0, sn]) kok49 z z (c_label_Check (A := fun _ => True) (Or.inl ⟨z, z⟩) m) ?_
 rintro I o ⟨rfl, r⟩
 obtain ⟨F, G, H, j⟩ := adoptE (Lg.O0 (fun _ => False)) (fun k => 1) r
 refine wY (Y.eql_i z z) z ?_
 obtain ⟨K, t, h⟩ := lt1 h
 refine WL.yE (ya z) (congrArg vB t.symm) z (nl (th (rt ?_)))
 obtain rfl := some1 h
 have D : Stp [] (Lg.O0 (fun _ => False)) w F o := (su_ j z)
 exact At.res (.inl z) z (.tmp z .nil) ⟨z, (se_ D z z)⟩
theorem c_relabel_isValue {a0 : List UInt8} {w : World} {r0 : Bool} (h : relabel_isValue a0 = some r0) : Rets Tryd.prog 28 [vs a0] w (fun v w' => v = vB r0 ∧ Ext w w') := by
 unfold relabel_isValue at h
 refine Rets.enter Tryd.func28 z z ?_
 refine (show WC _ _ _ _ [(0, vs a0)] _ from ?_)
 refine sq (rg (wY (ya z) z (nl (th (sq (rg (wY (ym z) z (wY (yb (vals := [(0, vs [120]), (1, vs a0)]) (cells := [vs [120], vs a0]) (fe_ z) (by kernel_rfl)) z (WL.buildSlice (O := (Lg.O0 (fun _ => False))) (R := rep_api_Pair) (vals := [(0, Value.agg (List.toArray [vs [120], vs a0]))]) 11 [vs [120], vs a0] (xs := [(api_Pair.mk [120] a0)]) (by decide) ty33 ty59 (by decide) (by decide) (fe_ z) (by kernel_rfl) z ⟨[vs [120], vs a0], [], z, ⟨[vs [120]], [vs a0], z, z, z⟩, z⟩ z ?_)))))))))
 intro H I Q j o
 obtain ⟨T, r, h⟩ := bnd h
 refine WL.call (vals := [vs [120], H]) kok49 z z (c_label_Check (A := fun _ => True) (o.src.sl) r) ?_
 rintro S t ⟨rfl, D⟩
 obtain ⟨J, K, M, m⟩ := adoptE I (fun k => 1) D
 refine wY (Y.eql_i z z) z ?_
 obtain ⟨U, F, h⟩ := lt1 h
 refine WL.yE (ya z) (congrArg vB F.symm) z (nl (th (rt ?_)))
 obtain rfl := some1 h
 have G : Stp [] (Lg.O0 (fun _ => False)) w J t := (tr_ (su_ j z) (su_ m z))
 exact At.res (.inl z) z (.tmp z .nil) ⟨z, (se_ G z z)⟩
theorem c_relabel_Check {A : Nat → Prop} {a0 : api_Rule} {w : World} (hG0 : CellsAt w 0 0 [vi 0, vi 0]) (hGA0 : A 0) {r0 : Int} (h : relabel_Check a0 = some r0) : Rets Tryd.prog 10 [ag [vi a0.Kind, vs a0.Key, vs a0.Glob, vs a0.To, vs a0.Val]] w (fun v w' => v = vi r0 ∧ Ext w w') := by
 unfold relabel_Check at h
 refine Rets.enter Tryd.func10 z z ?_
 have aQ : CAt [0, 1] (Lg.O0 A) w 0 0 [vi 0, vi 0] := CAt.glob hG0 (if_pos hGA0)
 refine (show WC _ _ _ _ [(0, ag [vi a0.Kind, vs a0.Key, vs a0.Glob, vs a0.To, vs a0.Val])] _ from ?_)
 refine sq (rg (WL.box (O := (Lg.O0 A)) 11 [vi a0.Kind, vs a0.Key, vs a0.Glob, vs a0.To, vs a0.Val] z z z ?_))
 intro m aO au t H
 refine wY (ya z) z (nl (th (sq (sq (rg (wY (yf fo28_0 z) z (wY (yl ty3 z z (H.cell 0 _ z)) z (wY (Y.lss_i z z) z (wY (ym z) z ?_)))))))))
 refine WL.cut 4 (σ := Unit) (fun _ w' => au = w') (fun _ => [(1, pt m 0), (14, vB ((decide (a0.Kind < 1)) || (decide (5 < a0.Kind))))]) ?_ ?_
 ·refine WL.part 10 z (fun aa => ?_) (fun aa => ?_)
  ·refine WL.gS z z z z (WL.gS z z z z (WL.gS z z z z (wY (Y.pick (b := true) z z) z (WL.ren (v' := vB ((decide (a0.Kind < 1)) || (decide (5 < a0.Kind)))) 14 z (congrArg vB (orT aa)) ?_))))
   exact nl (At.join () z (.cons z (.cons z .nil)))
  ·refine ug z z (wY (yf fo28_0 z) z (ug z z (wY (yl ty3 z z (H.cell 0 _ z)) z (ug z z (wY (Y.gtr_i z z) z (wY (Y.pick (b := false) z z) z (WL.ren (v' := vB ((decide (a0.Kind < 1)) || (decide (5 < a0.Kind)))) 14 z (congrArg vB (orF aa)) ?_)))))))
   exact nl (At.join () z (.cons z (.cons z .nil)))
 ·rintro _ _ rfl
  refine (show WL _ _ _ _ _ [(1, pt m 0), (14, vB ((decide (a0.Kind < 1)) || (decide (5 < a0.Kind))))] _ from ?_)
  refine nl (th ?_)
  rcases cnd h with ⟨ab, h⟩ | ⟨ab, h⟩
  ·refine WC.condT' z ab (sq (rg (wY (ya z) z (nl (th (rt (At.thenR ?_)))))))
   obtain rfl := some1 h
   have aR : Stp [] (Lg.O0 A) w aO au := (su_ t z)
   exact At.res (.inl z) z (.tmp z .nil) ⟨z, (se_ aR z z)⟩
  ·refine WC.condF' z ab (sk (th (sq (sq (rg (wY (yf fo28_2 z) z (wY (yl ty9 z z (H.cell 2 _ z)) z ?_)))))))
   have aS := aQ.st t z
   obtain ⟨⟨bT, bU, bW⟩, aT, h⟩ := bnd h
   refine WL.call (vals := [vs a0.Glob]) kok26 z z (c_glob_Compile (A := fun _ => True) aS.at_ trivial aT) ?_
   rintro bK av ⟨bk, rfl, aU, bX⟩
   obtain ⟨ao, bl, bm, F⟩ := adoptE aO (labP bk 12) aU
   refine wY (ym z) z (wY (yx z z) z (wY (yx z z) z (wY (yx z z) z (wY (ya z) z (wY (ya z) z (wY (ya z) z (nl (th (sq ?_)))))))))
   refine rg (wY (ym z) z (wY (Y.neq_i z z) z (nl (th ?_))))
   rcases cnd h with ⟨ac, h⟩ | ⟨ac, h⟩
   ·refine WC.condT' z ac (sq (rg (wY (ym z) z (wY (ya z) z (nl (th (rt (At.thenR ?_))))))))
    obtain rfl := some1 h
    have aW : Stp [] (Lg.O0 A) w ao av := (tr_ (su_ t z) (su_ F z))
    exact At.res (.inl z) z (.tmp z .nil) ⟨z, (se_ aW z z)⟩
   ·refine WC.condF' z ac (sk (th (sq (rg (wY (yf fo28_1 z) z ?_)))))
    have ad := H.st F z
    refine wY (yl ty9 z z (ad.cell 1 _ z)) z (wY (Y.eql_s (b := []) z z) z (wY (ym z) z ?_))
    obtain ⟨bn, h, aX⟩ := bnd h
    refine WL.cut 4 (σ := (Bool × Own)) (fun x w' => x.1 = bn ∧ Stp [] ao av x.2 w') (fun x => [(1, pt m 0), (32, vB x.1)]) ?_ ?_
    ·rcases cnd h with ⟨ae, h⟩ | ⟨ae, h⟩
     ·refine WL.ren 28 z (congrArg vB ae) (WL.gS z z z z (WL.gS z z z z (WL.gS z z z z (wY (Y.pick (b := true) z z) z ?_))))
      exact nl (At.join (σ := (Bool × Own)) (true, ao) ⟨some1 h, (sr_ _ _ _)⟩ (.cons z (.cons z .nil)))
     ·refine WL.ren 28 z (congrArg vB ae) (ug z z (wY (yf fo28_1 z) z (ug z z (wY (yl ty9 z z (ad.cell 1 _ z)) z (ug z z ?_)))))
      obtain ⟨bo, aY, h⟩ := bnd h
      refine WL.call (vals := [vs a0.Key]) kok27 z z (c_relabel_isKey aY) ?_
      rintro bL bM ⟨rfl, aZ⟩
      obtain ⟨bp, bq, br, aE⟩ := adoptE ao (fun k => 1) aZ
      refine wY (Y.pick (b := false) z z) z ?_
      exact nl (At.join (σ := (Bool × Own)) (bo, bp) ⟨some1 h, (su_ aE z)⟩ (.cons z (.cons z .nil)))
    ·rintro ⟨o, D⟩ r ⟨rfl, G⟩
     replace h := aX
     try dsimp only at h G
     refine (show WL _ _ _ _ _ [(1, pt m 0), (32, vB o)] _ from ?_)
     refine wY (ya z) z (nl (th (sq (sq (rg (wY (yf fo28_0 z) z ?_))))))
     have j := ad.st G z
     refine wY (yl ty3 z z (j.cell 0 _ z)) z (nl (th ?_))
     obtain ⟨bs, h, a1⟩ := bnd h
     refine WC.join (σ := (Bool × Own)) (fun x w' => x.1 = bs ∧ Stp [] D r x.2 w') (fun x => [(6, vB x.1)]) ?_ ?_
     ·refine WC.block (sq (rg (wY (Y.eql_i z z) z ?_)))
      obtain ⟨bY, a2, h⟩ := lt1 h
      refine WL.yE (ya z) (congrArg vB a2.symm) z (nl (th ?_))
      rcases cnd h with ⟨af, h⟩ | ⟨af, h⟩
      ·refine WC.condT' z af (rg (wY (ym z) z (wY (ym z) z ?_)))
       refine WL.cut 4 (σ := Unit) (fun _ w' => r = w') (fun _ => [(1, pt m 0), (53, vB (o && (!decide (a0.Key = []))))]) ?_ ?_
       ·refine WL.part 49 z (fun ah => ?_) (fun ah => ?_)
        ·refine ug z z (wY (yf fo28_1 z) z (ug z z (wY (yl ty9 z z (j.cell 1 _ z)) z (ug z z (wY (Y.neq_s (b := []) z z) z (wY (Y.pick (b := true) z z) z (WL.ren (v' := vB (o && (!decide (a0.Key = [])))) 53 z (congrArg vB (andT ah)) ?_)))))))
         exact nl (At.join () z (.cons z (.cons z .nil)))
        ·refine WL.gS z z z z (WL.gS z z z z (WL.gS z z z z (wY (Y.pick (b := false) z z) z (WL.ren (v' := vB (o && (!decide (a0.Key = [])))) 53 z (congrArg vB (andF ah)) ?_))))
         exact nl (At.join () z (.cons z (.cons z .nil)))
       ·rintro _ _ rfl
        refine (show WL _ _ _ _ _ [(1, pt m 0), (53, vB (o && (!decide (a0.Key = []))))] _ from ?_)
        refine wY (ym z) z ?_
        obtain ⟨bt, h, a3⟩ := bnd h
        refine WL.cut 4 (σ := (Bool × Own)) (fun x w' => x.1 = bt ∧ Stp [] D r x.2 w') (fun x => [(1, pt m 0), (58, vB x.1)]) ?_ ?_
        ·rcases cnd h with ⟨ai, h⟩ | ⟨ai, h⟩
         ·refine WL.ren 54 z (congrArg vB ai) (ug z z (wY (yf fo28_3 z) z (ug z z (wY (yl ty9 z z (j.cell 3 _ z)) z (ug z z ?_)))))
          obtain ⟨bu, a4, h⟩ := bnd h
          refine WL.call (vals := [vs a0.To]) kok27 z z (c_relabel_isKey a4) ?_
          rintro bO bP ⟨rfl, a5⟩
          obtain ⟨bw, bx, bz, aF⟩ := adoptE D (fun k => 1) a5
          refine wY (Y.pick (b := true) z z) z ?_
          exact nl (At.join (σ := (Bool × Own)) (bu, bw) ⟨some1 h, (su_ aF z)⟩ (.cons z (.cons z .nil)))
         ·refine WL.ren 54 z (congrArg vB ai) (WL.gS z z z z (WL.gS z z z z (WL.gS z z z z (wY (Y.pick (b := false) z z) z ?_))))
          exact nl (At.join (σ := (Bool × Own)) (false, D) ⟨some1 h, (sr_ _ _ _)⟩ (.cons z (.cons z .nil)))
        ·rintro ⟨X, bA⟩ a6 ⟨rfl, I⟩
         replace h := a3
         try dsimp only at h I
         refine (show WL _ _ _ _ _ [(1, pt m 0), (58, vB X)] _ from ?_)
         refine wY (ym z) z ?_
         refine WL.cut 4 (σ := Unit) (fun _ w' => a6 = w') (fun _ => [(63, vB (X && (decide (a0.Val = []))))]) ?_ ?_
         ·refine WL.part 59 z (fun aj => ?_) (fun aj => ?_)
          ·refine ug z z (wY (yf fo28_4 z) z (ug z z ?_))
           have a7 := j.st I z
           refine wY (yl ty9 z z (a7.cell 4 _ z)) z (ug z z (wY (Y.eql_s (b := []) z z) z (wY (Y.pick (b := true) z z) z (WL.ren (v' := vB (X && (decide (a0.Val = [])))) 63 z (congrArg vB (andT aj)) ?_))))
           exact nl (At.join () z (.cons z .nil))
          ·refine WL.gS z z z z (WL.gS z z z z (WL.gS z z z z (wY (Y.pick (b := false) z z) z (WL.ren (v' := vB (X && (decide (a0.Val = [])))) 63 z (congrArg vB (andF aj)) ?_))))
           exact nl (At.join () z (.cons z .nil))
         ·rintro _ _ rfl
          refine (show WL _ _ _ _ _ [(63, vB (X && (decide (a0.Val = []))))] _ from ?_)
          obtain ⟨ax, ap, h⟩ := lt1 h
          refine WL.yE (ya z) (congrArg vB ap.symm) z (nl (At.inBlock ?_))
          exact At.join (σ := (Bool × Own)) (ax, bA) ⟨some1 h, (su_ I z)⟩ (.cons z .nil)
      ·refine WC.condF' z af (sq (rg (wY (Y.eql_i z z) z ?_)))
       obtain ⟨bZ, a8, h⟩ := lt1 h
       refine WL.yE (ya z) (congrArg vB a8.symm) z (nl (th ?_))
       rcases cnd h with ⟨ak, h⟩ | ⟨ak, h⟩
       ·refine WC.condT' z ak (rg (wY (ym z) z (wY (ym z) z ?_)))
        obtain ⟨bB, h, a9⟩ := bnd h
        refine WL.cut 4 (σ := (Bool × Own)) (fun x w' => x.1 = bB ∧ Stp [] D r x.2 w') (fun x => [(1, pt m 0), (71, vB x.1)]) ?_ ?_
        ·rcases cnd h with ⟨al, h⟩ | ⟨al, h⟩
         ·refine WL.ren 67 z (congrArg vB al) (ug z z (wY (yf fo28_3 z) z (ug z z (wY (yl ty9 z z (j.cell 3 _ z)) z (ug z z ?_)))))
          obtain ⟨bC, ba, h⟩ := bnd h
          refine WL.call (vals := [vs a0.To]) kok27 z z (c_relabel_isKey ba) ?_
          rintro bQ bR ⟨rfl, bb⟩
          obtain ⟨bD, bE, bF, aG⟩ := adoptE D (fun k => 1) bb
          refine wY (Y.pick (b := true) z z) z ?_
          exact nl (At.join (σ := (Bool × Own)) (bC, bD) ⟨some1 h, (su_ aG z)⟩ (.cons z (.cons z .nil)))
         ·refine WL.ren 67 z (congrArg vB al) (WL.gS z z z z (WL.gS z z z z (WL.gS z z z z (wY (Y.pick (b := false) z z) z ?_))))
          exact nl (At.join (σ := (Bool × Own)) (false, D) ⟨some1 h, (sr_ _ _ _)⟩ (.cons z (.cons z .nil)))
        ·rintro ⟨bG, ay⟩ bc ⟨rfl, J⟩
         replace h := a9
         try dsimp only at h J
         refine (show WL _ _ _ _ _ [(1, pt m 0), (71, vB bG)] _ from ?_)
         refine wY (ym z) z ?_
         obtain ⟨bd, h, aH⟩ := bnd h
         refine WL.cut 4 (σ := (Bool × Own)) (fun x w' => x.1 = bd ∧ Stp [] ay bc x.2 w') (fun x => [(76, vB x.1)]) ?_ ?_
         ·rcases cnd h with ⟨K, h⟩ | ⟨K, h⟩
          ·refine WL.ren 72 z (congrArg vB K) (ug z z (wY (yf fo28_4 z) z (ug z z ?_)))
           have aI := j.st J z
           refine wY (yl ty9 z z (aI.cell 4 _ z)) z (ug z z ?_)
           obtain ⟨bf, aJ, h⟩ := bnd h
           refine WL.call (vals := [vs a0.Val]) kok28 z z (c_relabel_isValue aJ) ?_
           rintro bH bI ⟨rfl, aK⟩
           obtain ⟨bg, bi, bj, az⟩ := adoptE ay (fun k => 1) aK
           refine wY (Y.pick (b := true) z z) z ?_
           exact nl (At.join (σ := (Bool × Own)) (bf, bg) ⟨some1 h, (su_ az z)⟩ (.cons z .nil))
          ·refine WL.ren 72 z (congrArg vB K) (WL.gS z z z z (WL.gS z z z z (WL.gS z z z z (wY (Y.pick (b := false) z z) z ?_))))
           exact nl (At.join (σ := (Bool × Own)) (false, ay) ⟨some1 h, (sr_ _ _ _)⟩ (.cons z .nil))
         ·rintro ⟨aA, bh⟩ bJ ⟨rfl, Z⟩
          replace h := aH
          try dsimp only at h Z
          refine (show WL _ _ _ _ _ [(76, vB aA)] _ from ?_)
          refine wY (ya z) z (nl (At.inBlock ?_))
          exact At.join (σ := (Bool × Own)) (aA, bh) ⟨some1 h, (tr_ (su_ J z) (su_ Z z))⟩ (.cons z .nil)
       ·refine WC.condF' z ak (sq (rg (wY (Y.eql_i z z) z ?_)))
        obtain ⟨bS, aL, h⟩ := lt1 h
        refine WL.yE (ya z) (congrArg vB aL.symm) z (nl (th ?_))
        rcases cnd h with ⟨M, h⟩ | ⟨M, h⟩
        ·refine WC.condT' z M (rg (wY (yf fo28_1 z) z (wY (yl ty9 z z (j.cell 1 _ z)) z (wY (Y.eql_s (b := []) z z) z (wY (ym z) z ?_)))))
         refine WL.cut 4 (σ := Unit) (fun _ w' => r = w') (fun _ => [(1, pt m 0), (86, vB ((decide (a0.Key = [])) && (decide (a0.To = []))))]) ?_ ?_
         ·refine WL.part 82 z (fun Q => ?_) (fun Q => ?_)
          ·refine ug z z (wY (yf fo28_3 z) z (ug z z (wY (yl ty9 z z (j.cell 3 _ z)) z (ug z z (wY (Y.eql_s (b := []) z z) z (wY (Y.pick (b := true) z z) z (WL.ren (v' := vB ((decide (a0.Key = [])) && (decide (a0.To = [])))) 86 z (congrArg vB (andT Q)) ?_)))))))
           exact nl (At.join () z (.cons z (.cons z .nil)))
          ·refine WL.gS z z z z (WL.gS z z z z (WL.gS z z z z (wY (Y.pick (b := false) z z) z (WL.ren (v' := vB ((decide (a0.Key = [])) && (decide (a0.To = [])))) 86 z (congrArg vB (andF Q)) ?_))))
           exact nl (At.join () z (.cons z (.cons z .nil)))
         ·rintro _ _ rfl
          refine (show WL _ _ _ _ _ [(1, pt m 0), (86, vB ((decide (a0.Key = [])) && (decide (a0.To = []))))] _ from ?_)
          refine wY (ym z) z ?_
          refine WL.cut 4 (σ := Unit) (fun _ w' => r = w') (fun _ => [(91, vB (((decide (a0.Key = [])) && (decide (a0.To = []))) && (decide (a0.Val = []))))]) ?_ ?_
          ·refine WL.part 87 z (fun S => ?_) (fun S => ?_)
           ·refine ug z z (wY (yf fo28_4 z) z (ug z z (wY (yl ty9 z z (j.cell 4 _ z)) z (ug z z (wY (Y.eql_s (b := []) z z) z (wY (Y.pick (b := true) z z) z (WL.ren (v' := vB (((decide (a0.Key = [])) && (decide (a0.To = []))) && (decide (a0.Val = [])))) 91 z (congrArg vB (andT S)) ?_)))))))
            exact nl (At.join () z (.cons z .nil))
           ·refine WL.gS z z z z (WL.gS z z z z (WL.gS z z z z (wY (Y.pick (b := false) z z) z (WL.ren (v' := vB (((decide (a0.Key = [])) && (decide (a0.To = []))) && (decide (a0.Val = [])))) 91 z (congrArg vB (andF S)) ?_))))
            exact nl (At.join () z (.cons z .nil))
          ·rintro _ _ rfl
           refine (show WL _ _ _ _ _ [(91, vB (((decide (a0.Key = [])) && (decide (a0.To = []))) && (decide (a0.Val = []))))] _ from ?_)
           obtain ⟨aq, am, h⟩ := lt1 h
           refine WL.yE (ya z) (congrArg vB am.symm) z (nl (At.inBlock ?_))
           exact At.join (σ := (Bool × Own)) (aq, D) ⟨some1 h, (sr_ _ _ _)⟩ (.cons z .nil)
        ·refine WC.condF' z M (rg (wY (ym z) z (wY (ym z) z ?_)))
         refine WL.cut 4 (σ := Unit) (fun _ w' => r = w') (fun _ => [(1, pt m 0), (40, vB (o && (decide (a0.To = []))))]) ?_ ?_
         ·refine WL.part 36 z (fun T => ?_) (fun T => ?_)
          ·refine ug z z (wY (yf fo28_3 z) z (ug z z (wY (yl ty9 z z (j.cell 3 _ z)) z (ug z z (wY (Y.eql_s (b := []) z z) z (wY (Y.pick (b := true) z z) z (WL.ren (v' := vB (o && (decide (a0.To = [])))) 40 z (congrArg vB (andT T)) ?_)))))))
           exact nl (At.join () z (.cons z (.cons z .nil)))
          ·refine WL.gS z z z z (WL.gS z z z z (WL.gS z z z z (wY (Y.pick (b := false) z z) z (WL.ren (v' := vB (o && (decide (a0.To = [])))) 40 z (congrArg vB (andF T)) ?_))))
           exact nl (At.join () z (.cons z (.cons z .nil)))
         ·rintro _ _ rfl
          refine (show WL _ _ _ _ _ [(1, pt m 0), (40, vB (o && (decide (a0.To = []))))] _ from ?_)
          refine wY (ym z) z ?_
          refine WL.cut 4 (σ := Unit) (fun _ w' => r = w') (fun _ => [(45, vB ((o && (decide (a0.To = []))) && (decide (a0.Val = []))))]) ?_ ?_
          ·refine WL.part 41 z (fun U => ?_) (fun U => ?_)
           ·refine ug z z (wY (yf fo28_4 z) z (ug z z (wY (yl ty9 z z (j.cell 4 _ z)) z (ug z z (wY (Y.eql_s (b := []) z z) z (wY (Y.pick (b := true) z z) z (WL.ren (v' := vB ((o && (decide (a0.To = []))) && (decide (a0.Val = [])))) 45 z (congrArg vB (andT U)) ?_)))))))
            exact nl (At.join () z (.cons z .nil))
           ·refine WL.gS z z z z (WL.gS z z z z (WL.gS z z z z (wY (Y.pick (b := false) z z) z (WL.ren (v' := vB ((o && (decide (a0.To = []))) && (decide (a0.Val = [])))) 45 z (congrArg vB (andF U)) ?_))))
            exact nl (At.join () z (.cons z .nil))
          ·rintro _ _ rfl
           refine (show WL _ _ _ _ _ [(45, vB ((o && (decide (a0.To = []))) && (decide (a0.Val = []))))] _ from ?_)
           obtain ⟨ar, an, h⟩ := lt1 h
           refine WL.yE (ya z) (congrArg vB an.symm) z (nl (At.inBlock ?_))
           exact At.join (σ := (Bool × Own)) (ar, D) ⟨some1 h, (sr_ _ _ _)⟩ (.cons z .nil)
     ·rintro ⟨aC, aP⟩ aD ⟨rfl, V⟩
      replace h := a1
      try dsimp only at h V
      refine (show At _ _ _ [(6, vB aC)] _ from ?_)
      refine th (sq (sq (rg (wY (ym z) z (wY (Y.not z) z (nl (th ?_)))))))
      rcases cnd h with ⟨W, h⟩ | ⟨W, h⟩
      ·refine WC.condT' z W (sq (rg (wY (ya z) z (nl (th (rt (At.thenR ?_)))))))
       obtain rfl := some1 h
       have aM : Stp [] (Lg.O0 A) w aP aD := (tr_ (su_ t z) (tr_ (su_ F z) (tr_ (su_ G z) (su_ V z))))
       exact At.res (.inl z) z (.tmp z .nil) ⟨z, (se_ aM z z)⟩
      ·refine WC.condF' z W (sk (th (sq (rg (wY (ya z) z (nl (th (rt ?_))))))))
       obtain rfl := some1 h
       have aN : Stp [] (Lg.O0 A) w aP aD := (tr_ (su_ t z) (tr_ (su_ F z) (tr_ (su_ G z) (su_ V z))))
       exact At.res (.inl z) z (.tmp z .nil) ⟨z, (se_ aN z z)⟩
theorem c_relabel_Compile {A : Nat → Prop} {a0 : List api_Rule} {v0 : Value} {w : World} (hs0 : Sl rep_api_Rule w A v0 a0) (hG0 : CellsAt w 0 0 [vi 0, vi 0]) (hGA0 : A 0) {r0 : Option relabel_Rules} {r1 : Int} {r2 : Int} (h : relabel_Compile a0 = some (r0, r1, r2)) : Rets Tryd.prog 11 [v0] w (fun v w' => ∃ (u0 : Value), v = tp [u0, vi r1, vi r2] ∧ Ext w w' ∧ OptP u0 r0 fun d => ∃ (p0 : Nat) (an : Value), u0 = .pointer (some ⟨p0, 0, none⟩) ∧ (w'.heap[p0]? = some (.cells (List.toArray [an]) 71 (0, 0)) ∧ w.heap.size ≤ p0) ∧ Sl rep_relabel_rule w' (fun k => w.heap.size ≤ k ∧ k ≠ p0) an d.l) := by
 unfold relabel_Compile at h
 refine Rets.enter Tryd.func11 z z ?_
 have ao : Sl rep_api_Rule w (imm (Lg.O0 A)) v0 a0 := (Sl.start hs0)
 have bz : CAt [0, 1] (Lg.O0 A) w 0 0 [vi 0, vi 0] := CAt.glob hG0 (if_pos hGA0)
 refine (show WC _ _ _ _ [(0, v0)] _ from ?_)
 refine sq (rg (wY (ya z) z (wY (ya z) z (wY (ya z) z (nl (th (sq (sq (rg ?_)))))))))
 refine wY (ym z) z (wY (Y.len ty22 z ao) z (wY (Y.gtr_i z z) z (nl (th ?_))))
 rcases cnd h with ⟨X, h⟩ | ⟨X, h⟩
 ·refine WC.condT' z X (sq (rg (wY (ya z) z (wY (ya z) z (wY (ya z) z (nl (th (rt (At.thenR ?_)))))))))
  obtain ⟨rfl, rfl, rfl⟩ := tup3 h
  have bA : Stp [] (Lg.O0 A) w (Lg.O0 A) w := (sr_ _ _ _)
  exact At.res (.inl z) z (.tmp z (.tmp z (.tmp z .nil))) ⟨Value.pointer none, z, (se_ bA z z), z⟩
 ·refine WC.condF' z X (sk (th (sq (rg (wY (yb (vals := []) (cells := [sn]) (fe_ z) (by kernel_rfl)) z (WL.box (O := (Lg.O0 A)) 11 [sn] z z z ?_))))))
  intro K ap aq G bB
  refine wY (ya z) z (nl (th (sq (sq (rg (wY (ym z) z ?_))))))
  have ar := ao.i G z z
  refine wY (Y.len ty22 z ar) z (wY (ym z) z (nl (th (WC.block ?_))))
  obtain ⟨bp, h, au⟩ := flow1 h
  obtain ⟨bq, h⟩ := loop_some h
  refine WC.joinB 0 (σ := (List relabel_rule × Own × Value)) (fun x w' => bp = .go x.1 ∧ Stp [11, 12, 13, 15, 1001] ap aq x.2.1 w' ∧ OwnSl 1002 (frR rep_relabel_rule w.heap.size) 73 x.2.1 w' x.2.2 x.1 ∧ Blk 11 x.2.1 w' K 71 [x.2.2]) (fun x => [(5, pt K 0)]) ?_ ?_
  ·refine WC.loop (σ := (List relabel_rule × Int × Own × Value)) (fun x k w' => loopN k (relabel_Compile_lp1 a0) (x.1, x.2.1) = some bp ∧ Stp [11, 12, 13, 15, 1001] ap aq x.2.2.1 w' ∧ OwnSl 1001 (frR rep_relabel_rule w.heap.size) 73 x.2.2.1 w' x.2.2.2 x.1 ∧ Blk 11 x.2.2.1 w' K 71 [x.2.2.2]) (fun x => [(5, pt K 0), (17, v0), (18, vi (a0.length : Int)), (19, vi x.2.1)]) ([], 0, ap, sn) bq (.cons z (.cons z (.cons z (.cons z .nil)))) ⟨h, (sr_ _ _ _), (OwnSl.nil 1001 (frR rep_relabel_rule w.heap.size) 73), bB⟩ ?_
   rintro ⟨b2, br, b3, b4⟩ bq ck ⟨h, o, Z, S⟩
   obtain ⟨b5, cx, rfl, h, aa⟩ := rnd1 h
   unfold relabel_Compile_lp1 at h
   try dsimp only at h o Z S
   refine (show WC _ _ _ _ [(5, pt K 0), (17, v0), (18, vi (a0.length : Int)), (19, vi br)] _ from ?_)
   refine sq (rg (wY (Y.lss_i z z) z (nl (th (sq ?_)))))
   rcases cnd h with ⟨ab, h⟩ | ⟨ab, h⟩
   ·refine WC.condT' z ab (sk (th (sq (WC.block (sq (rg (wY (ym z) z ?_)))))))
    obtain ⟨j, bC, h⟩ := bnd h
    have bD := ar.i o z z
    obtain ⟨cy, cd, ce, cl, bE, bF, bG, ac, aI, bH⟩ := Sl.at2 bD bC
    obtain ⟨_, _, rfl, rfl, ⟨_, _, rfl, rfl, ⟨_, _, rfl, rfl, ⟨_, _, rfl, rfl, rfl⟩⟩⟩⟩ := aI
    replace ac : CellsAt _ _ _ [vi j.Kind, vs j.Key, vs j.Glob, vs j.To, vs j.Val] := ac
    have aJ := CAt.imm ac bH
    refine wY (Y.indexAddr ty22 ty28 z bE z bF bG) z (wY (yL ty28 z z aJ.at_ z) z (WL.alloc (O := b3) 12 [vi 0, vs [], vs [], vs [], vs []] ty28 z z ?_))
    intro cz b6 cm r bI
    refine wY (ya z) z (WL.store (v := ag [vi j.Kind, vs j.Key, vs j.Glob, vs j.To, vs j.Val]) (cells' := [vi j.Kind, vs j.Key, vs j.Glob, vs j.To, vs j.Val]) ty28 z z bI z (le_ z) z z ?_)
    intro cn t av
    refine nl (th (sq (sq (rg (wY (yL ty28 z z (av.cells 0 [vi j.Kind, vs j.Key, vs j.Glob, vs j.To, vs j.Val] z) z) z ?_)))))
    have ax := (((bz.st G z).st o z).st r z).st t z
    obtain ⟨cA, bM, h⟩ := bnd h
    refine WL.call (vals := [ag [vi j.Kind, vs j.Key, vs j.Glob, vs j.To, vs j.Val]]) kok10 z z (c_relabel_Check (A := fun _ => True) (a0 := j) ax.at_ trivial bM) ?_
    rintro co bO ⟨rfl, bP⟩
    obtain ⟨bs, b7, b8, m⟩ := adoptE b6 (fun k => 1) bP
    refine wY (ya z) z (nl (th (sq (rg (wY (ym z) z (wY (Y.neq_i z z) z (nl (th ?_))))))))
    rcases cnd h with ⟨ad, h⟩ | ⟨ad, h⟩
    ·refine WC.condT' z ad (sq (rg (wY (ym z) z (wY (ym z) z (wY (ya z) z (wY (ya z) z (wY (ya z) z (nl (th ?_)))))))))
     refine rt (At.thenR (At.inBlockR (At.thenR (At.loopR ?_))))
     have h := outr1 h aa au
     refine At.joinBR (At.inBlockR (At.thenR ?_))
     obtain ⟨rfl, rfl, rfl⟩ := tup3 h
     have bQ : Stp [11, 12, 13, 15, 1001] (Lg.O0 A) w bs bO := (tr_ (su_ G z) (tr_ (su_ o z) (tr_ (su_ r z) (tr_ (su_ t z) (su_ m z)))))
     exact At.res (.inl z) z (.tmp z (.tmp z (.tmp z .nil))) ⟨Value.pointer none, z, (se_ bQ z z), z⟩
    ·refine WC.condF' z ad (sk (th (sq (rg (wY (yf fo28_2 z) z ?_)))))
     have ay := av.st m z
     refine wY (yl ty9 z z (ay.cell 2 _ z)) z ?_
     have bR := ax.st m z
     obtain ⟨⟨bt, cC, cD⟩, bS, h⟩ := bnd h
     refine WL.call (vals := [vs j.Glob]) kok26 z z (c_glob_Compile (A := fun _ => True) bR.at_ trivial bS) ?_
     rintro cq bT ⟨b9, rfl, bU, bu⟩
     obtain ⟨bw, ca, U, H⟩ := adoptE bs (labP b9 13) bU
     refine wY (ym z) z (wY (yx z z) z (wY (yx z z) z (wY (yx z z) z (wY (ya z) z (wY (ya z) z (wY (ya z) z (nl (th (WC.drawH [13, 1001] [0, 1, 2, 3, 4, 5, 6, 7, 8, 9, 10, 11] bw 13 fmix z (by kernel_rfl) ?_)))))))))
     intro bW D
     refine WD.y 0 z (by kernel_rfl) (fun _ _ _ => ym z) z (WD.y 1 z (by kernel_rfl) (fun _ _ _ => ym z) z (WD.y 2 z (by kernel_rfl) (fun _ _ _ => yn z) z (WD.y 3 z (by kernel_rfl) (fun _ _ _ => yf fo71_0 z) z (WD.y 4 z (by kernel_rfl) (fun cf cr az => have aK := S.st r z; have aL := aK.st t z; have aM := aL.st m z; have aN := aM.st H z; have aO := aN.st D z; have aP := aO.st az z; yl ty69 z z (aP.cell 0 _ z)) z (WD.y 5 z (by kernel_rfl) (fun cg cs aA => have aQ := ay.st H z; have aR := aQ.st D z; have aS := aR.st aA z; yL ty28 z z (aS.cells 0 [vi j.Kind, vs j.Key, vs j.Glob, vs j.To, vs j.Val] z) z) z (WD.y 6 z (by kernel_rfl) (fun _ _ _ => ym z) z ?_))))))
     have aT := h
     obtain ⟨I, rfl, _⟩ := OptP.isPtr bu (fun d hd => by obtain ⟨_, _, e, _⟩ := hd; exact ⟨_, e⟩)
     have h := aT
     refine WD.y 7 z (by kernel_rfl) (fun _ _ _ => yb (vals := [(0, ag [vi j.Kind, vs j.Key, vs j.Glob, vs j.To, vs j.Val]), (1, (Value.pointer I))]) (cells := [vi j.Kind, vs j.Key, vs j.Glob, vs j.To, vs j.Val, (Value.pointer I)]) (fe_ z) (by kernel_rfl)) z (WD.heavy 8 z (by kernel_rfl) ?_)
     have aU : Pr rep_glob_Glob 96 bT (lbs 13 bw) (Value.pointer I) bt := OptP.pr bu (fun d hd => by obtain ⟨ae, bX, eqp, aj, bY⟩ := hd; cases eqp; exact ⟨ae, _, rfl, .inr ((U ae aj.2).trans (labP_at ae 13)), aj.1, ⟨[vs d.text], [bX], rfl, rfl, ⟨_, rfl, (Sl.mono (Sl.adoptF bY (fun k hk => ⟨hk.1, labP_ne hk.2⟩) U) frs_lbs)⟩⟩⟩)
     have aW := aU.mono (lbs_st D z z)
     obtain ⟨aC, F, aX⟩ := Pr.give rfl aW
     have aY : Stp [11, 12, 13, 15, 1001] (Lg.O0 A) w aC bW := (tr_ (su_ G z) (tr_ (su_ o z) (tr_ (su_ r z) (tr_ (su_ t z) (tr_ (su_ m z) (tr_ (su_ H z) (tr_ (su_ D z) (su_ F z))))))))
     refine WL.buildSlice (O := aC) (R := (frR rep_relabel_rule w.heap.size)) (vals := [(0, ag [vi j.Kind, vs j.Key, vs j.Glob, vs j.To, vs j.Val, (Value.pointer I)])]) 14 [vi j.Kind, vs j.Key, vs j.Glob, vs j.To, vs j.Val, (Value.pointer I)] (xs := [(relabel_rule.mk j bt)]) (by decide) ty69 ty73 (show 0 < rep_relabel_rule.n by decide) (show 1 * rep_relabel_rule.n ≤ 65536 by decide) (fe_ z) (by kernel_rfl) z ⟨[vi j.Kind, vs j.Key, vs j.Glob, vs j.To, vs j.Val, (Value.pointer I)], [], z, ⟨[vi j.Kind, vs j.Key, vs j.Glob, vs j.To, vs j.Val], [(Value.pointer I)], z, ⟨[vi j.Kind], [vs j.Key, vs j.Glob, vs j.To, vs j.Val], z, z, ⟨[vs j.Key], [vs j.Glob, vs j.To, vs j.Val], z, z, ⟨[vs j.Glob], [vs j.To, vs j.Val], z, z, ⟨[vs j.To], [vs j.Val], z, z, z⟩⟩⟩⟩, ⟨_, z, (Pr.frB aX aY low0)⟩⟩, z⟩ z ?_
     intro ct cu ch J aZ
     refine nl (At.dq (tr_ (su_ F z) (su_ J z)) (WD.heavy 9 z (by kernel_rfl) ?_))
     obtain ⟨a1, aD, h⟩ := bnd h
     have a8 := ((((((Z.st r z z z).st t z z z).st m z z z).st H z z z).st D z z z).st F z z z).st J z z z
     refine WL.append (by decide) ty69 ty73 z (by decide) z z a8 aZ.src aD z ?_
     intro cw bZ ci M ak
     refine nl (At.dq (su_ M z) (WD.y 10 z (by kernel_rfl) (fun _ _ _ => yn z) z (WD.y 11 z (by kernel_rfl) (fun _ _ _ => yf fo71_0 z) z (WD.phase [11] [0, 1, 2, 3, 4, 5, 6, 7, 8, 9, 10, 11, 12] (by kernel_rfl) (by kernel_rfl) (WD.heavy 12 z (by kernel_rfl) ?_)))))
     have a9 := h
     obtain ⟨af, ah, ai, rfl⟩ := ak.shape
     have h := a9
     have bi := (((((((S.st r z).st t z).st m z).st H z).st D z).st F z).st J z).st M z
     refine WL.store (v := (vl af ah ai)) (cells' := [(vl af ah ai)]) ty69 z z bi z (le_ z) z z ?_
     intro cj Q bj
     refine nl (At.dq (su_ Q z) (WD.done_ (by kernel_rfl) (At.inBlock (th (rg (wY (Y.add_i z z) z (wY (ym z) z (nl ?_))))))))
     have bk := ak.st Q z z z
     exact At.round (a1, w64 (br + 1), bZ, (vl af ah ai)) b5 (Nat.lt_succ_self _) ⟨next1 h aa, (tr_ (su_ o z) (tr_ (su_ r z) (tr_ (su_ t z) (tr_ (su_ m z) (tr_ (su_ H z) (tr_ (su_ D z) (tr_ (su_ F z) (tr_ (su_ J z) (tr_ (su_ M z) (su_ Q z)))))))))), bk, bj⟩ (.cons z (.cons z (.cons z (.cons z .nil))))
   ·refine WC.condF' z ab (WC.exit (At.thenX (At.loopX ?_)))
    obtain ⟨b0, V, bl⟩ := OwnSl.rlb 1002 rfl Z
    have bm := S.st V z
    exact At.hitB (σ := (List relabel_rule × Own × Value)) (b2, b0, b4) ⟨brk1 h aa, (tr_ (su_ o z) (su_ V z)), bl, bm⟩ (.cons z .nil)
  ·rintro ⟨cE, cb, cc⟩ aE ⟨rfl, T, aF, aG⟩
   replace h := flowK_go au
   try dsimp only at h T aF aG
   refine (show At _ _ _ [(5, pt K 0)] _ from ?_)
   refine At.inBlockHit (th (sq (rg (wY (ym z) z (wY (ya z) z (wY (ya z) z (wY (ya z) z (nl (th ?_)))))))))
   refine rt ?_
   obtain ⟨rfl, rfl, rfl⟩ := tup3 h
   have bn : Stp [11, 12, 13, 15, 1001] (Lg.O0 A) w cb aE := (tr_ (su_ G z) (su_ T z))
   obtain ⟨b1, W, bo⟩ := OwnSl.giveB rfl aF bn low0
   have al : Stp [11, 12, 13, 15, 1001, 1002] (Lg.O0 A) w b1 aE := (tr_ (su_ G z) (tr_ (su_ T z) (su_ W z)))
   have am := aG.st W z
   exact At.res (.inl z) z (.tmp z (.tmp z (.tmp z .nil))) ⟨pt K 0, z, (se_ al z z), ⟨K, cc, z, (Blk.outF am al low0 z), (Sl.outFNb bo am.lab z)⟩⟩
theorem c_relabel_Rules_Len {A : Nat → Prop} {v0_0 : Value} {a0 : relabel_Rules} {b0 : Nat} {w : World} (hs0_0 : Sl rep_relabel_rule w A v0_0 a0.l) (hb0 : w.heap[b0]? = some (.cells (List.toArray [v0_0]) 71 (0, 0))) (hm0 : A b0) {r0 : Int} (h : relabel_Rules_Len a0 = some r0) : Rets Tryd.prog 12 [pt b0 0] w (fun v w' => v = vi r0 ∧ Ext w w') := by
 unfold relabel_Rules_Len at h
 refine Rets.enter Tryd.func12 z z ?_
 have j : Sl rep_relabel_rule w (imm (Lg.O0 A)) v0_0 a0.l := (Sl.start hs0_0)
 have m : Blk 0 (Lg.O0 A) w b0 71 [v0_0] := ⟨(if_pos hm0), hb0⟩
 refine (show WC _ _ _ _ [(0, pt b0 0)] _ from ?_)
 refine sq (rg (wY (ya z) z (nl (th (sq (rg (wY (ym z) z (wY (yn z) z (wY (yf fo71_0 z) z ?_)))))))))
 refine wY (yl ty69 z z (m.cell 0 _ z)) z (wY (Y.len ty69 z j) z ?_)
 obtain ⟨t, o, h⟩ := lt1 h
 refine WL.yE (ya z) (congrArg vi o.symm) z (nl (th (rt ?_)))
 obtain rfl := some1 h
 have r : Stp [] (Lg.O0 A) w (Lg.O0 A) w := (sr_ _ _ _)
 exact At.res (.inl z) z (.tmp z .nil) ⟨z, (se_ r z z)⟩
theorem c_slices_Clone_api_Pair_api_Pair {A : Nat → Prop} {a0 : List api_Pair} {v0 : Value} {w : World} (hs0 : Sl rep_api_Pair w A v0 a0) {r0 : List api_Pair} (h : slices_Clone_api_Pair_api_Pair a0 = some r0) : Rets Tryd.prog 43 [v0] w (fun v w' => ∃ (r : Value), v = r ∧ Ext w w' ∧ RowF rep_api_Pair 59 w w' r r0) := by
  unfold slices_Clone_api_Pair_api_Pair at h
  refine Rets.enter Tryd.func43 z z ?_
  refine (show WC _ _ _ _ [(0, v0)] _ from ?_)
  refine sq (rg (wY (ya z) z (nl (th ?_))))
  refine sq (sq (rg ?_))
  refine wY (ym z) z ?_
  rcases hs0.nilOr with ⟨rfl, rfl⟩ | ⟨q, n, c, rfl⟩
  · refine wY (Y.slnil (p := none) (n := 0) (c := 0) ty33.u z z) z (nl (th ?_))
    refine WC.condT z (sq (rg (wY (ya z) z (nl (th (rt (At.thenR ?_)))))))
    have : r0 = [] := by simpa [app] using h.symm
    subst this
    exact At.res (.inl z) z (.tmp z .nil) ⟨_, z, Ext.refl w, RowF.nil⟩
  · refine wY (Y.slnil (p := some _) ty33.u z z) z (nl (th ?_))
    refine WC.condF z (sk (th ?_))
    refine sq (rg ?_)
    have hs := hs0
    refine WL.buildSlice (O := Lg.O0 A) (R := rep_api_Pair) (vals := []) 11 [] (xs := []) (by decide) ty33 ty59 (by decide) (by decide) (fe_ z) (by kernel_rfl) z z z ?_
    intro v I J j t
    refine wY (ym z) z ?_
    have D := (Sl.start hs).i j z z
    refine WL.append (by decide) ty33 ty59 z (by decide) z z t D.src h z ?_
    intro K G H o F
    refine wY (ya z) z (nl (th (rt ?_)))
    have m : Stp [11] (Lg.O0 A) w G H := (tr_ (su_ j z) o)
    exact At.res (.inl z) z (.tmp z .nil) ⟨_, z, se_ m z z, OwnSl.outF F m low0 z⟩
theorem c_slices_Clone_uint64_uint64 {A : Nat → Prop} {a0 : List UInt64} {v0 : Value} {w : World} (hs0 : Sl Rep.u w A v0 a0) {r0 : List UInt64} (h : slices_Clone_uint64_uint64 a0 = some r0) : Rets Tryd.prog 66 [v0] w (fun v w' => ∃ (r : Value), v = r ∧ Ext w w' ∧ RowF Rep.u 34 w w' r r0) := by
  unfold slices_Clone_uint64_uint64 at h
  refine Rets.enter Tryd.func66 z z ?_
  refine (show WC _ _ _ _ [(0, v0)] _ from ?_)
  refine sq (rg (wY (ya z) z (nl (th ?_))))
  refine sq (sq (rg ?_))
  refine wY (ym z) z ?_
  rcases hs0.nilOr with ⟨rfl, rfl⟩ | ⟨q, n, c, rfl⟩
  · refine wY (Y.slnil (p := none) (n := 0) (c := 0) ty35.u z z) z (nl (th ?_))
    refine WC.condT z (sq (rg (wY (ya z) z (nl (th (rt (At.thenR ?_)))))))
    have : r0 = [] := by simpa [app] using h.symm
    subst this
    exact At.res (.inl z) z (.tmp z .nil) ⟨_, z, Ext.refl w, RowF.nil⟩
  · refine wY (Y.slnil (p := some _) ty35.u z z) z (nl (th ?_))
    refine WC.condF z (sk (th ?_))
    refine sq (rg ?_)
    have hs := hs0
    refine WL.buildSlice (O := Lg.O0 A) (R := Rep.u) (vals := []) 11 [] (xs := []) (by decide) ty35 ty34 (by decide) (by decide) (fe_ z) (by kernel_rfl) z z z ?_
    intro v I J j t
    refine wY (ym z) z ?_
    have D := (Sl.start hs).i j z z
    refine WL.append (by decide) ty35 ty34 z (by decide) z z t D.src h z ?_
    intro K G H o F
    refine wY (ya z) z (nl (th (rt ?_)))
    have m : Stp [11] (Lg.O0 A) w G H := (tr_ (su_ j z) o)
    exact At.res (.inl z) z (.tmp z .nil) ⟨_, z, se_ m z z, OwnSl.outF F m low0 z⟩
theorem c_hist_Clone {A : Nat → Prop} {v0_3 : Value} {v0_5 : Value} {a0 : api_Hist} {w : World} (hs0_3 : Sl Rep.u w A v0_3 a0.Pos.Counts) (hs0_5 : Sl Rep.u w A v0_5 a0.Neg.Counts) {r0 : api_Hist} (h : hist_Clone a0 = some r0) : Rets Tryd.prog 44 [ag (hl a0 v0_3 v0_5)] w (fun v w' => ∃ (T : Value) (U : Value), v = ag (hl r0 T U) ∧ Ext w w' ∧ RowF Rep.u 34 w w' T r0.Pos.Counts ∧ RowF Rep.u 34 w w' U r0.Neg.Counts ∧ (∀ k, ob T = some k → ob U ≠ some k)) := by
 unfold hist_Clone at h
 refine Rets.enter Tryd.func44 z z ?_
 have aa : Sl Rep.u w (imm (Lg.O0 A)) v0_3 a0.Pos.Counts := (Sl.start hs0_3)
 have ab : Sl Rep.u w (imm (Lg.O0 A)) v0_5 a0.Neg.Counts := (Sl.start hs0_5)
 refine (show WC _ _ _ _ [(0, ag (hl a0 v0_3 v0_5))] _ from ?_)
 refine sq (rg ?_)
 have aN := h
 obtain ⟨aH, aI, aJ, rfl⟩ := aa.shape
 have h := aN
 have aO := h
 obtain ⟨ac, ad, ae, rfl⟩ := ab.shape
 have h := aO
 refine WL.box (O := (Lg.O0 A)) 11 (hl a0 (vl aH aI aJ) (vl ac ad ae)) z z z ?_
 intro bu bg bp Q V
 refine WL.alloc (O := bg) 12 hzr ty39 z z ?_
 intro bw aK bq r aP
 refine nl (th (sq (WC.drawH [] [0, 1, 2, 3, 4, 5, 6, 7, 8, 9] aK 14 fmix z (by kernel_rfl) ?_)))
 intro br j
 refine WD.y 0 z (by kernel_rfl) (fun _ _ _ => yf fo39_2 z) z (WD.y 1 z (by kernel_rfl) (fun _ _ _ => yf fo37_1 z) z (WD.y 2 z (by kernel_rfl) (fun bs bx al => have aQ := V.st r z; have aR := aQ.st j z; have aS := aR.st al z; yl ty35 z z (aS.cell 3 _ z)) z (WD.y 4 z (by kernel_rfl) (fun _ _ _ => yf fo39_3 z) z (WD.y 5 z (by kernel_rfl) (fun _ _ _ => yf fo37_1 z) z (WD.y 6 z (by kernel_rfl) (fun bt bz am => have aT := V.st r z; have aU := aT.st j z; have aW := aU.st am z; yl ty35 z z (aW.cell 5 _ z)) z (WD.heavy 3 z (by kernel_rfl) ?_))))))
 have aZ := ((aa.i Q z z).i r z z).i j z z
 obtain ⟨bh, a1, h⟩ := bnd h
 refine WL.call (vals := [(vl aH aI aJ)]) kok66 z z (c_slices_Clone_uint64_uint64 (A := fun _ => True) (Sl.all aZ) a1) ?_
 rintro af a2 ⟨_, rfl, a3, bi⟩
 obtain ⟨aL, bj, ah, G⟩ := adoptE aK (fun k => if ob af = some k then 13 else 1) a3
 have a4 : OwnSl 13 Rep.u 34 aL a2 af bh := RowF.adopt 13 Flat.u bi ah (fun k hk => if_pos hk)
 refine nl (At.dq (su_ G z) (WD.y 8 z (by kernel_rfl) (fun _ _ _ => yf fo39_2 z) z (WD.y 9 z (by kernel_rfl) (fun _ _ _ => yf fo37_1 z) z (WD.heavy 7 z (by kernel_rfl) ?_))))
 have a8 := (((ab.i Q z z).i r z z).i j z z).i G z z
 obtain ⟨bk, a9, h⟩ := bnd h
 refine WL.call (vals := [(vl ac ad ae)]) kok66 z z (c_slices_Clone_uint64_uint64 (A := fun _ => True) (Sl.all a8) a9) ?_
 rintro ai ba ⟨_, rfl, bb, bl⟩
 obtain ⟨aM, bm, aj, H⟩ := adoptE aL (fun k => if ob ai = some k then 14 else 1) bb
 have bc : OwnSl 14 Rep.u 34 aM ba ai bk := RowF.adopt 14 Flat.u bl aj (fun k hk => if_pos hk)
 refine nl (At.dq (su_ H z) (WD.phase [11] [0, 1, 2, 3, 4, 5, 6, 7, 8, 9, 10, 11, 12] (by kernel_rfl) (by kernel_rfl) (WD.heavy 10 z (by kernel_rfl) ?_)))
 have ak := a4.st H z z z
 have bd := h
 obtain ⟨I, J, K, rfl⟩ := ak.shape
 have h := bd
 have ap := (((V.st r z).st j z).st G z).st H z
 refine WL.store (v := (vl I J K)) (cells' := (hl a0 (vl I J K) (vl ac ad ae))) ty35 z z ap z (le_ z) z z ?_
 intro bn m aq
 refine nl (At.dq (su_ m z) (WD.y 11 z (by kernel_rfl) (fun _ _ _ => yf fo39_3 z) z (WD.y 12 z (by kernel_rfl) (fun _ _ _ => yf fo37_1 z) z (WD.phase [11] [0, 1, 2, 3, 4, 5, 6, 7, 8, 9, 10, 11, 12, 13] (by kernel_rfl) (by kernel_rfl) (WD.heavy 13 z (by kernel_rfl) ?_)))))
 have W := bc.st m z z z
 have ar := h
 obtain ⟨t, D, F, rfl⟩ := W.shape
 have h := ar
 refine WL.store (v := (vl t D F)) (cells' := (hl a0 (vl I J K) (vl t D F))) ty35 z z aq z (le_ z) z z ?_
 intro bo o au
 refine nl (At.dq (su_ o z) (WD.done_ (by kernel_rfl) (th (sq (rg (wY (yL ty39 z z (au.cells 0 (hl a0 (vl I J K) (vl t D F)) z) z) z ?_))))))
 have aA := ((((aP.st j z).st G z).st H z).st m z).st o z
 refine WL.store (v := ag (hl a0 (vl I J K) (vl t D F))) (cells' := (hl a0 (vl I J K) (vl t D F))) ty39 z z aA z (le_ z) z z ?_
 intro aC M aD
 refine nl (th (rt ?_))
 obtain rfl := some1 h
 have S : Stp [11, 12] (Lg.O0 A) w aM aC := (tr_ (su_ Q z) (tr_ (su_ r z) (tr_ (su_ j z) (tr_ (su_ G z) (tr_ (su_ H z) (tr_ (su_ m z) (tr_ (su_ o z) (su_ M z))))))))
 have X := ((ak.st m z z z).st o z z z).st M z z z
 have Z := (W.st o z z z).st M z z z
 exact At.res (.inl z) z (.cell z (aD.runAg 0 (hl a0 (vl I J K) (vl t D F)) ty39 z z z) .nil) ⟨(vl I J K), (vl t D F), z, (se_ S z z), (OwnSl.outF X S low0 z), (OwnSl.outF Z S low0 z), (ne_own X Z z)⟩
theorem c_point_Clone {A : Nat → Prop} {v0_1 : Value} {v0_13 : Value} {v0_15 : Value} {a0 : api_Point} {w : World} (hs0_1 : Sl rep_api_Pair w A v0_1 a0.Attrs) (hs0_13 : Sl Rep.u w A v0_13 a0.Hist.Pos.Counts) (hs0_15 : Sl Rep.u w A v0_15 a0.Hist.Neg.Counts) {r0 : api_Point} (h : point_Clone a0 = some r0) : Rets Tryd.prog 21 [ag (cp a0 v0_1 v0_13 v0_15)] w (fun v w' => ∃ (Z : Value) (I : Value) (J : Value), v = ag (cp r0 Z I J) ∧ Ext w w' ∧ RowF rep_api_Pair 59 w w' Z r0.Attrs ∧ RowF Rep.u 34 w w' I r0.Hist.Pos.Counts ∧ RowF Rep.u 34 w w' J r0.Hist.Neg.Counts ∧ (∀ k, ob Z = some k → ob I ≠ some k) ∧ (∀ k, ob Z = some k → ob J ≠ some k) ∧ (∀ k, ob I = some k → ob J ≠ some k)) := by
 unfold point_Clone at h
 refine Rets.enter Tryd.func21 z z ?_
 have al : Sl rep_api_Pair w (imm (Lg.O0 A)) v0_1 a0.Attrs := (Sl.start hs0_1)
 have am : Sl Rep.u w (imm (Lg.O0 A)) v0_13 a0.Hist.Pos.Counts := (Sl.start hs0_13)
 have an : Sl Rep.u w (imm (Lg.O0 A)) v0_15 a0.Hist.Neg.Counts := (Sl.start hs0_15)
 refine (show WC _ _ _ _ [(0, ag (cp a0 v0_1 v0_13 v0_15))] _ from ?_)
 refine sq (rg ?_)
 have aN := h
 obtain ⟨aI, aJ, aK, rfl⟩ := al.shape
 have h := aN
 have aO := h
 obtain ⟨ae, af, ah, rfl⟩ := am.shape
 have h := aO
 have aP := h
 obtain ⟨ai, aj, ak, rfl⟩ := an.shape
 have h := aP
 refine WL.box (O := (Lg.O0 A)) 11 (cp a0 (vl aI aJ aK) (vl ae af ah) (vl ai aj ak)) z z z ?_
 intro bB bl bu K aQ
 refine WL.alloc (O := bl) 12 [vs [], sn, vi 0, vi 0, vB false, vi 0, vi 0, vi 0, vu 0, vu 0, vi 0, vu 0, vi 0, sn, vi 0, sn, vi 0] ty41 z z ?_
 intro bC bm bw m aR
 refine nl (th (sq (rg (wY (yf fo41_1 z) z ?_))))
 have ao := aQ.st m z
 refine wY (yl ty33 z z (ao.cell 1 _ z)) z ?_
 have aT := (al.i K z z).i m z z
 obtain ⟨bn, aU, h⟩ := bnd h
 refine WL.call (vals := [(vl aI aJ aK)]) kok43 z z (c_slices_Clone_api_Pair_api_Pair (A := fun _ => True) (Sl.all aT) aU) ?_
 rintro ap aW ⟨_, rfl, aX, bo⟩
 obtain ⟨aL, bp, aq, o⟩ := adoptE bm (fun k => if ob ap = some k then 13 else 1) aX
 have ar : OwnSl 13 rep_api_Pair 59 aL aW ap bn := RowF.adopt 13 flat_api_Pair bo aq (fun k hk => if_pos hk)
 refine wY (yf fo41_1 z) z ?_
 have aY := h
 obtain ⟨F, G, H, rfl⟩ := ar.shape
 have h := aY
 have aZ := ao.st o z
 refine WL.store (v := (vl F G H)) (cells' := (cp a0 (vl F G H) (vl ae af ah) (vl ai aj ak))) ty33 z z aZ z (le_ z) z z ?_
 intro bx r au
 refine nl (th (sq (rg (wY (yf fo41_10 z) z (wY (yL ty39 z z (au.cells 10 (hl a0.Hist (vl ae af ah) (vl ai aj ak)) z) z) z ?_)))))
 have a4 := (((am.i K z z).i m z z).i o z z).i r z z
 have a8 := (((an.i K z z).i m z z).i o z z).i r z z
 obtain ⟨j, a9, h⟩ := bnd h
 refine WL.call (vals := [ag (hl a0.Hist (vl ae af ah) (vl ai aj ak))]) kok44 z z (c_hist_Clone (A := fun _ => True) (a0 := a0.Hist) (Sl.all a4) (Sl.all a8) a9) ?_
 rintro bz av ⟨ax, aM, rfl, ba, bq, br, bs⟩
 obtain ⟨ay, bt, ad, M⟩ := adoptE aL (fun k => if ob ax = some k then 14 else if ob aM = some k then 15 else 1) ba
 have az : OwnSl 14 Rep.u 34 ay av ax j.Pos.Counts := RowF.adopt 14 Flat.u bq ad (fun k hk => if_pos hk)
 have aA : OwnSl 15 Rep.u 34 ay av aM j.Neg.Counts := RowF.adopt 15 Flat.u br ad (fun k hk => (if_neg (fun (e : ob ax = some k) => bs k e hk)).trans (if_pos hk))
 refine wY (yf fo41_10 z) z ?_
 have bb := h
 obtain ⟨S, T, U, rfl⟩ := az.shape
 have h := bb
 have bc := h
 obtain ⟨V, W, X, rfl⟩ := aA.shape
 have h := bc
 have bd := au.st M z
 refine WL.store (v := ag (hl j (vl S T U) (vl V W X))) (cells' := [vs a0.Name, (vl F G H), vi a0.Kind, vi a0.Temp, vB a0.Mono, vi a0.Start, vi a0.Time, vi a0.Int_, vu a0.Re, vu a0.Im, vi j.Scale, vu j.Zero, vi j.Pos.Offset, (vl S T U), vi j.Neg.Offset, (vl V W X), vi a0.Flags]) ty39 z z bd z (le_ z) z z ?_
 intro bA t bf
 refine nl (th (sq (rg (wY (yL ty41 z z (bf.cells 0 [vs a0.Name, (vl F G H), vi a0.Kind, vi a0.Temp, vB a0.Mono, vi a0.Start, vi a0.Time, vi a0.Int_, vu a0.Re, vu a0.Im, vi j.Scale, vu j.Zero, vi j.Pos.Offset, (vl S T U), vi j.Neg.Offset, (vl V W X), vi a0.Flags] z) z) z ?_))))
 have bj := (((aR.st o z).st r z).st M z).st t z
 refine WL.store (v := ag [vs a0.Name, (vl F G H), vi a0.Kind, vi a0.Temp, vB a0.Mono, vi a0.Start, vi a0.Time, vi a0.Int_, vu a0.Re, vu a0.Im, vi j.Scale, vu j.Zero, vi j.Pos.Offset, (vl S T U), vi j.Neg.Offset, (vl V W X), vi a0.Flags]) (cells' := [vs a0.Name, (vl F G H), vi a0.Kind, vi a0.Temp, vB a0.Mono, vi a0.Start, vi a0.Time, vi a0.Int_, vu a0.Re, vu a0.Im, vi j.Scale, vu j.Zero, vi j.Pos.Offset, (vl S T U), vi j.Neg.Offset, (vl V W X), vi a0.Flags]) ty41 z z bj z (le_ z) z z ?_
 intro bk D aC
 refine nl (th (rt ?_))
 obtain rfl := some1 h
 have Q : Stp [11, 12] (Lg.O0 A) w ay bk := (tr_ (su_ K z) (tr_ (su_ m z) (tr_ (su_ o z) (tr_ (su_ r z) (tr_ (su_ M z) (tr_ (su_ t z) (su_ D z)))))))
 have aa := (((ar.st r z z z).st M z z z).st t z z z).st D z z z
 have ab := (az.st t z z z).st D z z z
 have ac := (aA.st t z z z).st D z z z
 exact At.res (.inl z) z (.cell z (aC.runAg 0 [vs a0.Name, (vl F G H), vi a0.Kind, vi a0.Temp, vB a0.Mono, vi a0.Start, vi a0.Time, vi a0.Int_, vu a0.Re, vu a0.Im, vi j.Scale, vu j.Zero, vi j.Pos.Offset, (vl S T U), vi j.Neg.Offset, (vl V W X), vi a0.Flags] ty41 z z z) .nil) ⟨(vl F G H), (vl S T U), (vl V W X), z, (se_ Q z z), (OwnSl.outF aa Q low0 z), (OwnSl.outF ab Q low0 z), (OwnSl.outF ac Q low0 z), (ne_own aa ab z), (ne_own aa ac z), (ne_own ab ac z)⟩
theorem c_point_kinds {A : Nat → Prop} {v0_1 : Value} {v0_13 : Value} {v0_15 : Value} {a0 : api_Point} {w : World} (hs0_1 : Sl rep_api_Pair w A v0_1 a0.Attrs) (hs0_13 : Sl Rep.u w A v0_13 a0.Hist.Pos.Counts) (hs0_15 : Sl Rep.u w A v0_15 a0.Hist.Neg.Counts) {r0 : Bool} (h : point_kinds a0 = some r0) : Rets Tryd.prog 50 [ag (cp a0 v0_1 v0_13 v0_15)] w (fun v w' => v = vB r0 ∧ Ext w w') := by
 unfold point_kinds at h
 refine Rets.enter Tryd.func50 z z ?_
 have K : Sl rep_api_Pair w (imm (Lg.O0 A)) v0_1 a0.Attrs := (Sl.start hs0_1)
 have M : Sl Rep.u w (imm (Lg.O0 A)) v0_13 a0.Hist.Pos.Counts := (Sl.start hs0_13)
 have Q : Sl Rep.u w (imm (Lg.O0 A)) v0_15 a0.Hist.Neg.Counts := (Sl.start hs0_15)
 refine (show WC _ _ _ _ [(0, ag (cp a0 v0_1 v0_13 v0_15))] _ from ?_)
 refine sq (rg ?_)
 have S := h
 obtain ⟨ai, aj, ak, rfl⟩ := K.shape
 have h := S
 have T := h
 obtain ⟨al, am, an, rfl⟩ := M.shape
 have h := T
 have U := h
 obtain ⟨ao, ap, aq, rfl⟩ := Q.shape
 have h := U
 refine WL.box (O := (Lg.O0 A)) 11 (cp a0 (vl ai aj ak) (vl al am an) (vl ao ap aq)) z z z ?_
 intro J I j m o
 refine wY (ya z) z (nl (th (sq (sq (rg (wY (yf fo41_2 z) z (wY (yl ty3 z z (o.cell 2 _ z)) z (nl (th ?_)))))))))
 refine WC.block (sq (rg (wY (Y.eql_i z z) z ?_)))
 obtain ⟨aA, V, h⟩ := lt1 h
 refine WL.yE (ya z) (congrArg vB V.symm) z (nl (th ?_))
 rcases cnd h with ⟨r, h⟩ | ⟨r, h⟩
 ·refine WC.condT' z r (sq (rg (wY (yf fo41_3 z) z (wY (yl ty3 z z (o.cell 3 _ z)) z (wY (Y.eql_i z z) z ?_)))))
  obtain ⟨aC, W, h⟩ := lt1 h
  refine WL.yE (ya z) (congrArg vB W.symm) z (nl (th (rt (At.inBlockR (At.thenR ?_)))))
  obtain rfl := some1 h
  have X : Stp [] (Lg.O0 A) w I j := (su_ m z)
  exact At.res (.inl z) z (.tmp z .nil) ⟨z, (se_ X z z)⟩
 ·refine WC.condF' z r (sq ?_)
  obtain ⟨ar, h, Z⟩ := bnd h
  refine WC.join (σ := Bool) (fun x w' => x = ar ∧ j = w') (fun x => [(1, pt J 0), (10, vB x)]) ?_ ?_
  ·refine sq (rg (wY (Y.eql_i z z) z ?_))
   obtain ⟨au, aa, h⟩ := lt1 h
   refine WL.yE (ya z) (congrArg vB aa.symm) z (nl (th ?_))
   rcases cnd h with ⟨t, h⟩ | ⟨t, h⟩
   ·refine WC.condT' z t (sk ?_)
    exact At.join (σ := Bool) au ⟨some1 h, z⟩ (.cons z (.cons z .nil))
   ·refine WC.condF' z t (sq (rg (wY (Y.eql_i z z) z ?_)))
    obtain ⟨av, ab, h⟩ := lt1 h
    refine WL.yE (ya z) (congrArg vB ab.symm) z (nl (th ?_))
    rcases cnd h with ⟨D, h⟩ | ⟨D, h⟩
    ·refine WC.condT' z D (sk ?_)
     exact At.join (σ := Bool) av ⟨some1 h, z⟩ (.cons z (.cons z .nil))
    ·refine WC.condF' z D (sq (rg (wY (Y.eql_i z z) z ?_)))
     obtain ⟨ax, ac, h⟩ := lt1 h
     refine WL.yE (ya z) (congrArg vB ac.symm) z (nl (th ?_))
     rcases cnd h with ⟨F, h⟩ | ⟨F, h⟩
     ·refine WC.condT' z F (sk ?_)
      exact At.join (σ := Bool) ax ⟨some1 h, z⟩ (.cons z (.cons z .nil))
     ·refine WC.condF' z F (rg (wY (Y.eql_i z z) z ?_))
      obtain ⟨ay, ad, h⟩ := lt1 h
      refine WL.yE (ya z) (congrArg vB ad.symm) z (nl ?_)
      exact At.join (σ := Bool) ay ⟨some1 h, z⟩ (.cons z (.cons z .nil))
  ·rintro az _ ⟨rfl, rfl⟩
   replace h := Z
   try dsimp only at h
   refine (show At _ _ _ [(1, pt J 0), (10, vB az)] _ from ?_)
   refine th ?_
   rcases cnd h with ⟨G, h⟩ | ⟨G, h⟩
   ·refine WC.condT' z G (sq (rg (wY (yf fo41_3 z) z (wY (yl ty3 z z (o.cell 3 _ z)) z (wY (Y.eql_i z z) z (wY (ym z) z ?_))))))
    refine WL.cut 4 (σ := Unit) (fun _ w' => j = w') (fun _ => [(22, vB ((decide (a0.Temp = 1)) || (decide (a0.Temp = 2))))]) ?_ ?_
    ·refine WL.part 18 z (fun H => ?_) (fun H => ?_)
     ·refine WL.gS z z z z (WL.gS z z z z (WL.gS z z z z (wY (Y.pick (b := true) z z) z (WL.ren (v' := vB ((decide (a0.Temp = 1)) || (decide (a0.Temp = 2)))) 22 z (congrArg vB (orT H)) ?_))))
      exact nl (At.join () z (.cons z .nil))
     ·refine ug z z (wY (yf fo41_3 z) z (ug z z (wY (yl ty3 z z (o.cell 3 _ z)) z (ug z z (wY (Y.eql_i z z) z (wY (Y.pick (b := false) z z) z (WL.ren (v' := vB ((decide (a0.Temp = 1)) || (decide (a0.Temp = 2)))) 22 z (congrArg vB (orF H)) ?_)))))))
      exact nl (At.join () z (.cons z .nil))
    ·rintro _ _ rfl
     refine (show WL _ _ _ _ _ [(22, vB ((decide (a0.Temp = 1)) || (decide (a0.Temp = 2))))] _ from ?_)
     obtain ⟨aD, ae, h⟩ := lt1 h
     refine WL.yE (ya z) (congrArg vB ae.symm) z (nl (th (rt (At.inBlockR (At.thenR ?_)))))
     obtain rfl := some1 h
     have af : Stp [] (Lg.O0 A) w I j := (su_ m z)
     exact At.res (.inl z) z (.tmp z .nil) ⟨z, (se_ af z z)⟩
   ·refine WC.condF' z G (sk (At.inBlock (th (sq (rg (wY (ya z) z (nl (th (rt ?_)))))))))
    obtain rfl := some1 h
    have ah : Stp [] (Lg.O0 A) w I j := (su_ m z)
    exact At.res (.inl z) z (.tmp z .nil) ⟨z, (se_ ah z z)⟩
theorem c_point_sum {A : Nat → Prop} {v0_1 : Value} {v0_13 : Value} {v0_15 : Value} {a0 : api_Point} {w : World} (hs0_1 : Sl rep_api_Pair w A v0_1 a0.Attrs) (hs0_13 : Sl Rep.u w A v0_13 a0.Hist.Pos.Counts) (hs0_15 : Sl Rep.u w A v0_15 a0.Hist.Neg.Counts) {r0 : Bool} (h : point_sum a0 = some r0) : Rets Tryd.prog 51 [ag (cp a0 v0_1 v0_13 v0_15)] w (fun v w' => v = vB r0 ∧ Ext w w') := by
 unfold point_sum at h
 refine Rets.enter Tryd.func51 z z ?_
 have t : Sl rep_api_Pair w (imm (Lg.O0 A)) v0_1 a0.Attrs := (Sl.start hs0_1)
 have D : Sl Rep.u w (imm (Lg.O0 A)) v0_13 a0.Hist.Pos.Counts := (Sl.start hs0_13)
 have F : Sl Rep.u w (imm (Lg.O0 A)) v0_15 a0.Hist.Neg.Counts := (Sl.start hs0_15)
 refine (show WC _ _ _ _ [(0, ag (cp a0 v0_1 v0_13 v0_15))] _ from ?_)
 refine sq (rg ?_)
 have G := h
 obtain ⟨M, Q, S, rfl⟩ := t.shape
 have h := G
 have H := h
 obtain ⟨T, U, V, rfl⟩ := D.shape
 have h := H
 have I := h
 obtain ⟨W, X, Z, rfl⟩ := F.shape
 have h := I
 refine WL.box (O := (Lg.O0 A)) 11 (cp a0 (vl M Q S) (vl T U V) (vl W X Z)) z z z ?_
 intro ab aa m r o
 refine wY (ya z) z (nl (th (sq (rg (wY (yf fo41_2 z) z (wY (yl ty3 z z (o.cell 2 _ z)) z (wY (Y.eql_i z z) z (wY (ym z) z ?_))))))))
 refine WL.cut 4 (σ := Unit) (fun _ w' => m = w') (fun _ => [(10, vB ((decide (a0.Kind = 1)) || (decide (a0.Kind = 2))))]) ?_ ?_
 ·refine WL.part 6 z (fun j => ?_) (fun j => ?_)
  ·refine WL.gS z z z z (WL.gS z z z z (WL.gS z z z z (wY (Y.pick (b := true) z z) z (WL.ren (v' := vB ((decide (a0.Kind = 1)) || (decide (a0.Kind = 2)))) 10 z (congrArg vB (orT j)) ?_))))
   exact nl (At.join () z (.cons z .nil))
  ·refine ug z z (wY (yf fo41_2 z) z (ug z z (wY (yl ty3 z z (o.cell 2 _ z)) z (ug z z (wY (Y.eql_i z z) z (wY (Y.pick (b := false) z z) z (WL.ren (v' := vB ((decide (a0.Kind = 1)) || (decide (a0.Kind = 2)))) 10 z (congrArg vB (orF j)) ?_)))))))
   exact nl (At.join () z (.cons z .nil))
 ·rintro _ _ rfl
  refine (show WL _ _ _ _ _ [(10, vB ((decide (a0.Kind = 1)) || (decide (a0.Kind = 2))))] _ from ?_)
  obtain ⟨ac, J, h⟩ := lt1 h
  refine WL.yE (ya z) (congrArg vB J.symm) z (nl (th (rt ?_)))
  obtain rfl := some1 h
  have K : Stp [] (Lg.O0 A) w aa m := (su_ r z)
  exact At.res (.inl z) z (.tmp z .nil) ⟨z, (se_ K z z)⟩
theorem c_point_times {A : Nat → Prop} {v0_1 : Value} {v0_13 : Value} {v0_15 : Value} {a0 : api_Point} {w : World} (hs0_1 : Sl rep_api_Pair w A v0_1 a0.Attrs) (hs0_13 : Sl Rep.u w A v0_13 a0.Hist.Pos.Counts) (hs0_15 : Sl Rep.u w A v0_15 a0.Hist.Neg.Counts) {r0 : Bool} (h : point_times a0 = some r0) : Rets Tryd.prog 52 [ag (cp a0 v0_1 v0_13 v0_15)] w (fun v w' => v = vB r0 ∧ Ext w w') := by
 unfold point_times at h
 refine Rets.enter Tryd.func52 z z ?_
 have H : Sl rep_api_Pair w (imm (Lg.O0 A)) v0_1 a0.Attrs := (Sl.start hs0_1)
 have I : Sl Rep.u w (imm (Lg.O0 A)) v0_13 a0.Hist.Pos.Counts := (Sl.start hs0_13)
 have J : Sl Rep.u w (imm (Lg.O0 A)) v0_15 a0.Hist.Neg.Counts := (Sl.start hs0_15)
 refine (show WC _ _ _ _ [(0, ag (cp a0 v0_1 v0_13 v0_15))] _ from ?_)
 refine sq (rg ?_)
 have K := h
 obtain ⟨X, Z, aa, rfl⟩ := H.shape
 have h := K
 have M := h
 obtain ⟨ab, ac, ad, rfl⟩ := I.shape
 have h := M
 have Q := h
 obtain ⟨ae, af, ah, rfl⟩ := J.shape
 have h := Q
 refine WL.box (O := (Lg.O0 A)) 11 (cp a0 (vl X Z aa) (vl ab ac ad) (vl ae af ah)) z z z ?_
 intro G F m o j
 refine wY (ya z) z (nl (th (sq (sq (rg (wY (yf fo41_5 z) z (wY (yl ty3 z z (j.cell 5 _ z)) z (wY (Y.lss_i z z) z (wY (ym z) z ?_)))))))))
 refine WL.cut 4 (σ := Unit) (fun _ w' => m = w') (fun _ => [(1, pt G 0), (10, vB ((decide (a0.Start < 0)) || (decide (4503599627370496 < a0.Time))))]) ?_ ?_
 ·refine WL.part 6 z (fun r => ?_) (fun r => ?_)
  ·refine WL.gS z z z z (WL.gS z z z z (WL.gS z z z z (wY (Y.pick (b := true) z z) z (WL.ren (v' := vB ((decide (a0.Start < 0)) || (decide (4503599627370496 < a0.Time)))) 10 z (congrArg vB (orT r)) ?_))))
   exact nl (At.join () z (.cons z (.cons z .nil)))
  ·refine ug z z (wY (yf fo41_6 z) z (ug z z (wY (yl ty3 z z (j.cell 6 _ z)) z (ug z z (wY (Y.gtr_i z z) z (wY (Y.pick (b := false) z z) z (WL.ren (v' := vB ((decide (a0.Start < 0)) || (decide (4503599627370496 < a0.Time)))) 10 z (congrArg vB (orF r)) ?_)))))))
   exact nl (At.join () z (.cons z (.cons z .nil)))
 ·rintro _ _ rfl
  refine (show WL _ _ _ _ _ [(1, pt G 0), (10, vB ((decide (a0.Start < 0)) || (decide (4503599627370496 < a0.Time))))] _ from ?_)
  refine nl (th ?_)
  rcases cnd h with ⟨t, h⟩ | ⟨t, h⟩
  ·refine WC.condT' z t (sq (rg (wY (ya z) z (nl (th (rt (At.thenR ?_)))))))
   obtain rfl := some1 h
   have S : Stp [] (Lg.O0 A) w F m := (su_ o z)
   exact At.res (.inl z) z (.tmp z .nil) ⟨z, (se_ S z z)⟩
  ·refine WC.condF' z t (sk (th (sq (sq (rg (wY (yf fo41_2 z) z (wY (yl ty3 z z (j.cell 2 _ z)) z (wY (Y.eql_i z z) z (nl ?_)))))))))
   refine th ?_
   rcases cnd h with ⟨D, h⟩ | ⟨D, h⟩
   ·refine WC.condT' z D (sq (rg (wY (yf fo41_5 z) z (wY (yl ty3 z z (j.cell 5 _ z)) z (wY (yf fo41_6 z) z (wY (yl ty3 z z (j.cell 6 _ z)) z (wY (Y.eql_i z z) z ?_)))))))
    obtain ⟨ai, T, h⟩ := lt1 h
    refine WL.yE (ya z) (congrArg vB T.symm) z (nl (th (rt (At.thenR ?_))))
    obtain rfl := some1 h
    have U : Stp [] (Lg.O0 A) w F m := (su_ o z)
    exact At.res (.inl z) z (.tmp z .nil) ⟨z, (se_ U z z)⟩
   ·refine WC.condF' z D (sk (th (sq (rg (wY (yf fo41_5 z) z (wY (yl ty3 z z (j.cell 5 _ z)) z (wY (yf fo41_6 z) z (wY (yl ty3 z z (j.cell 6 _ z)) z (wY (Y.lss_i z z) z ?_)))))))))
    obtain ⟨aj, V, h⟩ := lt1 h
    refine WL.yE (ya z) (congrArg vB V.symm) z (nl (th (rt ?_)))
    obtain rfl := some1 h
    have W : Stp [] (Lg.O0 A) w F m := (su_ o z)
    exact At.res (.inl z) z (.tmp z .nil) ⟨z, (se_ W z z)⟩
theorem c_point_bare {A : Nat → Prop} {v0_3 : Value} {v0_5 : Value} {a0 : api_Hist} {w : World} (hs0_3 : Sl Rep.u w A v0_3 a0.Pos.Counts) (hs0_5 : Sl Rep.u w A v0_5 a0.Neg.Counts) {r0 : Bool} (h : point_bare a0 = some r0) : Rets Tryd.prog 76 [ag (hl a0 v0_3 v0_5)] w (fun v w' => v = vB r0 ∧ Ext w w') := by
 unfold point_bare at h
 refine Rets.enter Tryd.func76 z z ?_
 have H : Sl Rep.u w (imm (Lg.O0 A)) v0_3 a0.Pos.Counts := (Sl.start hs0_3)
 have I : Sl Rep.u w (imm (Lg.O0 A)) v0_5 a0.Neg.Counts := (Sl.start hs0_5)
 refine (show WC _ _ _ _ [(0, ag (hl a0 v0_3 v0_5))] _ from ?_)
 refine sq (rg ?_)
 have J := h
 obtain ⟨U, V, W, rfl⟩ := H.shape
 have h := J
 have K := h
 obtain ⟨X, Z, aa, rfl⟩ := I.shape
 have h := K
 refine WL.box (O := (Lg.O0 A)) 11 (hl a0 (vl U V W) (vl X Z aa)) z z z ?_
 intro o ab m r j
 refine wY (ya z) z (nl (th (sq (rg (wY (yf fo39_0 z) z (wY (yl ty3 z z (j.cell 0 _ z)) z (wY (Y.eql_i z z) z (wY (ym z) z ?_))))))))
 refine WL.cut 4 (σ := Unit) (fun _ w' => m = w') (fun _ => [(1, pt o 0), (10, vB ((decide (a0.Scale = 0)) && (decide (a0.Zero = 0))))]) ?_ ?_
 ·refine WL.part 6 z (fun t => ?_) (fun t => ?_)
  ·refine ug z z (wY (yf fo39_1 z) z (ug z z (wY (yl ty34 z z (j.cell 1 _ z)) z (ug z z (wY (Y.eql_u (b := 0) z z) z (wY (Y.pick (b := true) z z) z (WL.ren (v' := vB ((decide (a0.Scale = 0)) && (decide (a0.Zero = 0)))) 10 z (congrArg vB (andT t)) ?_)))))))
   exact nl (At.join () z (.cons z (.cons z .nil)))
  ·refine WL.gS z z z z (WL.gS z z z z (WL.gS z z z z (wY (Y.pick (b := false) z z) z (WL.ren (v' := vB ((decide (a0.Scale = 0)) && (decide (a0.Zero = 0)))) 10 z (congrArg vB (andF t)) ?_))))
   exact nl (At.join () z (.cons z (.cons z .nil)))
 ·rintro _ _ rfl
  refine (show WL _ _ _ _ _ [(1, pt o 0), (10, vB ((decide (a0.Scale = 0)) && (decide (a0.Zero = 0))))] _ from ?_)
  refine wY (ym z) z ?_
  refine WL.cut 5 (σ := Unit) (fun _ w' => m = w') (fun _ => [(1, pt o 0), (16, vB (((decide (a0.Scale = 0)) && (decide (a0.Zero = 0))) && (decide (a0.Pos.Offset = 0))))]) ?_ ?_
  ·refine WL.part 11 z (fun D => ?_) (fun D => ?_)
   ·refine ug z z (wY (yf fo39_2 z) z (ug z z (wY (yf fo37_0 z) z (ug z z (wY (yl ty3 z z (j.cell 2 _ z)) z (ug z z (wY (Y.eql_i z z) z (wY (Y.pick (b := true) z z) z (WL.ren (v' := vB (((decide (a0.Scale = 0)) && (decide (a0.Zero = 0))) && (decide (a0.Pos.Offset = 0)))) 16 z (congrArg vB (andT D)) ?_)))))))))
    exact nl (At.join () z (.cons z (.cons z .nil)))
   ·refine WL.gS z z z z (WL.gS z z z z (WL.gS z z z z (WL.gS z z z z (wY (Y.pick (b := false) z z) z (WL.ren (v' := vB (((decide (a0.Scale = 0)) && (decide (a0.Zero = 0))) && (decide (a0.Pos.Offset = 0)))) 16 z (congrArg vB (andF D)) ?_)))))
    exact nl (At.join () z (.cons z (.cons z .nil)))
  ·rintro _ _ rfl
   refine (show WL _ _ _ _ _ [(1, pt o 0), (16, vB (((decide (a0.Scale = 0)) && (decide (a0.Zero = 0))) && (decide (a0.Pos.Offset = 0))))] _ from ?_)
   refine wY (ym z) z ?_
   refine WL.cut 5 (σ := Unit) (fun _ w' => m = w') (fun _ => [(1, pt o 0), (22, vB ((((decide (a0.Scale = 0)) && (decide (a0.Zero = 0))) && (decide (a0.Pos.Offset = 0))) && (decide (a0.Neg.Offset = 0))))]) ?_ ?_
   ·refine WL.part 17 z (fun F => ?_) (fun F => ?_)
    ·refine ug z z (wY (yf fo39_3 z) z (ug z z (wY (yf fo37_0 z) z (ug z z (wY (yl ty3 z z (j.cell 4 _ z)) z (ug z z (wY (Y.eql_i z z) z (wY (Y.pick (b := true) z z) z (WL.ren (v' := vB ((((decide (a0.Scale = 0)) && (decide (a0.Zero = 0))) && (decide (a0.Pos.Offset = 0))) && (decide (a0.Neg.Offset = 0)))) 22 z (congrArg vB (andT F)) ?_)))))))))
     exact nl (At.join () z (.cons z (.cons z .nil)))
    ·refine WL.gS z z z z (WL.gS z z z z (WL.gS z z z z (WL.gS z z z z (wY (Y.pick (b := false) z z) z (WL.ren (v' := vB ((((decide (a0.Scale = 0)) && (decide (a0.Zero = 0))) && (decide (a0.Pos.Offset = 0))) && (decide (a0.Neg.Offset = 0)))) 22 z (congrArg vB (andF F)) ?_)))))
     exact nl (At.join () z (.cons z (.cons z .nil)))
   ·rintro _ _ rfl
    refine (show WL _ _ _ _ _ [(1, pt o 0), (22, vB ((((decide (a0.Scale = 0)) && (decide (a0.Zero = 0))) && (decide (a0.Pos.Offset = 0))) && (decide (a0.Neg.Offset = 0))))] _ from ?_)
    refine wY (ym z) z ?_
    refine WL.cut 11 (σ := Unit) (fun _ w' => m = w') (fun _ => [(34, vB (((((decide (a0.Scale = 0)) && (decide (a0.Zero = 0))) && (decide (a0.Pos.Offset = 0))) && (decide (a0.Neg.Offset = 0))) && (decide (w64 ((a0.Pos.Counts.length : Int) + (a0.Neg.Counts.length : Int)) = 0))))]) ?_ ?_
    ·refine WL.part 23 z (fun G => ?_) (fun G => ?_)
     ·refine ug z z (wY (yf fo39_2 z) z (ug z z (wY (yf fo37_1 z) z (ug z z (wY (yl ty35 z z (j.cell 3 _ z)) z (ug z z ?_))))))
      have M := H.i r z z
      refine wY (Y.len ty35 z M) z (ug z z (wY (yf fo39_3 z) z (ug z z (wY (yf fo37_1 z) z (ug z z (wY (yl ty35 z z (j.cell 5 _ z)) z (ug z z ?_)))))))
      have Q := I.i r z z
      refine wY (Y.len ty35 z Q) z (ug z z (wY (Y.add_i z z) z (ug z z (wY (Y.eql_i z z) z (wY (Y.pick (b := true) z z) z (WL.ren (v' := vB (((((decide (a0.Scale = 0)) && (decide (a0.Zero = 0))) && (decide (a0.Pos.Offset = 0))) && (decide (a0.Neg.Offset = 0))) && (decide (w64 ((a0.Pos.Counts.length : Int) + (a0.Neg.Counts.length : Int)) = 0)))) 34 z (congrArg vB (andT G)) ?_))))))
      exact nl (At.join () z (.cons z .nil))
     ·refine WL.gS z z z z (WL.gS z z z z (WL.gS z z z z (WL.gS z z z z (WL.gS z z z z (WL.gS z z z z (WL.gS z z z z (WL.gS z z z z (WL.gS z z z z (WL.gS z z z z ?_)))))))))
      refine wY (Y.pick (b := false) z z) z (WL.ren (v' := vB (((((decide (a0.Scale = 0)) && (decide (a0.Zero = 0))) && (decide (a0.Pos.Offset = 0))) && (decide (a0.Neg.Offset = 0))) && (decide (w64 ((a0.Pos.Counts.length : Int) + (a0.Neg.Counts.length : Int)) = 0)))) 34 z (congrArg vB (andF G)) ?_)
      exact nl (At.join () z (.cons z .nil))
    ·rintro _ _ rfl
     refine (show WL _ _ _ _ _ [(34, vB (((((decide (a0.Scale = 0)) && (decide (a0.Zero = 0))) && (decide (a0.Pos.Offset = 0))) && (decide (a0.Neg.Offset = 0))) && (decide (w64 ((a0.Pos.Counts.length : Int) + (a0.Neg.Counts.length : Int)) = 0))))] _ from ?_)
     obtain ⟨ac, S, h⟩ := lt1 h
     refine WL.yE (ya z) (congrArg vB S.symm) z (nl (th (rt ?_)))
     obtain rfl := some1 h
     have T : Stp [] (Lg.O0 A) w ab m := (su_ r z)
     exact At.res (.inl z) z (.tmp z .nil) ⟨z, (se_ T z z)⟩
theorem c_point_own {A : Nat → Prop} {v0_1 : Value} {v0_13 : Value} {v0_15 : Value} {a0 : api_Point} {w : World} (hs0_1 : Sl rep_api_Pair w A v0_1 a0.Attrs) (hs0_13 : Sl Rep.u w A v0_13 a0.Hist.Pos.Counts) (hs0_15 : Sl Rep.u w A v0_15 a0.Hist.Neg.Counts) {r0 : Bool} (h : point_own a0 = some r0) : Rets Tryd.prog 53 [ag (cp a0 v0_1 v0_13 v0_15)] w (fun v w' => v = vB r0 ∧ Ext w w') := by
 unfold point_own at h
 refine Rets.enter Tryd.func53 z z ?_
 have aq : Sl rep_api_Pair w (imm (Lg.O0 A)) v0_1 a0.Attrs := (Sl.start hs0_1)
 have af : Sl Rep.u w (imm (Lg.O0 A)) v0_13 a0.Hist.Pos.Counts := (Sl.start hs0_13)
 have ah : Sl Rep.u w (imm (Lg.O0 A)) v0_15 a0.Hist.Neg.Counts := (Sl.start hs0_15)
 refine (show WC _ _ _ _ [(0, ag (cp a0 v0_1 v0_13 v0_15))] _ from ?_)
 refine sq (rg ?_)
 have ar := h
 obtain ⟨aR, aS, aT, rfl⟩ := aq.shape
 have h := ar
 have au := h
 obtain ⟨ai, aj, ak, rfl⟩ := af.shape
 have h := au
 have av := h
 obtain ⟨al, am, an, rfl⟩ := ah.shape
 have h := av
 refine WL.box (O := (Lg.O0 A)) 11 (cp a0 (vl aR aS aT) (vl ai aj ak) (vl al am an)) z z z ?_
 intro t F m j r
 refine wY (ya z) z (nl (th (sq (rg (wY (yf fo41_2 z) z (wY (yl ty3 z z (r.cell 2 _ z)) z (wY (Y.eql_i z z) z (wY (ym z) z ?_))))))))
 refine WL.cut 4 (σ := Unit) (fun _ w' => m = w') (fun _ => [(1, pt t 0), (11, vB ((decide (a0.Kind = 2)) || (decide (a0.Kind = 3))))]) ?_ ?_
 ·refine WL.part 7 z (fun H => ?_) (fun H => ?_)
  ·refine WL.gS z z z z (WL.gS z z z z (WL.gS z z z z (wY (Y.pick (b := true) z z) z (WL.ren (v' := vB ((decide (a0.Kind = 2)) || (decide (a0.Kind = 3)))) 11 z (congrArg vB (orT H)) ?_))))
   exact nl (At.join () z (.cons z (.cons z .nil)))
  ·refine ug z z (wY (yf fo41_2 z) z (ug z z (wY (yl ty3 z z (r.cell 2 _ z)) z (ug z z (wY (Y.eql_i z z) z (wY (Y.pick (b := false) z z) z (WL.ren (v' := vB ((decide (a0.Kind = 2)) || (decide (a0.Kind = 3)))) 11 z (congrArg vB (orF H)) ?_)))))))
   exact nl (At.join () z (.cons z (.cons z .nil)))
 ·rintro _ _ rfl
  refine (show WL _ _ _ _ _ [(1, pt t 0), (11, vB ((decide (a0.Kind = 2)) || (decide (a0.Kind = 3))))] _ from ?_)
  refine wY (ym z) z ?_
  refine WL.cut 4 (σ := Unit) (fun _ w' => m = w') (fun _ => [(1, pt t 0), (16, vB (((decide (a0.Kind = 2)) || (decide (a0.Kind = 3))) || (decide (a0.Kind = 5))))]) ?_ ?_
  ·refine WL.part 12 z (fun I => ?_) (fun I => ?_)
   ·refine WL.gS z z z z (WL.gS z z z z (WL.gS z z z z (wY (Y.pick (b := true) z z) z (WL.ren (v' := vB (((decide (a0.Kind = 2)) || (decide (a0.Kind = 3))) || (decide (a0.Kind = 5)))) 16 z (congrArg vB (orT I)) ?_))))
    exact nl (At.join () z (.cons z (.cons z .nil)))
   ·refine ug z z (wY (yf fo41_2 z) z (ug z z (wY (yl ty3 z z (r.cell 2 _ z)) z (ug z z (wY (Y.eql_i z z) z (wY (Y.pick (b := false) z z) z (WL.ren (v' := vB (((decide (a0.Kind = 2)) || (decide (a0.Kind = 3))) || (decide (a0.Kind = 5)))) 16 z (congrArg vB (orF I)) ?_)))))))
    exact nl (At.join () z (.cons z (.cons z .nil)))
  ·rintro _ _ rfl
   refine (show WL _ _ _ _ _ [(1, pt t 0), (16, vB (((decide (a0.Kind = 2)) || (decide (a0.Kind = 3))) || (decide (a0.Kind = 5))))] _ from ?_)
   obtain ⟨o, J, h⟩ := lt1 h
   refine WL.yE (ya z) (congrArg vB J.symm) z (nl (th (sq (WC.block (sq (sq (rg (wY (yf fo41_2 z) z (wY (yl ty3 z z (r.cell 2 _ z)) z ?_)))))))))
   refine wY (Y.neq_i z z) z (wY (ym z) z ?_)
   refine WL.cut 4 (σ := Unit) (fun _ w' => m = w') (fun _ => [(1, pt t 0), (3, vB o), (25, vB ((!decide (a0.Kind = 1)) && (!decide (a0.Int_ = 0))))]) ?_ ?_
   ·refine WL.part 21 z (fun K => ?_) (fun K => ?_)
    ·refine ug z z (wY (yf fo41_7 z) z (ug z z (wY (yl ty3 z z (r.cell 7 _ z)) z (ug z z (wY (Y.neq_i z z) z (wY (Y.pick (b := true) z z) z (WL.ren (v' := vB ((!decide (a0.Kind = 1)) && (!decide (a0.Int_ = 0)))) 25 z (congrArg vB (andT K)) ?_)))))))
     exact nl (At.join () z (.cons z (.cons z (.cons z .nil))))
    ·refine WL.gS z z z z (WL.gS z z z z (WL.gS z z z z (wY (Y.pick (b := false) z z) z (WL.ren (v' := vB ((!decide (a0.Kind = 1)) && (!decide (a0.Int_ = 0)))) 25 z (congrArg vB (andF K)) ?_))))
     exact nl (At.join () z (.cons z (.cons z (.cons z .nil))))
   ·rintro _ _ rfl
    refine (show WL _ _ _ _ _ [(1, pt t 0), (3, vB o), (25, vB ((!decide (a0.Kind = 1)) && (!decide (a0.Int_ = 0))))] _ from ?_)
    obtain ⟨a4, ax, h⟩ := lt1 h
    refine WL.yE (ya z) (congrArg vB ax.symm) z (nl (th ?_))
    rcases cnd h with ⟨M, h⟩ | ⟨M, h⟩
    ·refine WC.condT' z M (sk (th ?_))
     rcases cnd h with ⟨Q, h⟩ | ⟨Q, h⟩
     ·refine WC.condT' z Q (sq (rg (wY (ya z) z (nl (th (rt (At.inBlockR (At.thenR ?_))))))))
      obtain rfl := some1 h
      have ay : Stp [] (Lg.O0 A) w F m := (su_ j z)
      exact At.res (.inl z) z (.tmp z .nil) ⟨z, (se_ ay z z)⟩
     ·refine WC.condF' z Q (sk (At.inBlock (th (sq (rg (wY (ya z) z (nl (th (rt ?_)))))))))
      obtain rfl := some1 h
      have az : Stp [] (Lg.O0 A) w F m := (su_ j z)
      exact At.res (.inl z) z (.tmp z .nil) ⟨z, (se_ az z z)⟩
    ·refine WC.condF' z M (sq (rg (wY (ym z) z (wY (Y.not z) z (wY (ym z) z ?_)))))
     refine WL.cut 4 (σ := Unit) (fun _ w' => m = w') (fun _ => [(1, pt t 0), (32, vB ((!o) && (!decide (a0.Re = 0))))]) ?_ ?_
     ·refine WL.part 28 z (fun S => ?_) (fun S => ?_)
      ·refine ug z z (wY (yf fo41_8 z) z (ug z z (wY (yl ty34 z z (r.cell 8 _ z)) z (ug z z (wY (Y.neq_u (b := 0) z z) z (wY (Y.pick (b := true) z z) z (WL.ren (v' := vB ((!o) && (!decide (a0.Re = 0)))) 32 z (congrArg vB (andT S)) ?_)))))))
       exact nl (At.join () z (.cons z (.cons z .nil)))
      ·refine WL.gS z z z z (WL.gS z z z z (WL.gS z z z z (wY (Y.pick (b := false) z z) z (WL.ren (v' := vB ((!o) && (!decide (a0.Re = 0)))) 32 z (congrArg vB (andF S)) ?_))))
       exact nl (At.join () z (.cons z (.cons z .nil)))
     ·rintro _ _ rfl
      refine (show WL _ _ _ _ _ [(1, pt t 0), (32, vB ((!o) && (!decide (a0.Re = 0))))] _ from ?_)
      obtain ⟨a5, aA, h⟩ := lt1 h
      refine WL.yE (ya z) (congrArg vB aA.symm) z (nl (th ?_))
      rcases cnd h with ⟨T, h⟩ | ⟨T, h⟩
      ·refine WC.condT' z T (sk (th ?_))
       rcases cnd h with ⟨U, h⟩ | ⟨U, h⟩
       ·refine WC.condT' z U (sq (rg (wY (ya z) z (nl (th (rt (At.inBlockR (At.thenR ?_))))))))
        obtain rfl := some1 h
        have aC : Stp [] (Lg.O0 A) w F m := (su_ j z)
        exact At.res (.inl z) z (.tmp z .nil) ⟨z, (se_ aC z z)⟩
       ·refine WC.condF' z U (sk (At.inBlock (th (sq (rg (wY (ya z) z (nl (th (rt ?_)))))))))
        obtain rfl := some1 h
        have aD : Stp [] (Lg.O0 A) w F m := (su_ j z)
        exact At.res (.inl z) z (.tmp z .nil) ⟨z, (se_ aD z z)⟩
      ·refine WC.condF' z T (sq (rg (wY (yf fo41_2 z) z (wY (yl ty3 z z (r.cell 2 _ z)) z (wY (Y.neq_i z z) z (wY (ym z) z ?_))))))
       refine WL.cut 4 (σ := Unit) (fun _ w' => m = w') (fun _ => [(1, pt t 0), (40, vB ((!decide (a0.Kind = 5)) && (!decide (a0.Im = 0))))]) ?_ ?_
       ·refine WL.part 36 z (fun V => ?_) (fun V => ?_)
        ·refine ug z z (wY (yf fo41_9 z) z (ug z z (wY (yl ty34 z z (r.cell 9 _ z)) z (ug z z (wY (Y.neq_u (b := 0) z z) z (wY (Y.pick (b := true) z z) z (WL.ren (v' := vB ((!decide (a0.Kind = 5)) && (!decide (a0.Im = 0)))) 40 z (congrArg vB (andT V)) ?_)))))))
         exact nl (At.join () z (.cons z (.cons z .nil)))
        ·refine WL.gS z z z z (WL.gS z z z z (WL.gS z z z z (wY (Y.pick (b := false) z z) z (WL.ren (v' := vB ((!decide (a0.Kind = 5)) && (!decide (a0.Im = 0)))) 40 z (congrArg vB (andF V)) ?_))))
         exact nl (At.join () z (.cons z (.cons z .nil)))
       ·rintro _ _ rfl
        refine (show WL _ _ _ _ _ [(1, pt t 0), (40, vB ((!decide (a0.Kind = 5)) && (!decide (a0.Im = 0))))] _ from ?_)
        obtain ⟨a6, aE, h⟩ := lt1 h
        refine WL.yE (ya z) (congrArg vB aE.symm) z (nl (th ?_))
        rcases cnd h with ⟨W, h⟩ | ⟨W, h⟩
        ·refine WC.condT' z W (sk (th ?_))
         rcases cnd h with ⟨X, h⟩ | ⟨X, h⟩
         ·refine WC.condT' z X (sq (rg (wY (ya z) z (nl (th (rt (At.inBlockR (At.thenR ?_))))))))
          obtain rfl := some1 h
          have aF : Stp [] (Lg.O0 A) w F m := (su_ j z)
          exact At.res (.inl z) z (.tmp z .nil) ⟨z, (se_ aF z z)⟩
         ·refine WC.condF' z X (sk (At.inBlock (th (sq (rg (wY (ya z) z (nl (th (rt ?_)))))))))
          obtain rfl := some1 h
          have aG : Stp [] (Lg.O0 A) w F m := (su_ j z)
          exact At.res (.inl z) z (.tmp z .nil) ⟨z, (se_ aG z z)⟩
        ·refine WC.condF' z W (sq (rg (wY (yf fo41_2 z) z (wY (yl ty3 z z (r.cell 2 _ z)) z (wY (Y.neq_i z z) z (wY (ym z) z ?_))))))
         obtain ⟨aU, h, aH⟩ := bnd h
         refine WL.cut 5 (σ := (Bool × Own)) (fun x w' => x.1 = aU ∧ Stp [] F m x.2 w') (fun x => [(1, pt t 0), (49, vB x.1)]) ?_ ?_
         ·rcases cnd h with ⟨Z, h⟩ | ⟨Z, h⟩
          ·refine WL.ren 44 z (congrArg vB Z) (ug z z (wY (yf fo41_10 z) z (ug z z (wY (yL ty39 z z (r.cells 10 (hl a0.Hist (vl ai aj ak) (vl al am an)) z) z) z (ug z z ?_)))))
           have aI := af.i j z z
           have aJ := ah.i j z z
           obtain ⟨aW, aK, h⟩ := bnd h
           refine WL.call (vals := [ag (hl a0.Hist (vl ai aj ak) (vl al am an))]) kok76 z z (c_point_bare (A := fun _ => True) (a0 := a0.Hist) (Sl.all aI) (Sl.all aJ) aK) ?_
           rintro a2 a3 ⟨rfl, aL⟩
           obtain ⟨aX, aY, aZ, ap⟩ := adoptE F (fun k => 1) aL
           refine ug z z (wY (Y.not z) z (wY (Y.pick (b := true) z z) z ?_))
           exact nl (At.join (σ := (Bool × Own)) ((!aW), aX) ⟨some1 h, (su_ ap z)⟩ (.cons z (.cons z .nil)))
          ·refine WL.ren 44 z (congrArg vB Z) (WL.gS z z z z (WL.gS z z z z (WL.gS z z z z (WL.gS z z z z (wY (Y.pick (b := false) z z) z ?_)))))
           exact nl (At.join (σ := (Bool × Own)) (false, F) ⟨some1 h, (sr_ _ _ _)⟩ (.cons z (.cons z .nil)))
         ·rintro ⟨a1, ae⟩ G ⟨rfl, D⟩
          replace h := aH
          try dsimp only at h D
          refine (show WL _ _ _ _ _ [(1, pt t 0), (49, vB a1)] _ from ?_)
          refine wY (ya z) z (nl (th ?_))
          rcases cnd h with ⟨aa, h⟩ | ⟨aa, h⟩
          ·refine WC.condT' z aa (sk (th ?_))
           rcases cnd h with ⟨ab, h⟩ | ⟨ab, h⟩
           ·refine WC.condT' z ab (sq (rg (wY (ya z) z (nl (th (rt (At.inBlockR (At.thenR ?_))))))))
            obtain rfl := some1 h
            have aM : Stp [] (Lg.O0 A) w ae G := (tr_ (su_ j z) (su_ D z))
            exact At.res (.inl z) z (.tmp z .nil) ⟨z, (se_ aM z z)⟩
           ·refine WC.condF' z ab (sk (At.inBlock (th (sq (rg (wY (ya z) z (nl (th (rt ?_)))))))))
            obtain rfl := some1 h
            have aN : Stp [] (Lg.O0 A) w ae G := (tr_ (su_ j z) (su_ D z))
            exact At.res (.inl z) z (.tmp z .nil) ⟨z, (se_ aN z z)⟩
          ·refine WC.condF' z aa (rg (wY (yf fo41_11 z) z ?_))
           have ao := r.st D z
           refine wY (yl ty3 z z (ao.cell 16 _ z)) z (wY (Y.lss_i z z) z (wY (ym z) z ?_))
           refine WL.cut 4 (σ := Unit) (fun _ w' => G = w') (fun _ => [(57, vB ((decide (a0.Flags < 0)) || (decide (31 < a0.Flags))))]) ?_ ?_
           ·refine WL.part 53 z (fun ac => ?_) (fun ac => ?_)
            ·refine WL.gS z z z z (WL.gS z z z z (WL.gS z z z z (wY (Y.pick (b := true) z z) z (WL.ren (v' := vB ((decide (a0.Flags < 0)) || (decide (31 < a0.Flags)))) 57 z (congrArg vB (orT ac)) ?_))))
             exact nl (At.join () z (.cons z .nil))
            ·refine ug z z (wY (yf fo41_11 z) z (ug z z (wY (yl ty3 z z (ao.cell 16 _ z)) z (ug z z (wY (Y.gtr_i z z) z (wY (Y.pick (b := false) z z) z (WL.ren (v' := vB ((decide (a0.Flags < 0)) || (decide (31 < a0.Flags)))) 57 z (congrArg vB (orF ac)) ?_)))))))
             exact nl (At.join () z (.cons z .nil))
           ·rintro _ _ rfl
            refine (show WL _ _ _ _ _ [(57, vB ((decide (a0.Flags < 0)) || (decide (31 < a0.Flags))))] _ from ?_)
            obtain ⟨a7, aO, h⟩ := lt1 h
            refine WL.yE (ya z) (congrArg vB aO.symm) z (nl (th ?_))
            rcases cnd h with ⟨ad, h⟩ | ⟨ad, h⟩
            ·refine WC.condT' z ad (sq (rg (wY (ya z) z (nl (th (rt (At.inBlockR (At.thenR ?_))))))))
             obtain rfl := some1 h
             have aP : Stp [] (Lg.O0 A) w ae G := (tr_ (su_ j z) (su_ D z))
             exact At.res (.inl z) z (.tmp z .nil) ⟨z, (se_ aP z z)⟩
            ·refine WC.condF' z ad (sk (At.inBlock (th (sq (rg (wY (ya z) z (nl (th (rt ?_)))))))))
             obtain rfl := some1 h
             have aQ : Stp [] (Lg.O0 A) w ae G := (tr_ (su_ j z) (su_ D z))
             exact At.res (.inl z) z (.tmp z .nil) ⟨z, (se_ aQ z z)⟩
theorem c_num_Finite {a0 : UInt64} {w : World} {r0 : Bool} (h : num_Finite a0 = some r0) : Rets Tryd.prog 54 [vu a0] w (fun v w' => v = vB r0 ∧ Ext w w') := by
 unfold num_Finite at h
 refine Rets.enter Tryd.func54 z z ?_
 refine (show WC _ _ _ _ [(0, vu a0)] _ from ?_)
 refine sq (rg (wY (ya z) z (nl (th (sq (rg (wY (ym z) z (wY (Y.and_u (b := 9218868437227405312) z z) z (wY (Y.neq_u (b := 9218868437227405312) z z) z ?_)))))))))
 obtain ⟨o, j, h⟩ := lt1 h
 refine WL.yE (ya z) (congrArg vB j.symm) z (nl (th (rt ?_)))
 obtain rfl := some1 h
 have m : Stp [] (Lg.O0 (fun _ => False)) w (Lg.O0 (fun _ => False)) w := (sr_ _ _ _)
 exact At.res (.inl z) z (.tmp z .nil) ⟨z, (se_ m z z)⟩
theorem c_num_of {a0 : UInt64} {w : World} : Rets Tryd.prog 77 [vu a0] w (fun v w' => v = .float .f64 a0.toNat ∧ Ext w w') := by
  refine Rets.enter Tryd.func77 z z ?_
  refine (show WC _ _ _ _ [(0, vu a0)] _ from ?_)
  refine sq (rg (wY (ya (v := .float .f64 0) z) z (nl (th ?_))))
  refine sq (rg ?_)
  refine wY (ym z) z (wY (Y.ffrom xfrom_95 z) z ?_)
  refine wY (ya z) z (nl (th (rt ?_)))
  exact At.res (.inl z) z (.tmp z .nil) ⟨z, Ext.refl w⟩
theorem c_num_Less {a0 : UInt64} {a1 : UInt64} {w : World} {r0 : Bool} (h : num_Less a0 a1 = some r0) : Rets Tryd.prog 55 [vu a0, vu a1] w (fun v w' => v = vB r0 ∧ Ext w w') := by
  unfold num_Less at h
  obtain rfl := some1 h
  refine Rets.enter Tryd.func55 z z ?_
  refine (show WC _ _ _ _ [(0, vu a0), (1, vu a1)] _ from ?_)
  refine sq (rg (wY (ya (v := .bool false) z) z (nl (th ?_))))
  refine sq (rg ?_)
  refine wY (ym z) z (WL.call (vals := [vu a0]) kok77 z z (c_num_of) ?_)
  rintro K M ⟨rfl, o⟩
  obtain ⟨I, D, F, j⟩ := adoptE (Lg.O0 (fun _ => False)) (fun k => 1) o
  refine wY (ym z) z (WL.call (vals := [vu a1]) kok77 z z (c_num_of) ?_)
  rintro Q r ⟨rfl, t⟩
  obtain ⟨J, G, H, m⟩ := adoptE I (fun k => 1) t
  refine wY (Y.fless z z) z ?_
  refine wY (ya z) z (nl (th (rt ?_)))
  have hs : Stp [] (Lg.O0 (fun _ => False)) w J r := (tr_ (su_ j z) (su_ m z))
  exact At.res (.inl z) z (.tmp z .nil) ⟨z, se_ hs z z⟩
end Go.Lg
