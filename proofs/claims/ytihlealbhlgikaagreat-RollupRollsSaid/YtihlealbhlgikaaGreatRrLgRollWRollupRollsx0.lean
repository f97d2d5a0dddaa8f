/- The walks of RollupRolls and of what it calls, printed by gen.py. -/
import Derived.Test.YtihlealbhlgikaaGreatRrLgPart0
import Derived.Test.YtihlealbhlgikaaGreatRrLgPart2
import Derived.Test.YtihlealbhlgikaaGreatProg
set_option linter.unusedVariables false
namespace Go.Lg
open Go Go.Proofs
set_option maxRecDepth 100000
set_option maxHeartbeats 4000000
abbrev cp (p : api_Point) (a b c : Value) : List Value := [vs p.Name, a, vi p.Kind, vi p.Temp, .bool p.Mono, vi p.Start, vi p.Time, vi p.Int_, vu p.Re, vu p.Im, vi p.Hist.Scale, vu p.Hist.Zero, vi p.Hist.Pos.Offset, b, vi p.Hist.Neg.Offset, c, vi p.Flags]
abbrev hl (h : api_Hist) (a b : Value) : List Value := [vi h.Scale, vu h.Zero, vi h.Pos.Offset, a, vi h.Neg.Offset, b]
abbrev hzr : List Value := [vi 0, vu 0, vi 0, sn, vi 0, sn]
theorem fmix : Tryz.prog.follows .mixedOrders = true := by kernel_rfl
theorem ty3 : TyOk Tryz.prog 3 (.int .i64) 1 8 (.int .i64 0) := tyOk Tryz.underlying3 (by kernel_rfl)
theorem ty4 : TyOk Tryz.prog 4 .bool 1 1 (.bool false) := tyOk Tryz.underlying4 (by kernel_rfl)
theorem ty5 : TyOk Tryz.prog 5 (.int .u8) 1 1 (.int .u8 0) := tyOk Tryz.underlying5 (by kernel_rfl)
theorem ty9 : TyOk Tryz.prog 9 .string 1 16 (.string ⟨#[]⟩) := tyOk Tryz.underlying9 (by kernel_rfl)
theorem ty22 : TyOk Tryz.prog 22 (.slice 40) 1 24 (.slice none 0 0) := tyOk Tryz.underlying22 (by kernel_rfl)
theorem ty25 : TyOk Tryz.prog 25 (.int .i64) 1 8 (.int .i64 0) := tyOk Tryz.underlying25 (by kernel_rfl)
theorem ty29 : TyOk Tryz.prog 29 (.struct #[(Field.mk "L" 22 0 false "" "" 0), (Field.mk "At" 3 1 false "" "" 24), (Field.mk "E" 25 2 false "" "" 32)]) 3 40 (.agg #[(.slice none 0 0), (.int .i64 0), (.int .i64 0)]) := tyOk Tryz.underlying29 (by kernel_rfl)
theorem ty32 : TyOk Tryz.prog 32 (.slice 67) 1 24 (.slice none 0 0) := tyOk Tryz.underlying32 (by kernel_rfl)
theorem ty33 : TyOk Tryz.prog 33 (.int .u64) 1 8 (.int .u64 0) := tyOk Tryz.underlying33 (by kernel_rfl)
theorem ty34 : TyOk Tryz.prog 34 (.slice 33) 1 24 (.slice none 0 0) := tyOk Tryz.underlying34 (by kernel_rfl)
theorem ty36 : TyOk Tryz.prog 36 (.struct #[(Field.mk "Offset" 3 0 false "" "" 0), (Field.mk "Counts" 34 1 false "" "" 8)]) 2 32 (.agg #[(.int .i64 0), (.slice none 0 0)]) := tyOk Tryz.underlying36 (by kernel_rfl)
theorem ty38 : TyOk Tryz.prog 38 (.struct #[(Field.mk "Scale" 3 0 false "" "" 0), (Field.mk "Zero" 33 1 false "" "" 8), (Field.mk "Pos" 36 2 false "" "" 16), (Field.mk "Neg" 36 4 false "" "" 48)]) 6 80 (.agg #[(.int .i64 0), (.int .u64 0), (.int .i64 0), (.slice none 0 0), (.int .i64 0), (.slice none 0 0)]) := tyOk Tryz.underlying38 (by kernel_rfl)
theorem ty40 : TyOk Tryz.prog 40 (.struct #[(Field.mk "Name" 9 0 false "" "" 0), (Field.mk "Attrs" 32 1 false "" "" 16), (Field.mk "Kind" 3 2 false "" "" 40), (Field.mk "Temp" 3 3 false "" "" 48), (Field.mk "Mono" 4 4 false "" "" 56), (Field.mk "Start" 3 5 false "" "" 64), (Field.mk "Time" 3 6 false "" "" 72), (Field.mk "Int" 3 7 false "" "" 80), (Field.mk "Re" 33 8 false "" "" 88), (Field.mk "Im" 33 9 false "" "" 96), (Field.mk "Hist" 38 10 false "" "" 104), (Field.mk "Flags" 3 16 false "" "" 184)]) 17 192 (.agg #[(.string ⟨#[]⟩), (.slice none 0 0), (.int .i64 0), (.int .i64 0), (.bool false), (.int .i64 0), (.int .i64 0), (.int .i64 0), (.int .u64 0), (.int .u64 0), (.int .i64 0), (.int .u64 0), (.int .i64 0), (.slice none 0 0), (.int .i64 0), (.slice none 0 0), (.int .i64 0)]) := tyOk Tryz.underlying40 (by kernel_rfl)
theorem ty45 : TyOk Tryz.prog 45 (.struct #[(Field.mk "P" 40 0 false "" "" 0), (Field.mk "E" 25 17 false "" "" 192)]) 18 200 (.agg #[(.string ⟨#[]⟩), (.slice none 0 0), (.int .i64 0), (.int .i64 0), (.bool false), (.int .i64 0), (.int .i64 0), (.int .i64 0), (.int .u64 0), (.int .u64 0), (.int .i64 0), (.int .u64 0), (.int .i64 0), (.slice none 0 0), (.int .i64 0), (.slice none 0 0), (.int .i64 0), (.int .i64 0)]) := tyOk Tryz.underlying45 (by kernel_rfl)
theorem ty51 : TyOk Tryz.prog 51 (.slice 5) 1 24 (.slice none 0 0) := tyOk Tryz.underlying51 (by kernel_rfl)
theorem ty67 : TyOk Tryz.prog 67 (.struct #[(Field.mk "Key" 9 0 false "" "" 0), (Field.mk "Val" 9 1 false "" "" 16)]) 2 32 (.agg #[(.string ⟨#[]⟩), (.string ⟨#[]⟩)]) := tyOk Tryz.underlying67 (by kernel_rfl)
theorem ty94 : TyOk Tryz.prog 94 (.array 2 36) 4 64 (.agg #[(.int .i64 0), (.slice none 0 0), (.int .i64 0), (.slice none 0 0)]) := tyOk Tryz.underlying94 (by kernel_rfl)
theorem ty126 : TyOk Tryz.prog 126 (.struct #[(Field.mk "X" 38 0 false "" "" 0), (Field.mk "Y" 38 6 false "" "" 80), (Field.mk "E" 25 12 false "" "" 160)]) 13 168 (.agg #[(.int .i64 0), (.int .u64 0), (.int .i64 0), (.slice none 0 0), (.int .i64 0), (.slice none 0 0), (.int .i64 0), (.int .u64 0), (.int .i64 0), (.slice none 0 0), (.int .i64 0), (.slice none 0 0), (.int .i64 0)]) := tyOk Tryz.underlying126 (by kernel_rfl)
theorem ty142 : TyOk Tryz.prog 142 (.int .u64) 1 8 (.int .u64 0) := tyOk Tryz.underlying142 (by kernel_rfl)
theorem ty144 : TyOk Tryz.prog 144 (.pointer 146) 1 8 (.pointer none) := tyOk Tryz.underlying144 (by kernel_rfl)
theorem ty146 : TyOk Tryz.prog 146 (.struct #[(Field.mk "addr" 144 0 false "" "strings" 0), (Field.mk "buf" 51 1 false "" "strings" 8)]) 2 32 (.agg #[(.pointer none), (.slice none 0 0)]) := tyOk Tryz.underlying146 (by kernel_rfl)
theorem ty174 : TyOk Tryz.prog 174 (.pointer 5) 1 8 (.pointer none) := tyOk Tryz.underlying174 (by kernel_rfl)
theorem ty176 : TyOk Tryz.prog 176 (.array 2 38) 12 160 (.agg #[(.int .i64 0), (.int .u64 0), (.int .i64 0), (.slice none 0 0), (.int .i64 0), (.slice none 0 0), (.int .i64 0), (.int .u64 0), (.int .i64 0), (.slice none 0 0), (.int .i64 0), (.slice none 0 0)]) := tyOk Tryz.underlying176 (by kernel_rfl)
theorem ty177 : TyOk Tryz.prog 177 (.pointer 36) 1 8 (.pointer none) := tyOk Tryz.underlying177 (by kernel_rfl)
theorem ty178 : TyOk Tryz.prog 178 (.struct #[(Field.mk "to" 177 0 false "" "limnograph/fold" 0), (Field.mk "a" 36 1 false "" "limnograph/fold" 8), (Field.mk "b" 36 3 false "" "limnograph/fold" 40)]) 5 72 (.agg #[(.pointer none), (.int .i64 0), (.slice none 0 0), (.int .i64 0), (.slice none 0 0)]) := tyOk Tryz.underlying178 (by kernel_rfl)
theorem ty179 : TyOk Tryz.prog 179 (.slice 178) 1 24 (.slice none 0 0) := tyOk Tryz.underlying179 (by kernel_rfl)
theorem ty196 : TyOk Tryz.prog 196 .unsafePointer 1 8 (.pointer none) := tyOk Tryz.underlying196 (by kernel_rfl)
theorem fo29_0 : FieldOk Tryz.prog 29 0 0 := fieldOk Tryz.underlying29 rfl rfl (by kernel_rfl)
theorem fo29_1 : FieldOk Tryz.prog 29 1 1 := fieldOk Tryz.underlying29 rfl rfl (by kernel_rfl)
theorem fo29_2 : FieldOk Tryz.prog 29 2 2 := fieldOk Tryz.underlying29 rfl rfl (by kernel_rfl)
theorem fo36_0 : FieldOk Tryz.prog 36 0 0 := fieldOk Tryz.underlying36 rfl rfl (by kernel_rfl)
theorem fo36_1 : FieldOk Tryz.prog 36 1 1 := fieldOk Tryz.underlying36 rfl rfl (by kernel_rfl)
theorem fo38_0 : FieldOk Tryz.prog 38 0 0 := fieldOk Tryz.underlying38 rfl rfl (by kernel_rfl)
theorem fo38_1 : FieldOk Tryz.prog 38 1 1 := fieldOk Tryz.underlying38 rfl rfl (by kernel_rfl)
theorem fo38_2 : FieldOk Tryz.prog 38 2 2 := fieldOk Tryz.underlying38 rfl rfl (by kernel_rfl)
theorem fo38_3 : FieldOk Tryz.prog 38 3 4 := fieldOk Tryz.underlying38 rfl rfl (by kernel_rfl)
theorem fo40_0 : FieldOk Tryz.prog 40 0 0 := fieldOk Tryz.underlying40 rfl rfl (by kernel_rfl)
theorem fo40_1 : FieldOk Tryz.prog 40 1 1 := fieldOk Tryz.underlying40 rfl rfl (by kernel_rfl)
theorem fo40_2 : FieldOk Tryz.prog 40 2 2 := fieldOk Tryz.underlying40 rfl rfl (by kernel_rfl)
theorem fo40_3 : FieldOk Tryz.prog 40 3 3 := fieldOk Tryz.underlying40 rfl rfl (by kernel_rfl)
theorem fo40_4 : FieldOk Tryz.prog 40 4 4 := fieldOk Tryz.underlying40 rfl rfl (by kernel_rfl)
theorem fo40_5 : FieldOk Tryz.prog 40 5 5 := fieldOk Tryz.underlying40 rfl rfl (by kernel_rfl)
theorem fo40_6 : FieldOk Tryz.prog 40 6 6 := fieldOk Tryz.underlying40 rfl rfl (by kernel_rfl)
theorem fo40_7 : FieldOk Tryz.prog 40 7 7 := fieldOk Tryz.underlying40 rfl rfl (by kernel_rfl)
theorem fo40_8 : FieldOk Tryz.prog 40 8 8 := fieldOk Tryz.underlying40 rfl rfl (by kernel_rfl)
theorem fo40_9 : FieldOk Tryz.prog 40 9 9 := fieldOk Tryz.underlying40 rfl rfl (by kernel_rfl)
theorem fo40_10 : FieldOk Tryz.prog 40 10 10 := fieldOk Tryz.underlying40 rfl rfl (by kernel_rfl)
theorem fo40_11 : FieldOk Tryz.prog 40 11 16 := fieldOk Tryz.underlying40 rfl rfl (by kernel_rfl)
theorem fo45_0 : FieldOk Tryz.prog 45 0 0 := fieldOk Tryz.underlying45 rfl rfl (by kernel_rfl)
theorem fo45_1 : FieldOk Tryz.prog 45 1 17 := fieldOk Tryz.underlying45 rfl rfl (by kernel_rfl)
theorem fo67_0 : FieldOk Tryz.prog 67 0 0 := fieldOk Tryz.underlying67 rfl rfl (by kernel_rfl)
theorem fo67_1 : FieldOk Tryz.prog 67 1 1 := fieldOk Tryz.underlying67 rfl rfl (by kernel_rfl)
theorem fo126_0 : FieldOk Tryz.prog 126 0 0 := fieldOk Tryz.underlying126 rfl rfl (by kernel_rfl)
theorem fo126_1 : FieldOk Tryz.prog 126 1 6 := fieldOk Tryz.underlying126 rfl rfl (by kernel_rfl)
theorem fo126_2 : FieldOk Tryz.prog 126 2 12 := fieldOk Tryz.underlying126 rfl rfl (by kernel_rfl)
theorem fo146_0 : FieldOk Tryz.prog 146 0 0 := fieldOk Tryz.underlying146 rfl rfl (by kernel_rfl)
theorem fo146_1 : FieldOk Tryz.prog 146 1 1 := fieldOk Tryz.underlying146 rfl rfl (by kernel_rfl)
theorem fo178_0 : FieldOk Tryz.prog 178 0 0 := fieldOk Tryz.underlying178 rfl rfl (by kernel_rfl)
theorem fo178_1 : FieldOk Tryz.prog 178 1 1 := fieldOk Tryz.underlying178 rfl rfl (by kernel_rfl)
theorem fo178_2 : FieldOk Tryz.prog 178 2 3 := fieldOk Tryz.underlying178 rfl rfl (by kernel_rfl)
theorem agok67 : AgOk Tryz.prog 67 #[(Field.mk "Key" 9 0 false "" "" 0), (Field.mk "Val" 9 1 false "" "" 16)] := ⟨Tryz.underlying67, by kernel_rfl, by kernel_rfl⟩
theorem x64_110 : X64 Tryz.prog 110 := x64 Tryz.func110 (by kernel_rfl) rfl (by kernel_rfl) (by kernel_rfl)
theorem xne_162 : XNe Tryz.prog 162 := xne Tryz.func162 (by kernel_rfl) rfl (by kernel_rfl) (by kernel_rfl)
theorem xfrom_109 : XFrom Tryz.prog 109 := xfrom Tryz.func109 (by kernel_rfl) rfl (by kernel_rfl) (by kernel_rfl)
theorem xbits_146 : XBits Tryz.prog 146 := xbits Tryz.func146 (by kernel_rfl) rfl (by kernel_rfl) (by kernel_rfl)
theorem kok6 : CallOk Tryz.prog 6 := callOk Tryz.func6 (by kernel_rfl) rfl
theorem kok7 : CallOk Tryz.prog 7 := callOk Tryz.func7 (by kernel_rfl) rfl
theorem kok8 : CallOk Tryz.prog 8 := callOk Tryz.func8 (by kernel_rfl) rfl
theorem kok9 : CallOk Tryz.prog 9 := callOk Tryz.func9 (by kernel_rfl) rfl
theorem kok10 : CallOk Tryz.prog 10 := callOk Tryz.func10 (by kernel_rfl) rfl
theorem kok11 : CallOk Tryz.prog 11 := callOk Tryz.func11 (by kernel_rfl) rfl
theorem kok14 : CallOk Tryz.prog 14 := callOk Tryz.func14 (by kernel_rfl) rfl
theorem kok15 : CallOk Tryz.prog 15 := callOk Tryz.func15 (by kernel_rfl) rfl
theorem kok17 : CallOk Tryz.prog 17 := callOk Tryz.func17 (by kernel_rfl) rfl
theorem kok21 : CallOk Tryz.prog 21 := callOk Tryz.func21 (by kernel_rfl) rfl
theorem kok22 : CallOk Tryz.prog 22 := callOk Tryz.func22 (by kernel_rfl) rfl
theorem kok23 : CallOk Tryz.prog 23 := callOk Tryz.func23 (by kernel_rfl) rfl
theorem kok24 : CallOk Tryz.prog 24 := callOk Tryz.func24 (by kernel_rfl) rfl
theorem kok25 : CallOk Tryz.prog 25 := callOk Tryz.func25 (by kernel_rfl) rfl
theorem kok26 : CallOk Tryz.prog 26 := callOk Tryz.func26 (by kernel_rfl) rfl
theorem kok27 : CallOk Tryz.prog 27 := callOk Tryz.func27 (by kernel_rfl) rfl
theorem kok28 : CallOk Tryz.prog 28 := callOk Tryz.func28 (by kernel_rfl) rfl
theorem kok29 : CallOk Tryz.prog 29 := callOk Tryz.func29 (by kernel_rfl) rfl
theorem kok30 : CallOk Tryz.prog 30 := callOk Tryz.func30 (by kernel_rfl) rfl
theorem kok31 : CallOk Tryz.prog 31 := callOk Tryz.func31 (by kernel_rfl) rfl
theorem kok32 : CallOk Tryz.prog 32 := callOk Tryz.func32 (by kernel_rfl) rfl
theorem kok33 : CallOk Tryz.prog 33 := callOk Tryz.func33 (by kernel_rfl) rfl
theorem kok34 : CallOk Tryz.prog 34 := callOk Tryz.func34 (by kernel_rfl) rfl
theorem kok35 : CallOk Tryz.prog 35 := callOk Tryz.func35 (by kernel_rfl) rfl
theorem kok36 : CallOk Tryz.prog 36 := callOk Tryz.func36 (by kernel_rfl) rfl
theorem kok37 : CallOk Tryz.prog 37 := callOk Tryz.func37 (by kernel_rfl) rfl
theorem kok38 : CallOk Tryz.prog 38 := callOk Tryz.func38 (by kernel_rfl) rfl
theorem kok39 : CallOk Tryz.prog 39 := callOk Tryz.func39 (by kernel_rfl) rfl
theorem kok48 : CallOk Tryz.prog 48 := callOk Tryz.func48 (by kernel_rfl) rfl
theorem kok49 : CallOk Tryz.prog 49 := callOk Tryz.func49 (by kernel_rfl) rfl
theorem kok50 : CallOk Tryz.prog 50 := callOk Tryz.func50 (by kernel_rfl) rfl
theorem kok51 : CallOk Tryz.prog 51 := callOk Tryz.func51 (by kernel_rfl) rfl
theorem kok52 : CallOk Tryz.prog 52 := callOk Tryz.func52 (by kernel_rfl) rfl
theorem kok53 : CallOk Tryz.prog 53 := callOk Tryz.func53 (by kernel_rfl) rfl
theorem kok54 : CallOk Tryz.prog 54 := callOk Tryz.func54 (by kernel_rfl) rfl
theorem kok55 : CallOk Tryz.prog 55 := callOk Tryz.func55 (by kernel_rfl) rfl
theorem kok56 : CallOk Tryz.prog 56 := callOk Tryz.func56 (by kernel_rfl) rfl
theorem kok57 : CallOk Tryz.prog 57 := callOk Tryz.func57 (by kernel_rfl) rfl
theorem kok58 : CallOk Tryz.prog 58 := callOk Tryz.func58 (by kernel_rfl) rfl
theorem kok59 : CallOk Tryz.prog 59 := callOk Tryz.func59 (by kernel_rfl) rfl
theorem kok60 : CallOk Tryz.prog 60 := callOk Tryz.func60 (by kernel_rfl) rfl
theorem kok61 : CallOk Tryz.prog 61 := callOk Tryz.func61 (by kernel_rfl) rfl
theorem kok62 : CallOk Tryz.prog 62 := callOk Tryz.func62 (by kernel_rfl) rfl
theorem kok63 : CallOk Tryz.prog 63 := callOk Tryz.func63 (by kernel_rfl) rfl
theorem kok64 : CallOk Tryz.prog 64 := callOk Tryz.func64 (by kernel_rfl) rfl
theorem kok65 : CallOk Tryz.prog 65 := callOk Tryz.func65 (by kernel_rfl) rfl
theorem kok66 : CallOk Tryz.prog 66 := callOk Tryz.func66 (by kernel_rfl) rfl
theorem kok67 : CallOk Tryz.prog 67 := callOk Tryz.func67 (by kernel_rfl) rfl
theorem kok68 : CallOk Tryz.prog 68 := callOk Tryz.func68 (by kernel_rfl) rfl
theorem kok69 : CallOk Tryz.prog 69 := callOk Tryz.func69 (by kernel_rfl) rfl
theorem kok70 : CallOk Tryz.prog 70 := callOk Tryz.func70 (by kernel_rfl) rfl
theorem kok71 : CallOk Tryz.prog 71 := callOk Tryz.func71 (by kernel_rfl) rfl
theorem kok87 : CallOk Tryz.prog 87 := callOk Tryz.func87 (by kernel_rfl) rfl
theorem kok88 : CallOk Tryz.prog 88 := callOk Tryz.func88 (by kernel_rfl) rfl
theorem kok89 : CallOk Tryz.prog 89 := callOk Tryz.func89 (by kernel_rfl) rfl
theorem kok90 : CallOk Tryz.prog 90 := callOk Tryz.func90 (by kernel_rfl) rfl
theorem kok91 : CallOk Tryz.prog 91 := callOk Tryz.func91 (by kernel_rfl) rfl
theorem kok92 : CallOk Tryz.prog 92 := callOk Tryz.func92 (by kernel_rfl) rfl
theorem kok93 : CallOk Tryz.prog 93 := callOk Tryz.func93 (by kernel_rfl) rfl
theorem kok94 : CallOk Tryz.prog 94 := callOk Tryz.func94 (by kernel_rfl) rfl
theorem kok95 : CallOk Tryz.prog 95 := callOk Tryz.func95 (by kernel_rfl) rfl
theorem kok96 : CallOk Tryz.prog 96 := callOk Tryz.func96 (by kernel_rfl) rfl
theorem kok97 : CallOk Tryz.prog 97 := callOk Tryz.func97 (by kernel_rfl) rfl
theorem kok98 : CallOk Tryz.prog 98 := callOk Tryz.func98 (by kernel_rfl) rfl
theorem kok99 : CallOk Tryz.prog 99 := callOk Tryz.func99 (by kernel_rfl) rfl
theorem kok100 : CallOk Tryz.prog 100 := callOk Tryz.func100 (by kernel_rfl) rfl
theorem kok101 : CallOk Tryz.prog 101 := callOk Tryz.func101 (by kernel_rfl) rfl
theorem kok102 : CallOk Tryz.prog 102 := callOk Tryz.func102 (by kernel_rfl) rfl
theorem kok103 : CallOk Tryz.prog 103 := callOk Tryz.func103 (by kernel_rfl) rfl
theorem kok104 : CallOk Tryz.prog 104 := callOk Tryz.func104 (by kernel_rfl) rfl
theorem kok105 : CallOk Tryz.prog 105 := callOk Tryz.func105 (by kernel_rfl) rfl
theorem kok106 : CallOk Tryz.prog 106 := callOk Tryz.func106 (by kernel_rfl) rfl
theorem kok107 : CallOk Tryz.prog 107 := callOk Tryz.func107 (by kernel_rfl) rfl
theorem kok108 : CallOk Tryz.prog 108 := callOk Tryz.func108 (by kernel_rfl) rfl
theorem kok117 : CallOk Tryz.prog 117 := callOk Tryz.func117 (by kernel_rfl) rfl
theorem kok121 : CallOk Tryz.prog 121 := callOk Tryz.func121 (by kernel_rfl) rfl
theorem kok122 : CallOk Tryz.prog 122 := callOk Tryz.func122 (by kernel_rfl) rfl
theorem kok123 : CallOk Tryz.prog 123 := callOk Tryz.func123 (by kernel_rfl) rfl
theorem kok124 : CallOk Tryz.prog 124 := callOk Tryz.func124 (by kernel_rfl) rfl
theorem kok125 : CallOk Tryz.prog 125 := callOk Tryz.func125 (by kernel_rfl) rfl
theorem kok126 : CallOk Tryz.prog 126 := callOk Tryz.func126 (by kernel_rfl) rfl
theorem kok127 : CallOk Tryz.prog 127 := callOk Tryz.func127 (by kernel_rfl) rfl
theorem kok128 : CallOk Tryz.prog 128 := callOk Tryz.func128 (by kernel_rfl) rfl
theorem kok129 : CallOk Tryz.prog 129 := callOk Tryz.func129 (by kernel_rfl) rfl
theorem kok130 : CallOk Tryz.prog 130 := callOk Tryz.func130 (by kernel_rfl) rfl
theorem kok131 : CallOk Tryz.prog 131 := callOk Tryz.func131 (by kernel_rfl) rfl
theorem kok132 : CallOk Tryz.prog 132 := callOk Tryz.func132 (by kernel_rfl) rfl
theorem kok140 : CallOk Tryz.prog 140 := callOk Tryz.func140 (by kernel_rfl) rfl
theorem kok141 : CallOk Tryz.prog 141 := callOk Tryz.func141 (by kernel_rfl) rfl
theorem kok142 : CallOk Tryz.prog 142 := callOk Tryz.func142 (by kernel_rfl) rfl
theorem kok144 : CallOk Tryz.prog 144 := callOk Tryz.func144 (by kernel_rfl) rfl
theorem kok145 : CallOk Tryz.prog 145 := callOk Tryz.func145 (by kernel_rfl) rfl
theorem kok147 : CallOk Tryz.prog 147 := callOk Tryz.func147 (by kernel_rfl) rfl
theorem kok148 : CallOk Tryz.prog 148 := callOk Tryz.func148 (by kernel_rfl) rfl
theorem kok149 : CallOk Tryz.prog 149 := callOk Tryz.func149 (by kernel_rfl) rfl
theorem kok150 : CallOk Tryz.prog 150 := callOk Tryz.func150 (by kernel_rfl) rfl
theorem kok151 : CallOk Tryz.prog 151 := callOk Tryz.func151 (by kernel_rfl) rfl
theorem kok152 : CallOk Tryz.prog 152 := callOk Tryz.func152 (by kernel_rfl) rfl
theorem kok160 : CallOk Tryz.prog 160 := callOk Tryz.func160 (by kernel_rfl) rfl
theorem kok161 : CallOk Tryz.prog 161 := callOk Tryz.func161 (by kernel_rfl) rfl
theorem kok163 : CallOk Tryz.prog 163 := callOk Tryz.func163 (by kernel_rfl) rfl
theorem kok164 : CallOk Tryz.prog 164 := callOk Tryz.func164 (by kernel_rfl) rfl
theorem kok165 : CallOk Tryz.prog 165 := callOk Tryz.func165 (by kernel_rfl) rfl
theorem kok168 : CallOk Tryz.prog 168 := callOk Tryz.func168 (by kernel_rfl) rfl
theorem c_rollup_Window {a0 : Int} {a1 : Int} {w : World} {r0 : Int} (h : rollup_Window a0 a1 = some r0) : Rets Tryz.prog 15 [vi a0, vi a1] w (fun v w' => v = vi r0 ∧ Ext w w') := by
 unfold rollup_Window at h
 refine Rets.enter Tryz.func15 z z ?_
 refine (show WC _ _ _ _ [(0, vi a0), (1, vi a1)] _ from ?_)
 refine sq (rg (wY (ya z) z (nl (th (sq (sq (rg (wY (ym z) z (wY (Y.lss_i z z) z ?_)))))))))
 refine wY (ym z) z ?_
 refine WL.cut 3 (σ := Unit) (fun _ w' => w = w') (fun _ => [(0, vi a0), (1, vi a1), (10, vB ((decide (a1 < 1)) || (decide (a0 < 0))))]) ?_ ?_
 ·refine WL.part 7 z (fun d => ?_) (fun d => ?_)
  ·refine WL.gS z z z z (WL.gS z z z z (wY (Y.pick (b := true) z z) z (WL.ren (v' := vB ((decide (a1 < 1)) || (decide (a0 < 0)))) 10 z (congrArg vB (orT d)) ?_)))
   exact nl (At.join () z (.cons z (.cons z (.cons z .nil))))
  ·refine ug z z (wY (ym z) z (ug z z (wY (Y.lss_i z z) z (wY (Y.pick (b := false) z z) z (WL.ren (v' := vB ((decide (a1 < 1)) || (decide (a0 < 0)))) 10 z (congrArg vB (orF d)) ?_)))))
   exact nl (At.join () z (.cons z (.cons z (.cons z .nil))))
 ·rintro _ _ rfl
  refine (show WL _ _ _ _ _ [(0, vi a0), (1, vi a1), (10, vB ((decide (a1 < 1)) || (decide (a0 < 0))))] _ from ?_)
  refine wY (ym z) z ?_
  refine WL.cut 3 (σ := Unit) (fun _ w' => w = w') (fun _ => [(0, vi a0), (1, vi a1), (14, vB (((decide (a1 < 1)) || (decide (a0 < 0))) || (decide (4503599627370496 < a0))))]) ?_ ?_
  ·refine WL.part 11 z (fun e => ?_) (fun e => ?_)
   ·refine WL.gS z z z z (WL.gS z z z z (wY (Y.pick (b := true) z z) z (WL.ren (v' := vB (((decide (a1 < 1)) || (decide (a0 < 0))) || (decide (4503599627370496 < a0)))) 14 z (congrArg vB (orT e)) ?_)))
    exact nl (At.join () z (.cons z (.cons z (.cons z .nil))))
   ·refine ug z z (wY (ym z) z (ug z z (wY (Y.gtr_i z z) z (wY (Y.pick (b := false) z z) z (WL.ren (v' := vB (((decide (a1 < 1)) || (decide (a0 < 0))) || (decide (4503599627370496 < a0)))) 14 z (congrArg vB (orF e)) ?_)))))
    exact nl (At.join () z (.cons z (.cons z (.cons z .nil))))
  ·rintro _ _ rfl
   refine (show WL _ _ _ _ _ [(0, vi a0), (1, vi a1), (14, vB (((decide (a1 < 1)) || (decide (a0 < 0))) || (decide (4503599627370496 < a0))))] _ from ?_)
   refine nl (th ?_)
   rcases cnd h with ⟨j, h⟩ | ⟨j, h⟩
   ·refine WC.condT' z j (sq (rg (wY (ya z) z (nl (th (rt (At.thenR ?_)))))))
    obtain rfl := some1 h
    have l : Stp [] (Lg.O0 (fun _ => False)) w (Lg.O0 (fun _ => False)) w := (sr_ _ _ _)
    exact At.res (.inl z) z (.tmp z .nil) ⟨z, (se_ l z z)⟩
   ·refine WC.condF' z j (sk (th (sq (rg (wY (ym z) z (wY (ym z) z ?_))))))
    obtain ⟨m, h⟩ := chk1 h
    refine wY (Y.quo_i (ne_of_chk m) z z) z ?_
    obtain ⟨C, o, h⟩ := lt1 h
    refine WL.yE (ya z) (congrArg vi o.symm) z (nl (th (rt ?_)))
    obtain rfl := some1 h
    have t : Stp [] (Lg.O0 (fun _ => False)) w (Lg.O0 (fun _ => False)) w := (sr_ _ _ _)
    exact At.res (.inl z) z (.tmp z .nil) ⟨z, (se_ t z z)⟩
theorem c_label_small {a0 : UInt8} {w : World} {r0 : Bool} (h : label_small a0 = some r0) : Rets Tryz.prog 107 [vb a0] w (fun v w' => v = vB r0 ∧ Ext w w') := by
 unfold label_small at h
 refine Rets.enter Tryz.func107 z z ?_
 refine (show WC _ _ _ _ [(0, vb a0)] _ from ?_)
 refine sq (rg (wY (ya z) z (nl (th (sq (rg (wY (ym z) z (wY (Y.geq_b (b := 97) z z) z (wY (ym z) z ?_)))))))))
 refine WL.cut 3 (σ := Unit) (fun _ w' => w = w') (fun _ => [(8, vB ((decide (97 ≤ a0)) && (decide (a0 ≤ 122))))]) ?_ ?_
 ·refine WL.part 5 z (fun d => ?_) (fun d => ?_)
  ·refine ug z z (wY (ym z) z (ug z z (wY (Y.leq_b (b := 122) z z) z (wY (Y.pick (b := true) z z) z (WL.ren (v' := vB ((decide (97 ≤ a0)) && (decide (a0 ≤ 122)))) 8 z (congrArg vB (andT d)) ?_)))))
   exact nl (At.join () z (.cons z .nil))
  ·refine WL.gS z z z z (WL.gS z z z z (wY (Y.pick (b := false) z z) z (WL.ren (v' := vB ((decide (97 ≤ a0)) && (decide (a0 ≤ 122)))) 8 z (congrArg vB (andF d)) ?_)))
   exact nl (At.join () z (.cons z .nil))
 ·rintro _ _ rfl
  refine (show WL _ _ _ _ _ [(8, vB ((decide (97 ≤ a0)) && (decide (a0 ≤ 122))))] _ from ?_)
  obtain ⟨l, e, h⟩ := lt1 h
  refine WL.yE (ya z) (congrArg vB e.symm) z (nl (th (rt ?_)))
  obtain rfl := some1 h
  have j : Stp [] (Lg.O0 (fun _ => False)) w (Lg.O0 (fun _ => False)) w := (sr_ _ _ _)
  exact At.res (.inl z) z (.tmp z .nil) ⟨z, (se_ j z z)⟩
theorem c_label_isName {a0 : List UInt8} {w : World} {r0 : Bool} (h : label_isName a0 = some r0) : Rets Tryz.prog 63 [vs a0] w (fun v w' => v = vB r0 ∧ Ext w w') := by
 unfold label_isName at h
 refine Rets.enter Tryz.func63 z z ?_
 refine (show WC _ _ _ _ [(0, vs a0)] _ from ?_)
 refine sq (rg (wY (ya z) z (nl (th (sq (sq (rg (wY (ym z) z (wY (Y.eql_s (b := []) z z) z ?_)))))))))
 refine wY (ym z) z ?_
 refine WL.cut 4 (σ := Unit) (fun _ w' => w = w') (fun _ => [(0, vs a0), (11, vB ((decide (a0 = [])) || (decide (32 < (a0.length : Int)))))]) ?_ ?_
 ·refine WL.part 7 z (fun D => ?_) (fun D => ?_)
  ·refine WL.gS z z z z (WL.gS z z z z (WL.gS z z z z (wY (Y.pick (b := true) z z) z (WL.ren (v' := vB ((decide (a0 = [])) || (decide (32 < (a0.length : Int))))) 11 z (congrArg vB (orT D)) ?_))))
   exact nl (At.join () z (.cons z (.cons z .nil)))
  ·refine ug z z (wY (ym z) z (ug z z (wY (Y.len_s ty9 z) z (ug z z (wY (Y.gtr_i z z) z (wY (Y.pick (b := false) z z) z (WL.ren (v' := vB ((decide (a0 = [])) || (decide (32 < (a0.length : Int))))) 11 z (congrArg vB (orF D)) ?_)))))))
   exact nl (At.join () z (.cons z (.cons z .nil)))
 ·rintro _ _ rfl
  refine (show WL _ _ _ _ _ [(0, vs a0), (11, vB ((decide (a0 = [])) || (decide (32 < (a0.length : Int)))))] _ from ?_)
  refine wY (ym z) z ?_
  obtain ⟨aG, h, al⟩ := bnd h
  refine WL.cut 5 (σ := (Bool × Own)) (fun x w' => x.1 = aG ∧ Stp [] (Lg.O0 (fun _ => False)) w x.2 w') (fun x => [(0, vs a0), (17, vB x.1)]) ?_ ?_
  ·rcases cnd h with ⟨F, h⟩ | ⟨F, h⟩
   ·refine WL.ren 12 z (congrArg vB F) (WL.gS z z z z (WL.gS z z z z (WL.gS z z z z (WL.gS z z z z (wY (Y.pick (b := true) z z) z ?_)))))
    exact nl (At.join (σ := (Bool × Own)) (true, (Lg.O0 (fun _ => False))) ⟨some1 h, (sr_ _ _ _)⟩ (.cons z (.cons z .nil)))
   ·refine WL.ren 12 z (congrArg vB F) (ug z z (wY (ym z) z (ug z z ?_)))
    obtain ⟨aH, am, h⟩ := bnd h
    refine wY (Y.index_s ty9 z z am) z (ug z z ?_)
    obtain ⟨aI, an, h⟩ := bnd h
    refine WL.call (vals := [vb aH]) kok107 z z (c_label_small an) ?_
    rintro aT aU ⟨rfl, ao⟩
    obtain ⟨aJ, aK, aL, ab⟩ := adoptE (Lg.O0 (fun _ => False)) (fun k => 1) ao
    refine ug z z (wY (Y.not z) z (wY (Y.pick (b := false) z z) z ?_))
    exact nl (At.join (σ := (Bool × Own)) ((!aI), aJ) ⟨some1 h, (su_ ab z)⟩ (.cons z (.cons z .nil)))
  ·rintro ⟨aM, af⟩ ap ⟨rfl, o⟩
   replace h := al
   try dsimp only at h o
   refine (show WL _ _ _ _ _ [(0, vs a0), (17, vB aM)] _ from ?_)
   refine nl (th ?_)
   rcases cnd h with ⟨G, h⟩ | ⟨G, h⟩
   ·refine WC.condT' z G (sq (rg (wY (ya z) z (nl (th (rt (At.thenR ?_)))))))
    obtain rfl := some1 h
    have aq : Stp [] (Lg.O0 (fun _ => False)) w af ap := (su_ o z)
    exact At.res (.inl z) z (.tmp z .nil) ⟨z, (se_ aq z z)⟩
   ·refine WC.condF' z G (sk (th (sq (sq (rg (wY (ym z) z (WL.s2b (O := af) ty9 ty51 ty5 z z ?_)))))))
    intro j V W T Z
    refine wY (Y.len ty51 z Z) z (wY (ym z) z (nl (th (WC.block ?_))))
    obtain ⟨ah, h, aa⟩ := flow1 h
    obtain ⟨ai, h⟩ := loop_some h
    refine WC.joinB 0 (σ := Own) (fun x w' => ah = .go () ∧ Stp [] V W x w') (fun x => []) ?_ ?_
    ·refine WC.loop (σ := (Int × Own)) (fun x k w' => loopN k (label_isName_lp1 a0) x.1 = some ah ∧ Stp [] V W x.2 w') (fun x => [(19, j), (20, vi (a0.length : Int)), (21, vi x.1)]) (0, V) ai (.cons z (.cons z (.cons z .nil))) ⟨h, (sr_ _ _ _)⟩ ?_
     rintro ⟨l, aj⟩ ai aW ⟨h, m⟩
     obtain ⟨aN, aZ, rfl, h, H⟩ := rnd1 h
     unfold label_isName_lp1 at h
     try dsimp only at h m
     refine (show WC _ _ _ _ [(19, j), (20, vi (a0.length : Int)), (21, vi l)] _ from ?_)
     refine sq (rg (wY (Y.lss_i z z) z (nl (th (sq ?_)))))
     rcases cnd h with ⟨I, h⟩ | ⟨I, h⟩
     ·refine WC.condT' z I (sk (th (sq (WC.block (sq (rg ?_))))))
      obtain ⟨d, ar, h⟩ := bnd h
      have au := Z.f m z
      obtain ⟨a1, aR, aS, aX, av, ax, ay, J, ac, az⟩ := Sl.at2 au ar
      obtain rfl := ac
      replace J : CellsAt _ _ _ [vb d] := J
      have ad := CAt.frs J az
      refine wY (Y.indexAddr ty51 ty5 z av z ax ay) z (wY (yl ty5 z z ad.at_) z (wY (ya z) z (nl (th (sq (rg (wY (ym z) z ?_)))))))
      obtain ⟨e, aA, h⟩ := bnd h
      refine WL.call (vals := [vb d]) kok107 z z (c_label_small aA) ?_
      rintro aY t ⟨rfl, aC⟩
      obtain ⟨ak, aO, aP, U⟩ := adoptE aj (fun k => 1) aC
      refine wY (Y.not z) z (wY (ym z) z ?_)
      refine WL.cut 7 (σ := Unit) (fun _ w' => t = w') (fun _ => [(4, vb d), (19, j), (20, vi (a0.length : Int)), (21, vi l), (35, vB ((!e) && ((decide (d < 48)) || (decide (57 < d)))))]) ?_ ?_
      ·refine WL.part 28 z (fun K => ?_) (fun K => ?_)
       ·refine ug z z (wY (ym z) z (ug z z (wY (Y.lss_b (b := 48) z z) z (ug z z (wY (ym z) z ?_)))))
        refine WL.cut 3 (σ := Unit) (fun _ w' => t = w') (fun _ => [(4, vb d), (19, j), (20, vi (a0.length : Int)), (21, vi l), (28, vB true), (29, vb d), (30, vB (decide (d < 48))), (31, vB (decide (d < 48))), (34, vB ((decide (d < 48)) || (decide (57 < d))))]) ?_ ?_
        ·refine WL.part 31 z (fun C => ?_) (fun C => ?_)
         ·refine WL.gS z z z z (WL.gS z z z z (ug z z (wY (Y.pick (b := true) z z) z (WL.ren (v' := vB ((decide (d < 48)) || (decide (57 < d)))) 34 z (congrArg vB (orT C)) (WL.ren 31 z (congrArg vB C.symm) ?_)))))
          exact nl (At.join () z (.cons z (.cons z (.cons z (.cons z (.cons z (.cons z (.cons z (.cons z (.cons z .nil))))))))))
         ·refine ug z z (wY (ym z) z (ug z z (wY (Y.gtr_b (b := 57) z z) z (ug z z (wY (Y.pick (b := false) z z) z (WL.ren (v' := vB ((decide (d < 48)) || (decide (57 < d)))) 34 z (congrArg vB (orF C)) (WL.ren 31 z (congrArg vB C.symm) ?_)))))))
          exact nl (At.join () z (.cons z (.cons z (.cons z (.cons z (.cons z (.cons z (.cons z (.cons z (.cons z .nil))))))))))
        ·rintro _ _ rfl
         refine (show WL _ _ _ _ _ [(4, vb d), (19, j), (20, vi (a0.length : Int)), (21, vi l), (28, vB true), (29, vb d), (30, vB (decide (d < 48))), (31, vB (decide (d < 48))), (34, vB ((decide (d < 48)) || (decide (57 < d))))] _ from ?_)
         refine wY (Y.pick (b := true) z z) z (WL.ren (v' := vB ((!e) && ((decide (d < 48)) || (decide (57 < d))))) 35 z (congrArg vB (andT K)) ?_)
         exact nl (At.join () z (.cons z (.cons z (.cons z (.cons z (.cons z .nil))))))
       ·refine WL.gS z z z z (WL.gS z z z z (WL.gS z z z z (WL.gS z z z z (WL.gS z z z z (WL.gS z z z z (wY (Y.pick (b := false) z z) z (WL.ren (v' := vB ((!e) && ((decide (d < 48)) || (decide (57 < d))))) 35 z (congrArg vB (andF K)) ?_)))))))
        exact nl (At.join () z (.cons z (.cons z (.cons z (.cons z (.cons z .nil))))))
      ·rintro _ _ rfl
       refine (show WL _ _ _ _ _ [(4, vb d), (19, j), (20, vi (a0.length : Int)), (21, vi l), (35, vB ((!e) && ((decide (d < 48)) || (decide (57 < d)))))] _ from ?_)
       refine wY (ym z) z ?_
       refine WL.cut 3 (σ := Unit) (fun _ w' => t = w') (fun _ => [(4, vb d), (19, j), (20, vi (a0.length : Int)), (21, vi l), (39, vB (((!e) && ((decide (d < 48)) || (decide (57 < d)))) && (!decide (d = 95))))]) ?_ ?_
       ·refine WL.part 36 z (fun M => ?_) (fun M => ?_)
        ·refine ug z z (wY (ym z) z (ug z z (wY (Y.neq_b (b := 95) z z) z (wY (Y.pick (b := true) z z) z (WL.ren (v' := vB (((!e) && ((decide (d < 48)) || (decide (57 < d)))) && (!decide (d = 95)))) 39 z (congrArg vB (andT M)) ?_)))))
         exact nl (At.join () z (.cons z (.cons z (.cons z (.cons z (.cons z .nil))))))
        ·refine WL.gS z z z z (WL.gS z z z z (wY (Y.pick (b := false) z z) z (WL.ren (v' := vB (((!e) && ((decide (d < 48)) || (decide (57 < d)))) && (!decide (d = 95)))) 39 z (congrArg vB (andF M)) ?_)))
         exact nl (At.join () z (.cons z (.cons z (.cons z (.cons z (.cons z .nil))))))
       ·rintro _ _ rfl
        refine (show WL _ _ _ _ _ [(4, vb d), (19, j), (20, vi (a0.length : Int)), (21, vi l), (39, vB (((!e) && ((decide (d < 48)) || (decide (57 < d)))) && (!decide (d = 95))))] _ from ?_)
        refine wY (ym z) z ?_
        refine WL.cut 3 (σ := Unit) (fun _ w' => t = w') (fun _ => [(19, j), (20, vi (a0.length : Int)), (21, vi l), (43, vB ((((!e) && ((decide (d < 48)) || (decide (57 < d)))) && (!decide (d = 95))) && (!decide (d = 46))))]) ?_ ?_
        ·refine WL.part 40 z (fun Q => ?_) (fun Q => ?_)
         ·refine ug z z (wY (ym z) z (ug z z (wY (Y.neq_b (b := 46) z z) z (wY (Y.pick (b := true) z z) z (WL.ren (v' := vB ((((!e) && ((decide (d < 48)) || (decide (57 < d)))) && (!decide (d = 95))) && (!decide (d = 46)))) 43 z (congrArg vB (andT Q)) ?_)))))
          exact nl (At.join () z (.cons z (.cons z (.cons z (.cons z .nil)))))
         ·refine WL.gS z z z z (WL.gS z z z z (wY (Y.pick (b := false) z z) z (WL.ren (v' := vB ((((!e) && ((decide (d < 48)) || (decide (57 < d)))) && (!decide (d = 95))) && (!decide (d = 46)))) 43 z (congrArg vB (andF Q)) ?_)))
          exact nl (At.join () z (.cons z (.cons z (.cons z (.cons z .nil)))))
        ·rintro _ _ rfl
         refine (show WL _ _ _ _ _ [(19, j), (20, vi (a0.length : Int)), (21, vi l), (43, vB ((((!e) && ((decide (d < 48)) || (decide (57 < d)))) && (!decide (d = 95))) && (!decide (d = 46))))] _ from ?_)
         refine nl (th ?_)
         rcases cnd h with ⟨S, h⟩ | ⟨S, h⟩
         ·refine WC.condT' z S (sq (rg (wY (ya z) z (nl (th (rt (At.inBlockR (At.thenR (At.loopR ?_)))))))))
          have h := outr1 h H aa
          refine At.joinBR (At.inBlockR (At.thenR ?_))
          obtain rfl := some1 h
          have aD : Stp [] (Lg.O0 (fun _ => False)) w ak t := (tr_ (su_ o z) (tr_ (su_ T z) (tr_ (su_ m z) (su_ U z))))
          exact At.res (.inl z) z (.tmp z .nil) ⟨z, (se_ aD z z)⟩
         ·refine WC.condF' z S (sk (At.inBlock (th (rg (wY (Y.add_i z z) z (wY (ym z) z (nl ?_)))))))
          exact At.round (w64 (l + 1), ak) aN (Nat.lt_succ_self _) ⟨next1 h H, (tr_ (su_ m z) (su_ U z))⟩ (.cons z (.cons z (.cons z .nil)))
     ·refine WC.condF' z I (WC.exit (At.thenX (At.loopX ?_)))
      exact At.hitB (σ := Own) aj ⟨brk1 h H, (su_ m z)⟩ .nil
    ·rintro aQ aE ⟨rfl, ae⟩
     replace h := flowK_go aa
     refine (show At _ _ _ [] _ from ?_)
     refine At.inBlockHit (th (sq (rg (wY (ya z) z (nl (th (rt ?_)))))))
     obtain rfl := some1 h
     have aF : Stp [] (Lg.O0 (fun _ => False)) w aQ aE := (tr_ (su_ o z) (tr_ (su_ T z) (su_ ae z)))
     exact At.res (.inl z) z (.tmp z .nil) ⟨z, (se_ aF z z)⟩
theorem c_label_isValue {a0 : List UInt8} {w : World} {r0 : Bool} (h : label_isValue a0 = some r0) : Rets Tryz.prog 64 [vs a0] w (fun v w' => v = vB r0 ∧ Ext w w') := by
 unfold label_isValue at h
 refine Rets.enter Tryz.func64 z z ?_
 refine (show WC _ _ _ _ [(0, vs a0)] _ from ?_)
 refine sq (rg (wY (ya z) z (nl (th (sq (sq (rg (wY (ym z) z (wY (Y.eql_s (b := []) z z) z ?_)))))))))
 refine wY (ym z) z ?_
 refine WL.cut 4 (σ := Unit) (fun _ w' => w = w') (fun _ => [(0, vs a0), (11, vB ((decide (a0 = [])) || (decide (32 < (a0.length : Int)))))]) ?_ ?_
 ·refine WL.part 7 z (fun l => ?_) (fun l => ?_)
  ·refine WL.gS z z z z (WL.gS z z z z (WL.gS z z z z (wY (Y.pick (b := true) z z) z (WL.ren (v' := vB ((decide (a0 = [])) || (decide (32 < (a0.length : Int))))) 11 z (congrArg vB (orT l)) ?_))))
   exact nl (At.join () z (.cons z (.cons z .nil)))
  ·refine ug z z (wY (ym z) z (ug z z (wY (Y.len_s ty9 z) z (ug z z (wY (Y.gtr_i z z) z (wY (Y.pick (b := false) z z) z (WL.ren (v' := vB ((decide (a0 = [])) || (decide (32 < (a0.length : Int))))) 11 z (congrArg vB (orF l)) ?_)))))))
   exact nl (At.join () z (.cons z (.cons z .nil)))
 ·rintro _ _ rfl
  refine (show WL _ _ _ _ _ [(0, vs a0), (11, vB ((decide (a0 = [])) || (decide (32 < (a0.length : Int)))))] _ from ?_)
  refine nl (th ?_)
  rcases cnd h with ⟨m, h⟩ | ⟨m, h⟩
  ·refine WC.condT' z m (sq (rg (wY (ya z) z (nl (th (rt (At.thenR ?_)))))))
   obtain rfl := some1 h
   have Z : Stp [] (Lg.O0 (fun _ => False)) w (Lg.O0 (fun _ => False)) w := (sr_ _ _ _)
   exact At.res (.inl z) z (.tmp z .nil) ⟨z, (se_ Z z z)⟩
  ·refine WC.condF' z m (sk (th (sq (sq (rg (wY (ym z) z (WL.s2b (O := (Lg.O0 (fun _ => False))) ty9 ty51 ty5 z z ?_)))))))
   intro e U d J K
   refine wY (Y.len ty51 z K) z (wY (ym z) z (nl (th (WC.block ?_))))
   obtain ⟨V, h, M⟩ := flow1 h
   obtain ⟨W, h⟩ := loop_some h
   refine WC.joinB 0 (σ := Unit) (fun x w' => V = .go () ∧ d = w') (fun x => []) ?_ ?_
   ·refine WC.loop (σ := Int) (fun x k w' => loopN k (label_isValue_lp1 a0) x = some V ∧ d = w') (fun x => [(13, e), (14, vi (a0.length : Int)), (15, vi x)]) 0 W (.cons z (.cons z (.cons z .nil))) ⟨h, z⟩ ?_
    rintro j W _ ⟨h, rfl⟩
    obtain ⟨ao, aF, rfl, h, o⟩ := rnd1 h
    unfold label_isValue_lp1 at h
    try dsimp only at h
    refine (show WC _ _ _ _ [(13, e), (14, vi (a0.length : Int)), (15, vi j)] _ from ?_)
    refine sq (rg (wY (Y.lss_i z z) z (nl (th (sq ?_)))))
    rcases cnd h with ⟨t, h⟩ | ⟨t, h⟩
    ·refine WC.condT' z t (sk (th (sq (WC.block (sq (rg ?_))))))
     obtain ⟨ap, aa, h⟩ := bnd h
     obtain ⟨aG, aC, aD, aE, ab, ac, ad, C, S, ae⟩ := Sl.at2 K aa
     obtain rfl := S
     replace C : CellsAt _ _ _ [vb ap] := C
     have T := CAt.frs C ae
     refine wY (Y.indexAddr ty51 ty5 z ab z ac ad) z (wY (yl ty5 z z T.at_) z (wY (ya z) z (nl (th ?_))))
     obtain ⟨aq, h, Q⟩ := flow1 h
     refine WC.join (σ := Unit) (fun x w' => aq = .go () ∧ d = w') (fun x => [(13, e), (14, vi (a0.length : Int)), (15, vi j)]) ?_ ?_
     ·refine WC.block (sq ?_)
      obtain ⟨ar, h, af⟩ := bnd h
      refine WC.join (σ := Bool) (fun x w' => x = ar ∧ d = w') (fun x => [(13, e), (14, vi (a0.length : Int)), (15, vi j), (19, vB x)]) ?_ ?_
      ·refine sq (rg (wY (ym z) z (wY (Y.lss_b (b := 33) z z) z ?_)))
       obtain ⟨au, ah, h⟩ := lt1 h
       refine WL.yE (ya z) (congrArg vB ah.symm) z (nl (th ?_))
       rcases cnd h with ⟨D, h⟩ | ⟨D, h⟩
       ·refine WC.condT' z D (sk ?_)
        exact At.join (σ := Bool) au ⟨some1 h, z⟩ (.cons z (.cons z (.cons z (.cons z .nil))))
       ·refine WC.condF' z D (sq (rg (wY (ym z) z (wY (Y.gtr_b (b := 126) z z) z ?_))))
        obtain ⟨av, ai, h⟩ := lt1 h
        refine WL.yE (ya z) (congrArg vB ai.symm) z (nl (th ?_))
        rcases cnd h with ⟨F, h⟩ | ⟨F, h⟩
        ·refine WC.condT' z F (sk ?_)
         exact At.join (σ := Bool) av ⟨some1 h, z⟩ (.cons z (.cons z (.cons z (.cons z .nil))))
        ·refine WC.condF' z F (sq (rg (wY (ym z) z (wY (Y.eql_b (b := 61) z z) z ?_))))
         obtain ⟨ax, aj, h⟩ := lt1 h
         refine WL.yE (ya z) (congrArg vB aj.symm) z (nl (th ?_))
         rcases cnd h with ⟨G, h⟩ | ⟨G, h⟩
         ·refine WC.condT' z G (sk ?_)
          exact At.join (σ := Bool) ax ⟨some1 h, z⟩ (.cons z (.cons z (.cons z (.cons z .nil))))
         ·refine WC.condF' z G (sq (rg (wY (ym z) z (wY (Y.eql_b (b := 59) z z) z ?_))))
          obtain ⟨ay, ak, h⟩ := lt1 h
          refine WL.yE (ya z) (congrArg vB ak.symm) z (nl (th ?_))
          rcases cnd h with ⟨H, h⟩ | ⟨H, h⟩
          ·refine WC.condT' z H (sk ?_)
           exact At.join (σ := Bool) ay ⟨some1 h, z⟩ (.cons z (.cons z (.cons z (.cons z .nil))))
          ·refine WC.condF' z H (rg (wY (ym z) z (wY (Y.eql_b (b := 44) z z) z ?_)))
           obtain ⟨az, al, h⟩ := lt1 h
           refine WL.yE (ya z) (congrArg vB al.symm) z (nl ?_)
           exact At.join (σ := Bool) az ⟨some1 h, z⟩ (.cons z (.cons z (.cons z (.cons z .nil))))
      ·rintro aA _ ⟨rfl, rfl⟩
       replace h := af
       try dsimp only at h
       refine (show At _ _ _ [(13, e), (14, vi (a0.length : Int)), (15, vi j), (19, vB aA)] _ from ?_)
       refine th ?_
       rcases cnd h with ⟨I, h⟩ | ⟨I, h⟩
       ·refine WC.condT' z I (sq (rg (wY (ya z) z (nl (th (rt (At.inBlockR ?_)))))))
        have h := outs1 h Q
        refine At.joinR (At.inBlockR (At.thenR (At.loopR ?_)))
        have h := outr1 h o M
        refine At.joinBR (At.inBlockR (At.thenR ?_))
        obtain rfl := some1 h
        have am : Stp [] (Lg.O0 (fun _ => False)) w U d := (su_ J z)
        exact At.res (.inl z) z (.tmp z .nil) ⟨z, (se_ am z z)⟩
       ·refine WC.condF' z I (sk (At.inBlock ?_))
        exact At.join (σ := Unit) () ⟨go2 h, z⟩ (.cons z (.cons z (.cons z .nil)))
     ·rintro _ _ ⟨rfl, rfl⟩
      replace h := flowK_go Q
      refine (show At _ _ _ [(13, e), (14, vi (a0.length : Int)), (15, vi j)] _ from ?_)
      refine At.inBlock (th (rg (wY (Y.add_i z z) z (wY (ym z) z (nl ?_)))))
      exact At.round (w64 (j + 1)) ao (Nat.lt_succ_self _) ⟨next1 h o, z⟩ (.cons z (.cons z (.cons z .nil)))
    ·refine WC.condF' z t (WC.exit (At.thenX (At.loopX ?_)))
     exact At.hitB (σ := Unit) () ⟨brk1 h o, z⟩ .nil
   ·rintro _ _ ⟨rfl, rfl⟩
    replace h := flowK_go M
    refine (show At _ _ _ [] _ from ?_)
    refine At.inBlockHit (th (sq (rg (wY (ya z) z (nl (th (rt ?_)))))))
    obtain rfl := some1 h
    have an : Stp [] (Lg.O0 (fun _ => False)) w U d := (su_ J z)
    exact At.res (.inl z) z (.tmp z .nil) ⟨z, (se_ an z z)⟩
theorem c_label_Check {A : Nat → Prop} {a0 : List UInt8} {a1 : List api_Pair} {v1 : Value} {w : World} (hs1 : Sl rep_api_Pair w A v1 a1) {r0 : Int} (h : label_Check a0 a1 = some r0) : Rets Tryz.prog 32 [vs a0, v1] w (fun v w' => v = vi r0 ∧ Ext w w') := by
 unfold label_Check at h
 refine Rets.enter Tryz.func32 z z ?_
 have a8 : Sl rep_api_Pair w (imm (Lg.O0 A)) v1 a1 := (Sl.start hs1)
 refine (show WC _ _ _ _ [(0, vs a0), (1, v1)] _ from ?_)
 refine sq (rg (wY (ya z) z (nl (th (sq (sq (rg (wY (ym z) z ?_))))))))
 obtain ⟨cn, a9, h⟩ := bnd h
 refine WL.call (vals := [vs a0]) kok63 z z (c_label_isName a9) ?_
 rintro cc Q ⟨rfl, ba⟩
 obtain ⟨aa, bO, bP, l⟩ := adoptE (Lg.O0 A) (fun k => 1) ba
 refine wY (Y.not z) z (nl (th ?_))
 rcases cnd h with ⟨ad, h⟩ | ⟨ad, h⟩
 ·refine WC.condT' z ad (sq (rg (wY (ya z) z (nl (th (rt (At.thenR ?_)))))))
  obtain rfl := some1 h
  have bb : Stp [] (Lg.O0 A) w aa Q := (su_ l z)
  exact At.res (.inl z) z (.tmp z .nil) ⟨z, (se_ bb z z)⟩
 ·refine WC.condF' z ad (sk (th (sq (sq (rg (wY (ym z) z ?_))))))
  have ae := a8.i l z z
  refine wY (Y.len ty32 z ae) z (wY (Y.gtr_i z z) z (nl (th ?_)))
  rcases cnd h with ⟨af, h⟩ | ⟨af, h⟩
  ·refine WC.condT' z af (sq (rg (wY (ya z) z (nl (th (rt (At.thenR ?_)))))))
   obtain rfl := some1 h
   have bc : Stp [] (Lg.O0 A) w aa Q := (su_ l z)
   exact At.res (.inl z) z (.tmp z .nil) ⟨z, (se_ bc z z)⟩
  ·refine WC.condF' z af (sk (th (sq (sq (rg (wY (ym z) z (wY (Y.len ty32 z ae) z (wY (ym z) z (nl ?_)))))))))
   refine th (WC.block ?_)
   obtain ⟨a4, h, ah⟩ := flow1 h
   obtain ⟨a5, h⟩ := loop_some h
   refine WC.joinB 0 (σ := Own) (fun x w' => a4 = .go () ∧ Stp [11] aa Q x w') (fun x => []) ?_ ?_
   ·refine WC.loop (σ := (Int × Own)) (fun x k w' => loopN k (label_Check_lp1 a1) x.1 = some a4 ∧ Stp [11] aa Q x.2 w') (fun x => [(1, v1), (13, v1), (14, vi (a1.length : Int)), (15, vi x.1)]) (0, aa) a5 (.cons z (.cons z (.cons z (.cons z .nil)))) ⟨h, (sr_ _ _ _)⟩ ?_
    rintro ⟨G, a6⟩ a5 cd ⟨h, m⟩
    obtain ⟨bQ, co, rfl, h, S⟩ := rnd1 h
    unfold label_Check_lp1 at h
    try dsimp only at h m
    refine (show WC _ _ _ _ [(1, v1), (13, v1), (14, vi (a1.length : Int)), (15, vi G)] _ from ?_)
    refine sq (rg (wY (Y.lss_i z z) z (nl (th (sq ?_)))))
    rcases cnd h with ⟨ai, h⟩ | ⟨ai, h⟩
    ·refine WC.condT' z ai (sk (th (sq (WC.block (sq (rg (wY (ym z) z ?_)))))))
     obtain ⟨C, bd, h⟩ := bnd h
     have aq := ae.i m z z
     obtain ⟨cq, b5, b6, ce, bf, bg, bh, aj, aE, bi⟩ := Sl.at2 aq bd
     obtain ⟨_, _, rfl, rfl, rfl⟩ := aE
     replace aj : CellsAt _ _ _ [vs C.Key, vs C.Val] := aj
     have aF := CAt.imm aj bi
     refine wY (Y.indexAddr ty32 ty67 z bf z bg bh) z (wY (yL ty67 z z aF.at_ z) z (WL.alloc (O := a6) 11 [vs [], vs []] ty67 z z ?_))
     intro e bR cf D bj
     refine wY (ya z) z (WL.store (v := ag [vs C.Key, vs C.Val]) (cells' := [vs C.Key, vs C.Val]) ty67 z z bj z (le_ z) z z ?_)
     intro cg F ak
     refine nl (th (sq (sq (rg (wY (yf fo67_0 z) z (wY (yl ty9 z z (ak.cell 0 _ z)) z ?_))))))
     obtain ⟨cr, bk, h⟩ := bnd h
     refine WL.call (vals := [vs C.Key]) kok63 z z (c_label_isName bk) ?_
     rintro ch bl ⟨rfl, bm⟩
     obtain ⟨ar, bS, bT, o⟩ := adoptE bR (fun k => 1) bm
     refine wY (Y.not z) z (wY (ym z) z ?_)
     obtain ⟨bU, h, bn⟩ := bnd h
     refine WL.cut 5 (σ := (Bool × Own)) (fun x w' => x.1 = bU ∧ Stp [] ar bl x.2 w') (fun x => [(1, v1), (5, vi G), (6, pt e 0), (13, v1), (14, vi (a1.length : Int)), (15, vi G), (29, vB x.1)]) ?_ ?_
     ·rcases cnd h with ⟨al, h⟩ | ⟨al, h⟩
      ·refine WL.ren 24 z (congrArg vB al) (WL.gS z z z z (WL.gS z z z z (WL.gS z z z z (WL.gS z z z z (wY (Y.pick (b := true) z z) z ?_)))))
       exact nl (At.join (σ := (Bool × Own)) (true, ar) ⟨some1 h, (sr_ _ _ _)⟩ (.cons z (.cons z (.cons z (.cons z (.cons z (.cons z (.cons z .nil))))))))
      ·refine WL.ren 24 z (congrArg vB al) (ug z z (wY (yf fo67_1 z) z (ug z z ?_)))
       have bo := ak.st o z
       refine wY (yl ty9 z z (bo.cell 1 _ z)) z (ug z z ?_)
       obtain ⟨bW, bp, h⟩ := bnd h
       refine WL.call (vals := [vs C.Val]) kok64 z z (c_label_isValue bp) ?_
       rintro ci cj ⟨rfl, bq⟩
       obtain ⟨bX, bY, bZ, aG⟩ := adoptE ar (fun k => 1) bq
       refine ug z z (wY (Y.not z) z (wY (Y.pick (b := false) z z) z ?_))
       exact nl (At.join (σ := (Bool × Own)) ((!bW), bX) ⟨some1 h, (su_ aG z)⟩ (.cons z (.cons z (.cons z (.cons z (.cons z (.cons z (.cons z .nil))))))))
     ·rintro ⟨b0, K⟩ H ⟨rfl, t⟩
      replace h := bn
      try dsimp only at h t
      refine (show WL _ _ _ _ _ [(1, v1), (5, vi G), (6, pt e 0), (13, v1), (14, vi (a1.length : Int)), (15, vi G), (29, vB b0)] _ from ?_)
      refine nl (th ?_)
      rcases cnd h with ⟨am, h⟩ | ⟨am, h⟩
      ·refine WC.condT' z am (sq (rg (wY (ya z) z (nl (th (rt (At.thenR (At.inBlockR (At.thenR ?_)))))))))
       refine At.loopR ?_
       have h := outr1 h S ah
       refine At.joinBR (At.inBlockR (At.thenR ?_))
       obtain rfl := some1 h
       have br : Stp [11] (Lg.O0 A) w K H := (tr_ (su_ l z) (tr_ (su_ m z) (tr_ (su_ D z) (tr_ (su_ F z) (tr_ (su_ o z) (su_ t z))))))
       exact At.res (.inl z) z (.tmp z .nil) ⟨z, (se_ br z z)⟩
      ·refine WC.condF' z am (sk (th (sq (rg (wY (ym z) z (wY (ym z) z ?_))))))
       obtain ⟨au, bs, h⟩ := bnd h
       have bx := (((aq.i D z z).i F z z).i o z z).i t z z
       obtain ⟨M, bz, av⟩ := Sl.slice (ρ := [(30, v1), (31, vi G)]) (x := (.tmp 30)) (lo := none) (hi := (some (.tmp 31))) ty32 ty67 rfl rfl rfl bx bs
       refine wY (Y.sub (.cons z (.cons z .nil)) (bz _ _)) z (wY (Y.mkfunc (fv := []) (cv := [pt e 0]) z z) z ?_)
       obtain ⟨bA, h, aH⟩ := bnd h
       refine WL.callJ (vals := [M, Value.func (.func 66) (List.toArray []) (List.toArray [pt e 0])]) (σ := (Bool × Own)) (fun x w' => x.1 = bA ∧ Stp [] K H x.2 w') (fun x => vB x.1) kok65 z z ?_ ?_
       ·refine Rets.enter Tryz.func65 z z ?_
        refine (show WC _ _ _ _ [(0, M), (1, Value.func (.func 66) (List.toArray []) (List.toArray [pt e 0]))] _ from ?_)
        refine sq (rg (wY (ya z) z (nl (th (sq (rg (wY (ym z) z (wY (ym z) z ?_))))))))
        obtain ⟨bB, h, aI⟩ := bnd h
        refine WL.callJ (vals := [M, Value.func (.func 66) (List.toArray []) (List.toArray [pt e 0])]) (σ := (Int × Own)) (fun x w' => x.1 = bB ∧ Stp [] K H x.2 w') (fun x => vi x.1) kok108 z z ?_ ?_
        ·refine Rets.enter Tryz.func108 z z ?_
         refine (show WC _ _ _ _ [(0, M), (1, Value.func (.func 66) (List.toArray []) (List.toArray [pt e 0]))] _ from ?_)
         refine sq (rg (wY (ya z) z (nl (th (sq (sq (rg (wY (ym z) z (wY (Y.len ty32 z av) z ?_)))))))))
         refine wY (ym z) z (nl (th (WC.block ?_)))
         obtain ⟨ax, h, ap⟩ := flow1 h
         obtain ⟨ay, h⟩ := loop_some h
         refine WC.joinB 0 (σ := Own) (fun x w' => ax = .go () ∧ Stp [] K H x w') (fun x => []) ?_ ?_
         ·refine WC.loop (σ := (Int × Own)) (fun x k w' => loopN k (label_Check_lp2 C au) x.1 = some ax ∧ Stp [] K H x.2 w') (fun x => [(0, M), (1, Value.func (.func 66) (List.toArray []) (List.toArray [pt e 0])), (7, vi (au.length : Int)), (8, vi x.1)]) (0, K) ay (.cons z (.cons z (.cons z (.cons z .nil)))) ⟨h, (sr_ _ _ _)⟩ ?_
          rintro ⟨an, ao⟩ ay aJ ⟨h, d⟩
          obtain ⟨bC, ck, rfl, h, T⟩ := rnd1 h
          unfold label_Check_lp2 at h
          try dsimp only at h d
          refine (show WC _ _ _ _ [(0, M), (1, Value.func (.func 66) (List.toArray []) (List.toArray [pt e 0])), (7, vi (au.length : Int)), (8, vi an)] _ from ?_)
          refine sq (rg (wY (Y.lss_i z z) z (nl (th (sq ?_)))))
          rcases cnd h with ⟨U, h⟩ | ⟨U, h⟩
          ·refine WC.condT' z U (sk (th (sq (WC.block (sq (rg (wY (ym z) z (wY (ya z) z (nl ?_)))))))))
           refine th (sq (rg (wY (ym z) z (wY (ym z) z (wY (ym z) z ?_)))))
           obtain ⟨j, aK, h⟩ := bnd h
           have aL := av.i d z z
           obtain ⟨cl, b1, b2, b7, aM, aN, aO, V, az, aP⟩ := Sl.at2 aL aK
           obtain ⟨_, _, rfl, rfl, rfl⟩ := az
           replace V : CellsAt _ _ _ [vs j.Key, vs j.Val] := V
           have aA := CAt.imm V aP
           refine wY (Y.indexAddr ty32 ty67 z aM z aN aO) z (wY (yL ty67 z z aA.at_ z) z ?_)
           obtain ⟨bD, h, aQ⟩ := bnd h
           refine WL.callV (fv := []) (cv := [pt e 0]) (vals := [ag [vs j.Key, vs j.Val]]) (σ := (Bool × Own)) (fun x w' => x.1 = bD ∧ Stp [] ao aJ x.2 w') (fun x => vB x.1) kok66 z z z ?_ ?_
           ·refine Rets.enter Tryz.func66 z z ?_
            refine (show WC _ _ _ _ [(0, ag [vs j.Key, vs j.Val]), (1, pt e 0)] _ from ?_)
            refine sq (rg (WL.box (O := ao) 12 [vs j.Key, vs j.Val] z z z ?_))
            intro cm bE b8 ab aR
            refine wY (ya z) z (nl (th (sq (rg (wY (yf fo67_0 z) z (wY (yl ty9 z z (aR.cell 0 _ z)) z (wY (yf fo67_0 z) z ?_)))))))
            have aW := (((ak.st o z).st t z).st d z).st ab z
            refine wY (yl ty9 z z (aW.cell 0 _ z)) z (wY (Y.eql_s z z) z ?_)
            obtain ⟨bF, aX, h⟩ := lt1 h
            refine WL.yE (ya z) (congrArg vB aX.symm) z (nl (th (rt ?_)))
            exact At.res (.inl z) z (.tmp z .nil) ⟨(bF, bE), ⟨some1 h, (su_ ab z)⟩, z⟩
           ·rintro ⟨bG, aC⟩ b9 ⟨rfl, I⟩
            replace h := aQ
            try dsimp only at h I
            refine (show WL _ _ _ _ _ ((16, vB bG) :: _) _ from ?_)
            refine nl (th ?_)
            rcases cnd h with ⟨W, h⟩ | ⟨W, h⟩
            ·refine WC.condT' z W (sq (rg (wY (ym z) z (wY (ya z) z (nl (th (rt (At.inBlockR (At.thenR ?_)))))))))
             refine At.loopR ?_
             have h := outr1 h T ap
             refine At.joinBR (At.inBlockR (At.thenR ?_))
             exact At.res (.inl z) z (.tmp z .nil) ⟨(an, aC), ⟨some1 h, (tr_ (su_ d z) (su_ I z))⟩, z⟩
            ·refine WC.condF' z W (sk (At.inBlock (th (rg (wY (Y.add_i z z) z (wY (ym z) z (nl ?_)))))))
             exact At.round (w64 (an + 1), aC) bC (Nat.lt_succ_self _) ⟨next1 h T, (tr_ (su_ d z) (su_ I z))⟩ (.cons z (.cons z (.cons z (.cons z .nil))))
          ·refine WC.condF' z U (WC.exit (At.thenX (At.loopX ?_)))
           exact At.hitB (σ := Own) ao ⟨brk1 h T, (su_ d z)⟩ .nil
         ·rintro bH ca ⟨rfl, aD⟩
          replace h := flowK_go ap
          refine (show At _ _ _ [] _ from ?_)
          refine At.inBlockHit (th (sq (rg (wY (ya z) z (nl (th (rt ?_)))))))
          exact At.res (.inl z) z (.tmp z .nil) ⟨((-1), bH), ⟨some1 h, (su_ aD z)⟩, z⟩
        ·rintro ⟨bI, bJ⟩ cb ⟨rfl, ac⟩
         replace h := aI
         try dsimp only at h ac
         refine (show WL _ _ _ _ _ ((7, vi bI) :: _) _ from ?_)
         refine wY (Y.geq_i z z) z ?_
         obtain ⟨bK, aY, h⟩ := lt1 h
         refine WL.yE (ya z) (congrArg vB aY.symm) z (nl (th (rt ?_)))
         exact At.res (.inl z) z (.tmp z .nil) ⟨(bK, bJ), ⟨some1 h, (su_ ac z)⟩, z⟩
       ·rintro ⟨b3, a7⟩ bL ⟨rfl, J⟩
        replace h := aH
        try dsimp only at h J
        refine (show WL _ _ _ _ _ ((34, vB b3) :: _) _ from ?_)
        refine nl (th ?_)
        rcases cnd h with ⟨Z, h⟩ | ⟨Z, h⟩
        ·refine WC.condT' z Z (sq (rg (wY (ya z) z (nl (th (rt (At.inBlockR (At.thenR (At.loopR ?_)))))))))
         have h := outr1 h S ah
         refine At.joinBR (At.inBlockR (At.thenR ?_))
         obtain rfl := some1 h
         have aZ : Stp [11] (Lg.O0 A) w a7 bL := (tr_ (su_ l z) (tr_ (su_ m z) (tr_ (su_ D z) (tr_ (su_ F z) (tr_ (su_ o z) (tr_ (su_ t z) (su_ J z)))))))
         exact At.res (.inl z) z (.tmp z .nil) ⟨z, (se_ aZ z z)⟩
        ·refine WC.condF' z Z (sk (At.inBlock (th (rg (wY (Y.add_i z z) z (wY (ym z) z (nl ?_)))))))
         exact At.round (w64 (G + 1), a7) bQ (Nat.lt_succ_self _) ⟨next1 h S, (tr_ (su_ m z) (tr_ (su_ D z) (tr_ (su_ F z) (tr_ (su_ o z) (tr_ (su_ t z) (su_ J z))))))⟩ (.cons z (.cons z (.cons z (.cons z .nil))))
    ·refine WC.condF' z ai (WC.exit (At.thenX (At.loopX ?_)))
     exact At.hitB (σ := Own) a6 ⟨brk1 h S, (su_ m z)⟩ .nil
   ·rintro b4 bM ⟨rfl, a2⟩
    replace h := flowK_go ah
    refine (show At _ _ _ [] _ from ?_)
    refine At.inBlockHit (th (sq (rg (wY (ya z) z (nl (th (rt ?_)))))))
    obtain rfl := some1 h
    have a3 : Stp [11] (Lg.O0 A) w b4 bM := (tr_ (su_ l z) (su_ a2 z))
    exact At.res (.inl z) z (.tmp z .nil) ⟨z, (se_ a3 z z)⟩
theorem c_point_kinds {A : Nat → Prop} {v0_1 : Value} {v0_13 : Value} {v0_15 : Value} {a0 : api_Point} {w : World} (hs0_1 : Sl rep_api_Pair w A v0_1 a0.Attrs) (hs0_13 : Sl Rep.u w A v0_13 a0.Hist.Pos.Counts) (hs0_15 : Sl Rep.u w A v0_15 a0.Hist.Neg.Counts) {r0 : Bool} (h : point_kinds a0 = some r0) : Rets Tryz.prog 33 [ag (cp a0 v0_1 v0_13 v0_15)] w (fun v w' => v = vB r0 ∧ Ext w w') := by
 unfold point_kinds at h
 refine Rets.enter Tryz.func33 z z ?_
 have H : Sl rep_api_Pair w (imm (Lg.O0 A)) v0_1 a0.Attrs := (Sl.start hs0_1)
 have I : Sl Rep.u w (imm (Lg.O0 A)) v0_13 a0.Hist.Pos.Counts := (Sl.start hs0_13)
 have J : Sl Rep.u w (imm (Lg.O0 A)) v0_15 a0.Hist.Neg.Counts := (Sl.start hs0_15)
 refine (show WC _ _ _ _ [(0, ag (cp a0 v0_1 v0_13 v0_15))] _ from ?_)
 refine sq (rg ?_)
 have K := h
 obtain ⟨af, ah, ai, rfl⟩ := H.shape
 have h := K
 have M := h
 obtain ⟨aj, ak, al, rfl⟩ := I.shape
 have h := M
 have Q := h
 obtain ⟨am, an, ao, rfl⟩ := J.shape
 have h := Q
 refine WL.box (O := (Lg.O0 A)) 11 (cp a0 (vl af ah ai) (vl aj ak al) (vl am an ao)) z z z ?_
 intro G F d e j
 refine wY (ya z) z (nl (th (sq (sq (rg (wY (yf fo40_2 z) z (wY (yl ty3 z z (j.cell 2 _ z)) z (nl (th ?_)))))))))
 refine WC.block (sq (rg (wY (Y.eql_i z z) z ?_)))
 obtain ⟨ay, S, h⟩ := lt1 h
 refine WL.yE (ya z) (congrArg vB S.symm) z (nl (th ?_))
 rcases cnd h with ⟨l, h⟩ | ⟨l, h⟩
 ·refine WC.condT' z l (sq (rg (wY (yf fo40_3 z) z (wY (yl ty3 z z (j.cell 3 _ z)) z (wY (Y.eql_i z z) z ?_)))))
  obtain ⟨az, T, h⟩ := lt1 h
  refine WL.yE (ya z) (congrArg vB T.symm) z (nl (th (rt (At.inBlockR (At.thenR ?_)))))
  obtain rfl := some1 h
  have U : Stp [] (Lg.O0 A) w F d := (su_ e z)
  exact At.res (.inl z) z (.tmp z .nil) ⟨z, (se_ U z z)⟩
 ·refine WC.condF' z l (sq ?_)
  obtain ⟨ap, h, V⟩ := bnd h
  refine WC.join (σ := Bool) (fun x w' => x = ap ∧ d = w') (fun x => [(1, pt G 0), (10, vB x)]) ?_ ?_
  ·refine sq (rg (wY (Y.eql_i z z) z ?_))
   obtain ⟨aq, W, h⟩ := lt1 h
   refine WL.yE (ya z) (congrArg vB W.symm) z (nl (th ?_))
   rcases cnd h with ⟨m, h⟩ | ⟨m, h⟩
   ·refine WC.condT' z m (sk ?_)
    exact At.join (σ := Bool) aq ⟨some1 h, z⟩ (.cons z (.cons z .nil))
   ·refine WC.condF' z m (sq (rg (wY (Y.eql_i z z) z ?_)))
    obtain ⟨ar, Z, h⟩ := lt1 h
    refine WL.yE (ya z) (congrArg vB Z.symm) z (nl (th ?_))
    rcases cnd h with ⟨o, h⟩ | ⟨o, h⟩
    ·refine WC.condT' z o (sk ?_)
     exact At.join (σ := Bool) ar ⟨some1 h, z⟩ (.cons z (.cons z .nil))
    ·refine WC.condF' z o (sq (rg (wY (Y.eql_i z z) z ?_)))
     obtain ⟨au, aa, h⟩ := lt1 h
     refine WL.yE (ya z) (congrArg vB aa.symm) z (nl (th ?_))
     rcases cnd h with ⟨t, h⟩ | ⟨t, h⟩
     ·refine WC.condT' z t (sk ?_)
      exact At.join (σ := Bool) au ⟨some1 h, z⟩ (.cons z (.cons z .nil))
     ·refine WC.condF' z t (rg (wY (Y.eql_i z z) z ?_))
      obtain ⟨av, ab, h⟩ := lt1 h
      refine WL.yE (ya z) (congrArg vB ab.symm) z (nl ?_)
      exact At.join (σ := Bool) av ⟨some1 h, z⟩ (.cons z (.cons z .nil))
  ·rintro ax _ ⟨rfl, rfl⟩
   replace h := V
   try dsimp only at h
   refine (show At _ _ _ [(1, pt G 0), (10, vB ax)] _ from ?_)
   refine th ?_
   rcases cnd h with ⟨C, h⟩ | ⟨C, h⟩
   ·refine WC.condT' z C (sq (rg (wY (yf fo40_3 z) z (wY (yl ty3 z z (j.cell 3 _ z)) z (wY (Y.eql_i z z) z (wY (ym z) z ?_))))))
    refine WL.cut 4 (σ := Unit) (fun _ w' => d = w') (fun _ => [(22, vB ((decide (a0.Temp = 1)) || (decide (a0.Temp = 2))))]) ?_ ?_
    ·refine WL.part 18 z (fun D => ?_) (fun D => ?_)
     ·refine WL.gS z z z z (WL.gS z z z z (WL.gS z z z z (wY (Y.pick (b := true) z z) z (WL.ren (v' := vB ((decide (a0.Temp = 1)) || (decide (a0.Temp = 2)))) 22 z (congrArg vB (orT D)) ?_))))
      exact nl (At.join () z (.cons z .nil))
     ·refine ug z z (wY (yf fo40_3 z) z (ug z z (wY (yl ty3 z z (j.cell 3 _ z)) z (ug z z (wY (Y.eql_i z z) z (wY (Y.pick (b := false) z z) z (WL.ren (v' := vB ((decide (a0.Temp = 1)) || (decide (a0.Temp = 2)))) 22 z (congrArg vB (orF D)) ?_)))))))
      exact nl (At.join () z (.cons z .nil))
    ·rintro _ _ rfl
     refine (show WL _ _ _ _ _ [(22, vB ((decide (a0.Temp = 1)) || (decide (a0.Temp = 2))))] _ from ?_)
     obtain ⟨aA, ac, h⟩ := lt1 h
     refine WL.yE (ya z) (congrArg vB ac.symm) z (nl (th (rt (At.inBlockR (At.thenR ?_)))))
     obtain rfl := some1 h
     have ad : Stp [] (Lg.O0 A) w F d := (su_ e z)
     exact At.res (.inl z) z (.tmp z .nil) ⟨z, (se_ ad z z)⟩
   ·refine WC.condF' z C (sk (At.inBlock (th (sq (rg (wY (ya z) z (nl (th (rt ?_)))))))))
    obtain rfl := some1 h
    have ae : Stp [] (Lg.O0 A) w F d := (su_ e z)
    exact At.res (.inl z) z (.tmp z .nil) ⟨z, (se_ ae z z)⟩
theorem c_point_sum {A : Nat → Prop} {v0_1 : Value} {v0_13 : Value} {v0_15 : Value} {a0 : api_Point} {w : World} (hs0_1 : Sl rep_api_Pair w A v0_1 a0.Attrs) (hs0_13 : Sl Rep.u w A v0_13 a0.Hist.Pos.Counts) (hs0_15 : Sl Rep.u w A v0_15 a0.Hist.Neg.Counts) {r0 : Bool} (h : point_sum a0 = some r0) : Rets Tryz.prog 34 [ag (cp a0 v0_1 v0_13 v0_15)] w (fun v w' => v = vB r0 ∧ Ext w w') := by
 unfold point_sum at h
 refine Rets.enter Tryz.func34 z z ?_
 have m : Sl rep_api_Pair w (imm (Lg.O0 A)) v0_1 a0.Attrs := (Sl.start hs0_1)
 have o : Sl Rep.u w (imm (Lg.O0 A)) v0_13 a0.Hist.Pos.Counts := (Sl.start hs0_13)
 have t : Sl Rep.u w (imm (Lg.O0 A)) v0_15 a0.Hist.Neg.Counts := (Sl.start hs0_15)
 refine (show WC _ _ _ _ [(0, ag (cp a0 v0_1 v0_13 v0_15))] _ from ?_)
 refine sq (rg ?_)
 have C := h
 obtain ⟨I, J, K, rfl⟩ := m.shape
 have h := C
 have D := h
 obtain ⟨M, Q, S, rfl⟩ := o.shape
 have h := D
 have F := h
 obtain ⟨T, U, V, rfl⟩ := t.shape
 have h := F
 refine WL.box (O := (Lg.O0 A)) 11 (cp a0 (vl I J K) (vl M Q S) (vl T U V)) z z z ?_
 intro Z W e l j
 refine wY (ya z) z (nl (th (sq (rg (wY (yf fo40_2 z) z (wY (yl ty3 z z (j.cell 2 _ z)) z (wY (Y.eql_i z z) z (wY (ym z) z ?_))))))))
 refine WL.cut 4 (σ := Unit) (fun _ w' => e = w') (fun _ => [(10, vB ((decide (a0.Kind = 1)) || (decide (a0.Kind = 2))))]) ?_ ?_
 ·refine WL.part 6 z (fun d => ?_) (fun d => ?_)
  ·refine WL.gS z z z z (WL.gS z z z z (WL.gS z z z z (wY (Y.pick (b := true) z z) z (WL.ren (v' := vB ((decide (a0.Kind = 1)) || (decide (a0.Kind = 2)))) 10 z (congrArg vB (orT d)) ?_))))
   exact nl (At.join () z (.cons z .nil))
  ·refine ug z z (wY (yf fo40_2 z) z (ug z z (wY (yl ty3 z z (j.cell 2 _ z)) z (ug z z (wY (Y.eql_i z z) z (wY (Y.pick (b := false) z z) z (WL.ren (v' := vB ((decide (a0.Kind = 1)) || (decide (a0.Kind = 2)))) 10 z (congrArg vB (orF d)) ?_)))))))
   exact nl (At.join () z (.cons z .nil))
 ·rintro _ _ rfl
  refine (show WL _ _ _ _ _ [(10, vB ((decide (a0.Kind = 1)) || (decide (a0.Kind = 2))))] _ from ?_)
  obtain ⟨aa, G, h⟩ := lt1 h
  refine WL.yE (ya z) (congrArg vB G.symm) z (nl (th (rt ?_)))
  obtain rfl := some1 h
  have H : Stp [] (Lg.O0 A) w W e := (su_ l z)
  exact At.res (.inl z) z (.tmp z .nil) ⟨z, (se_ H z z)⟩
theorem c_point_times {A : Nat → Prop} {v0_1 : Value} {v0_13 : Value} {v0_15 : Value} {a0 : api_Point} {w : World} (hs0_1 : Sl rep_api_Pair w A v0_1 a0.Attrs) (hs0_13 : Sl Rep.u w A v0_13 a0.Hist.Pos.Counts) (hs0_15 : Sl Rep.u w A v0_15 a0.Hist.Neg.Counts) {r0 : Bool} (h : point_times a0 = some r0) : Rets Tryz.prog 35 [ag (cp a0 v0_1 v0_13 v0_15)] w (fun v w' => v = vB r0 ∧ Ext w w') := by
 unfold point_times at h
 refine Rets.enter Tryz.func35 z z ?_
 have D : Sl rep_api_Pair w (imm (Lg.O0 A)) v0_1 a0.Attrs := (Sl.start hs0_1)
 have F : Sl Rep.u w (imm (Lg.O0 A)) v0_13 a0.Hist.Pos.Counts := (Sl.start hs0_13)
 have G : Sl Rep.u w (imm (Lg.O0 A)) v0_15 a0.Hist.Neg.Counts := (Sl.start hs0_15)
 refine (show WC _ _ _ _ [(0, ag (cp a0 v0_1 v0_13 v0_15))] _ from ?_)
 refine sq (rg ?_)
 have H := h
 obtain ⟨U, V, W, rfl⟩ := D.shape
 have h := H
 have I := h
 obtain ⟨Z, aa, ab, rfl⟩ := F.shape
 have h := I
 have J := h
 obtain ⟨ac, ad, ae, rfl⟩ := G.shape
 have h := J
 refine WL.box (O := (Lg.O0 A)) 11 (cp a0 (vl U V W) (vl Z aa ab) (vl ac ad ae)) z z z ?_
 intro C t e j d
 refine wY (ya z) z (nl (th (sq (sq (rg (wY (yf fo40_5 z) z (wY (yl ty3 z z (d.cell 5 _ z)) z (wY (Y.lss_i z z) z (wY (ym z) z ?_)))))))))
 refine WL.cut 4 (σ := Unit) (fun _ w' => e = w') (fun _ => [(1, pt C 0), (10, vB ((decide (a0.Start < 0)) || (decide (4503599627370496 < a0.Time))))]) ?_ ?_
 ·refine WL.part 6 z (fun l => ?_) (fun l => ?_)
  ·refine WL.gS z z z z (WL.gS z z z z (WL.gS z z z z (wY (Y.pick (b := true) z z) z (WL.ren (v' := vB ((decide (a0.Start < 0)) || (decide (4503599627370496 < a0.Time)))) 10 z (congrArg vB (orT l)) ?_))))
   exact nl (At.join () z (.cons z (.cons z .nil)))
  ·refine ug z z (wY (yf fo40_6 z) z (ug z z (wY (yl ty3 z z (d.cell 6 _ z)) z (ug z z (wY (Y.gtr_i z z) z (wY (Y.pick (b := false) z z) z (WL.ren (v' := vB ((decide (a0.Start < 0)) || (decide (4503599627370496 < a0.Time)))) 10 z (congrArg vB (orF l)) ?_)))))))
   exact nl (At.join () z (.cons z (.cons z .nil)))
 ·rintro _ _ rfl
  refine (show WL _ _ _ _ _ [(1, pt C 0), (10, vB ((decide (a0.Start < 0)) || (decide (4503599627370496 < a0.Time))))] _ from ?_)
  refine nl (th ?_)
  rcases cnd h with ⟨m, h⟩ | ⟨m, h⟩
  ·refine WC.condT' z m (sq (rg (wY (ya z) z (nl (th (rt (At.thenR ?_)))))))
   obtain rfl := some1 h
   have K : Stp [] (Lg.O0 A) w t e := (su_ j z)
   exact At.res (.inl z) z (.tmp z .nil) ⟨z, (se_ K z z)⟩
  ·refine WC.condF' z m (sk (th (sq (sq (rg (wY (yf fo40_2 z) z (wY (yl ty3 z z (d.cell 2 _ z)) z (wY (Y.eql_i z z) z (nl ?_)))))))))
   refine th ?_
   rcases cnd h with ⟨o, h⟩ | ⟨o, h⟩
   ·refine WC.condT' z o (sq (rg (wY (yf fo40_5 z) z (wY (yl ty3 z z (d.cell 5 _ z)) z (wY (yf fo40_6 z) z (wY (yl ty3 z z (d.cell 6 _ z)) z (wY (Y.eql_i z z) z ?_)))))))
    obtain ⟨af, M, h⟩ := lt1 h
    refine WL.yE (ya z) (congrArg vB M.symm) z (nl (th (rt (At.thenR ?_))))
    obtain rfl := some1 h
    have Q : Stp [] (Lg.O0 A) w t e := (su_ j z)
    exact At.res (.inl z) z (.tmp z .nil) ⟨z, (se_ Q z z)⟩
   ·refine WC.condF' z o (sk (th (sq (rg (wY (yf fo40_5 z) z (wY (yl ty3 z z (d.cell 5 _ z)) z (wY (yf fo40_6 z) z (wY (yl ty3 z z (d.cell 6 _ z)) z (wY (Y.lss_i z z) z ?_)))))))))
    obtain ⟨ah, S, h⟩ := lt1 h
    refine WL.yE (ya z) (congrArg vB S.symm) z (nl (th (rt ?_)))
    obtain rfl := some1 h
    have T : Stp [] (Lg.O0 A) w t e := (su_ j z)
    exact At.res (.inl z) z (.tmp z .nil) ⟨z, (se_ T z z)⟩
theorem c_point_bare {A : Nat → Prop} {v0_3 : Value} {v0_5 : Value} {a0 : api_Hist} {w : World} (hs0_3 : Sl Rep.u w A v0_3 a0.Pos.Counts) (hs0_5 : Sl Rep.u w A v0_5 a0.Neg.Counts) {r0 : Bool} (h : point_bare a0 = some r0) : Rets Tryz.prog 67 [ag (hl a0 v0_3 v0_5)] w (fun v w' => v = vB r0 ∧ Ext w w') := by
 unfold point_bare at h
 refine Rets.enter Tryz.func67 z z ?_
 have D : Sl Rep.u w (imm (Lg.O0 A)) v0_3 a0.Pos.Counts := (Sl.start hs0_3)
 have F : Sl Rep.u w (imm (Lg.O0 A)) v0_5 a0.Neg.Counts := (Sl.start hs0_5)
 refine (show WC _ _ _ _ [(0, ag (hl a0 v0_3 v0_5))] _ from ?_)
 refine sq (rg ?_)
 have G := h
 obtain ⟨Q, S, T, rfl⟩ := D.shape
 have h := G
 have H := h
 obtain ⟨U, V, W, rfl⟩ := F.shape
 have h := H
 refine WL.box (O := (Lg.O0 A)) 11 (hl a0 (vl Q S T) (vl U V W)) z z z ?_
 intro j Z e l d
 refine wY (ya z) z (nl (th (sq (rg (wY (yf fo38_0 z) z (wY (yl ty3 z z (d.cell 0 _ z)) z (wY (Y.eql_i z z) z (wY (ym z) z ?_))))))))
 refine WL.cut 4 (σ := Unit) (fun _ w' => e = w') (fun _ => [(1, pt j 0), (10, vB ((decide (a0.Scale = 0)) && (decide (a0.Zero = 0))))]) ?_ ?_
 ·refine WL.part 6 z (fun m => ?_) (fun m => ?_)
  ·refine ug z z (wY (yf fo38_1 z) z (ug z z (wY (yl ty33 z z (d.cell 1 _ z)) z (ug z z (wY (Y.eql_u (b := 0) z z) z (wY (Y.pick (b := true) z z) z (WL.ren (v' := vB ((decide (a0.Scale = 0)) && (decide (a0.Zero = 0)))) 10 z (congrArg vB (andT m)) ?_)))))))
   exact nl (At.join () z (.cons z (.cons z .nil)))
  ·refine WL.gS z z z z (WL.gS z z z z (WL.gS z z z z (wY (Y.pick (b := false) z z) z (WL.ren (v' := vB ((decide (a0.Scale = 0)) && (decide (a0.Zero = 0)))) 10 z (congrArg vB (andF m)) ?_))))
   exact nl (At.join () z (.cons z (.cons z .nil)))
 ·rintro _ _ rfl
  refine (show WL _ _ _ _ _ [(1, pt j 0), (10, vB ((decide (a0.Scale = 0)) && (decide (a0.Zero = 0))))] _ from ?_)
  refine wY (ym z) z ?_
  refine WL.cut 5 (σ := Unit) (fun _ w' => e = w') (fun _ => [(1, pt j 0), (16, vB (((decide (a0.Scale = 0)) && (decide (a0.Zero = 0))) && (decide (a0.Pos.Offset = 0))))]) ?_ ?_
  ·refine WL.part 11 z (fun o => ?_) (fun o => ?_)
   ·refine ug z z (wY (yf fo38_2 z) z (ug z z (wY (yf fo36_0 z) z (ug z z (wY (yl ty3 z z (d.cell 2 _ z)) z (ug z z (wY (Y.eql_i z z) z (wY (Y.pick (b := true) z z) z (WL.ren (v' := vB (((decide (a0.Scale = 0)) && (decide (a0.Zero = 0))) && (decide (a0.Pos.Offset = 0)))) 16 z (congrArg vB (andT o)) ?_)))))))))
    exact nl (At.join () z (.cons z (.cons z .nil)))
   ·refine WL.gS z z z z (WL.gS z z z z (WL.gS z z z z (WL.gS z z z z (wY (Y.pick (b := false) z z) z (WL.ren (v' := vB (((decide (a0.Scale = 0)) && (decide (a0.Zero = 0))) && (decide (a0.Pos.Offset = 0)))) 16 z (congrArg vB (andF o)) ?_)))))
    exact nl (At.join () z (.cons z (.cons z .nil)))
  ·rintro _ _ rfl
   refine (show WL _ _ _ _ _ [(1, pt j 0), (16, vB (((decide (a0.Scale = 0)) && (decide (a0.Zero = 0))) && (decide (a0.Pos.Offset = 0))))] _ from ?_)
   refine wY (ym z) z ?_
   refine WL.cut 5 (σ := Unit) (fun _ w' => e = w') (fun _ => [(1, pt j 0), (22, vB ((((decide (a0.Scale = 0)) && (decide (a0.Zero = 0))) && (decide (a0.Pos.Offset = 0))) && (decide (a0.Neg.Offset = 0))))]) ?_ ?_
   ·refine WL.part 17 z (fun t => ?_) (fun t => ?_)
    ·refine ug z z (wY (yf fo38_3 z) z (ug z z (wY (yf fo36_0 z) z (ug z z (wY (yl ty3 z z (d.cell 4 _ z)) z (ug z z (wY (Y.eql_i z z) z (wY (Y.pick (b := true) z z) z (WL.ren (v' := vB ((((decide (a0.Scale = 0)) && (decide (a0.Zero = 0))) && (decide (a0.Pos.Offset = 0))) && (decide (a0.Neg.Offset = 0)))) 22 z (congrArg vB (andT t)) ?_)))))))))
     exact nl (At.join () z (.cons z (.cons z .nil)))
    ·refine WL.gS z z z z (WL.gS z z z z (WL.gS z z z z (WL.gS z z z z (wY (Y.pick (b := false) z z) z (WL.ren (v' := vB ((((decide (a0.Scale = 0)) && (decide (a0.Zero = 0))) && (decide (a0.Pos.Offset = 0))) && (decide (a0.Neg.Offset = 0)))) 22 z (congrArg vB (andF t)) ?_)))))
     exact nl (At.join () z (.cons z (.cons z .nil)))
   ·rintro _ _ rfl
    refine (show WL _ _ _ _ _ [(1, pt j 0), (22, vB ((((decide (a0.Scale = 0)) && (decide (a0.Zero = 0))) && (decide (a0.Pos.Offset = 0))) && (decide (a0.Neg.Offset = 0))))] _ from ?_)
    refine wY (ym z) z ?_
    refine WL.cut 11 (σ := Unit) (fun _ w' => e = w') (fun _ => [(34, vB (((((decide (a0.Scale = 0)) && (decide (a0.Zero = 0))) && (decide (a0.Pos.Offset = 0))) && (decide (a0.Neg.Offset = 0))) && (decide (w64 ((a0.Pos.Counts.length : Int) + (a0.Neg.Counts.length : Int)) = 0))))]) ?_ ?_
    ·refine WL.part 23 z (fun C => ?_) (fun C => ?_)
     ·refine ug z z (wY (yf fo38_2 z) z (ug z z (wY (yf fo36_1 z) z (ug z z (wY (yl ty34 z z (d.cell 3 _ z)) z (ug z z ?_))))))
      have I := D.i l z z
      refine wY (Y.len ty34 z I) z (ug z z (wY (yf fo38_3 z) z (ug z z (wY (yf fo36_1 z) z (ug z z (wY (yl ty34 z z (d.cell 5 _ z)) z (ug z z ?_)))))))
      have J := F.i l z z
      refine wY (Y.len ty34 z J) z (ug z z (wY (Y.add_i z z) z (ug z z (wY (Y.eql_i z z) z (wY (Y.pick (b := true) z z) z (WL.ren (v' := vB (((((decide (a0.Scale = 0)) && (decide (a0.Zero = 0))) && (decide (a0.Pos.Offset = 0))) && (decide (a0.Neg.Offset = 0))) && (decide (w64 ((a0.Pos.Counts.length : Int) + (a0.Neg.Counts.length : Int)) = 0)))) 34 z (congrArg vB (andT C)) ?_))))))
      exact nl (At.join () z (.cons z .nil))
     ·refine WL.gS z z z z (WL.gS z z z z (WL.gS z z z z (WL.gS z z z z (WL.gS z z z z (WL.gS z z z z (WL.gS z z z z (WL.gS z z z z (WL.gS z z z z (WL.gS z z z z ?_)))))))))
      refine wY (Y.pick (b := false) z z) z (WL.ren (v' := vB (((((decide (a0.Scale = 0)) && (decide (a0.Zero = 0))) && (decide (a0.Pos.Offset = 0))) && (decide (a0.Neg.Offset = 0))) && (decide (w64 ((a0.Pos.Counts.length : Int) + (a0.Neg.Counts.length : Int)) = 0)))) 34 z (congrArg vB (andF C)) ?_)
      exact nl (At.join () z (.cons z .nil))
    ·rintro _ _ rfl
     refine (show WL _ _ _ _ _ [(34, vB (((((decide (a0.Scale = 0)) && (decide (a0.Zero = 0))) && (decide (a0.Pos.Offset = 0))) && (decide (a0.Neg.Offset = 0))) && (decide (w64 ((a0.Pos.Counts.length : Int) + (a0.Neg.Counts.length : Int)) = 0))))] _ from ?_)
     obtain ⟨aa, K, h⟩ := lt1 h
     refine WL.yE (ya z) (congrArg vB K.symm) z (nl (th (rt ?_)))
     obtain rfl := some1 h
     have M : Stp [] (Lg.O0 A) w Z e := (su_ l z)
     exact At.res (.inl z) z (.tmp z .nil) ⟨z, (se_ M z z)⟩
theorem c_point_own {A : Nat → Prop} {v0_1 : Value} {v0_13 : Value} {v0_15 : Value} {a0 : api_Point} {w : World} (hs0_1 : Sl rep_api_Pair w A v0_1 a0.Attrs) (hs0_13 : Sl Rep.u w A v0_13 a0.Hist.Pos.Counts) (hs0_15 : Sl Rep.u w A v0_15 a0.Hist.Neg.Counts) {r0 : Bool} (h : point_own a0 = some r0) : Rets Tryz.prog 36 [ag (cp a0 v0_1 v0_13 v0_15)] w (fun v w' => v = vB r0 ∧ Ext w w') := by
 unfold point_own at h
 refine Rets.enter Tryz.func36 z z ?_
 have ao : Sl rep_api_Pair w (imm (Lg.O0 A)) v0_1 a0.Attrs := (Sl.start hs0_1)
 have ad : Sl Rep.u w (imm (Lg.O0 A)) v0_13 a0.Hist.Pos.Counts := (Sl.start hs0_13)
 have ae : Sl Rep.u w (imm (Lg.O0 A)) v0_15 a0.Hist.Neg.Counts := (Sl.start hs0_15)
 refine (show WC _ _ _ _ [(0, ag (cp a0 v0_1 v0_13 v0_15))] _ from ?_)
 refine sq (rg ?_)
 have ap := h
 obtain ⟨aP, aQ, aR, rfl⟩ := ao.shape
 have h := ap
 have aq := h
 obtain ⟨af, ah, ai, rfl⟩ := ad.shape
 have h := aq
 have ar := h
 obtain ⟨aj, ak, al, rfl⟩ := ae.shape
 have h := ar
 refine WL.box (O := (Lg.O0 A)) 11 (cp a0 (vl aP aQ aR) (vl af ah ai) (vl aj ak al)) z z z ?_
 intro m t e d l
 refine wY (ya z) z (nl (th (sq (rg (wY (yf fo40_2 z) z (wY (yl ty3 z z (l.cell 2 _ z)) z (wY (Y.eql_i z z) z (wY (ym z) z ?_))))))))
 refine WL.cut 4 (σ := Unit) (fun _ w' => e = w') (fun _ => [(1, pt m 0), (11, vB ((decide (a0.Kind = 2)) || (decide (a0.Kind = 3))))]) ?_ ?_
 ·refine WL.part 7 z (fun D => ?_) (fun D => ?_)
  ·refine WL.gS z z z z (WL.gS z z z z (WL.gS z z z z (wY (Y.pick (b := true) z z) z (WL.ren (v' := vB ((decide (a0.Kind = 2)) || (decide (a0.Kind = 3)))) 11 z (congrArg vB (orT D)) ?_))))
   exact nl (At.join () z (.cons z (.cons z .nil)))
  ·refine ug z z (wY (yf fo40_2 z) z (ug z z (wY (yl ty3 z z (l.cell 2 _ z)) z (ug z z (wY (Y.eql_i z z) z (wY (Y.pick (b := false) z z) z (WL.ren (v' := vB ((decide (a0.Kind = 2)) || (decide (a0.Kind = 3)))) 11 z (congrArg vB (orF D)) ?_)))))))
   exact nl (At.join () z (.cons z (.cons z .nil)))
 ·rintro _ _ rfl
  refine (show WL _ _ _ _ _ [(1, pt m 0), (11, vB ((decide (a0.Kind = 2)) || (decide (a0.Kind = 3))))] _ from ?_)
  refine wY (ym z) z ?_
  refine WL.cut 4 (σ := Unit) (fun _ w' => e = w') (fun _ => [(1, pt m 0), (16, vB (((decide (a0.Kind = 2)) || (decide (a0.Kind = 3))) || (decide (a0.Kind = 5))))]) ?_ ?_
  ·refine WL.part 12 z (fun F => ?_) (fun F => ?_)
   ·refine WL.gS z z z z (WL.gS z z z z (WL.gS z z z z (wY (Y.pick (b := true) z z) z (WL.ren (v' := vB (((decide (a0.Kind = 2)) || (decide (a0.Kind = 3))) || (decide (a0.Kind = 5)))) 16 z (congrArg vB (orT F)) ?_))))
    exact nl (At.join () z (.cons z (.cons z .nil)))
   ·refine ug z z (wY (yf fo40_2 z) z (ug z z (wY (yl ty3 z z (l.cell 2 _ z)) z (ug z z (wY (Y.eql_i z z) z (wY (Y.pick (b := false) z z) z (WL.ren (v' := vB (((decide (a0.Kind = 2)) || (decide (a0.Kind = 3))) || (decide (a0.Kind = 5)))) 16 z (congrArg vB (orF F)) ?_)))))))
    exact nl (At.join () z (.cons z (.cons z .nil)))
  ·rintro _ _ rfl
   refine (show WL _ _ _ _ _ [(1, pt m 0), (16, vB (((decide (a0.Kind = 2)) || (decide (a0.Kind = 3))) || (decide (a0.Kind = 5))))] _ from ?_)
   obtain ⟨j, G, h⟩ := lt1 h
   refine WL.yE (ya z) (congrArg vB G.symm) z (nl (th (sq (WC.block (sq (sq (rg (wY (yf fo40_2 z) z (wY (yl ty3 z z (l.cell 2 _ z)) z ?_)))))))))
   refine wY (Y.neq_i z z) z (wY (ym z) z ?_)
   refine WL.cut 4 (σ := Unit) (fun _ w' => e = w') (fun _ => [(1, pt m 0), (3, vB j), (25, vB ((!decide (a0.Kind = 1)) && (!decide (a0.Int_ = 0))))]) ?_ ?_
   ·refine WL.part 21 z (fun H => ?_) (fun H => ?_)
    ·refine ug z z (wY (yf fo40_7 z) z (ug z z (wY (yl ty3 z z (l.cell 7 _ z)) z (ug z z (wY (Y.neq_i z z) z (wY (Y.pick (b := true) z z) z (WL.ren (v' := vB ((!decide (a0.Kind = 1)) && (!decide (a0.Int_ = 0)))) 25 z (congrArg vB (andT H)) ?_)))))))
     exact nl (At.join () z (.cons z (.cons z (.cons z .nil))))
    ·refine WL.gS z z z z (WL.gS z z z z (WL.gS z z z z (wY (Y.pick (b := false) z z) z (WL.ren (v' := vB ((!decide (a0.Kind = 1)) && (!decide (a0.Int_ = 0)))) 25 z (congrArg vB (andF H)) ?_))))
     exact nl (At.join () z (.cons z (.cons z (.cons z .nil))))
   ·rintro _ _ rfl
    refine (show WL _ _ _ _ _ [(1, pt m 0), (3, vB j), (25, vB ((!decide (a0.Kind = 1)) && (!decide (a0.Int_ = 0))))] _ from ?_)
    obtain ⟨a2, au, h⟩ := lt1 h
    refine WL.yE (ya z) (congrArg vB au.symm) z (nl (th ?_))
    rcases cnd h with ⟨I, h⟩ | ⟨I, h⟩
    ·refine WC.condT' z I (sk (th ?_))
     rcases cnd h with ⟨J, h⟩ | ⟨J, h⟩
     ·refine WC.condT' z J (sq (rg (wY (ya z) z (nl (th (rt (At.inBlockR (At.thenR ?_))))))))
      obtain rfl := some1 h
      have av : Stp [] (Lg.O0 A) w t e := (su_ d z)
      exact At.res (.inl z) z (.tmp z .nil) ⟨z, (se_ av z z)⟩
     ·refine WC.condF' z J (sk (At.inBlock (th (sq (rg (wY (ya z) z (nl (th (rt ?_)))))))))
      obtain rfl := some1 h
      have ax : Stp [] (Lg.O0 A) w t e := (su_ d z)
      exact At.res (.inl z) z (.tmp z .nil) ⟨z, (se_ ax z z)⟩
    ·refine WC.condF' z I (sq (rg (wY (ym z) z (wY (Y.not z) z (wY (ym z) z ?_)))))
     refine WL.cut 4 (σ := Unit) (fun _ w' => e = w') (fun _ => [(1, pt m 0), (32, vB ((!j) && (!decide (a0.Re = 0))))]) ?_ ?_
     ·refine WL.part 28 z (fun K => ?_) (fun K => ?_)
      ·refine ug z z (wY (yf fo40_8 z) z (ug z z (wY (yl ty33 z z (l.cell 8 _ z)) z (ug z z (wY (Y.neq_u (b := 0) z z) z (wY (Y.pick (b := true) z z) z (WL.ren (v' := vB ((!j) && (!decide (a0.Re = 0)))) 32 z (congrArg vB (andT K)) ?_)))))))
       exact nl (At.join () z (.cons z (.cons z .nil)))
      ·refine WL.gS z z z z (WL.gS z z z z (WL.gS z z z z (wY (Y.pick (b := false) z z) z (WL.ren (v' := vB ((!j) && (!decide (a0.Re = 0)))) 32 z (congrArg vB (andF K)) ?_))))
       exact nl (At.join () z (.cons z (.cons z .nil)))
     ·rintro _ _ rfl
      refine (show WL _ _ _ _ _ [(1, pt m 0), (32, vB ((!j) && (!decide (a0.Re = 0))))] _ from ?_)
      obtain ⟨a3, ay, h⟩ := lt1 h
      refine WL.yE (ya z) (congrArg vB ay.symm) z (nl (th ?_))
      rcases cnd h with ⟨M, h⟩ | ⟨M, h⟩
      ·refine WC.condT' z M (sk (th ?_))
       rcases cnd h with ⟨Q, h⟩ | ⟨Q, h⟩
       ·refine WC.condT' z Q (sq (rg (wY (ya z) z (nl (th (rt (At.inBlockR (At.thenR ?_))))))))
        obtain rfl := some1 h
        have az : Stp [] (Lg.O0 A) w t e := (su_ d z)
        exact At.res (.inl z) z (.tmp z .nil) ⟨z, (se_ az z z)⟩
       ·refine WC.condF' z Q (sk (At.inBlock (th (sq (rg (wY (ya z) z (nl (th (rt ?_)))))))))
        obtain rfl := some1 h
        have aA : Stp [] (Lg.O0 A) w t e := (su_ d z)
        exact At.res (.inl z) z (.tmp z .nil) ⟨z, (se_ aA z z)⟩
      ·refine WC.condF' z M (sq (rg (wY (yf fo40_2 z) z (wY (yl ty3 z z (l.cell 2 _ z)) z (wY (Y.neq_i z z) z (wY (ym z) z ?_))))))
       refine WL.cut 4 (σ := Unit) (fun _ w' => e = w') (fun _ => [(1, pt m 0), (40, vB ((!decide (a0.Kind = 5)) && (!decide (a0.Im = 0))))]) ?_ ?_
       ·refine WL.part 36 z (fun S => ?_) (fun S => ?_)
        ·refine ug z z (wY (yf fo40_9 z) z (ug z z (wY (yl ty33 z z (l.cell 9 _ z)) z (ug z z (wY (Y.neq_u (b := 0) z z) z (wY (Y.pick (b := true) z z) z (WL.ren (v' := vB ((!decide (a0.Kind = 5)) && (!decide (a0.Im = 0)))) 40 z (congrArg vB (andT S)) ?_)))))))
         exact nl (At.join () z (.cons z (.cons z .nil)))
        ·refine WL.gS z z z z (WL.gS z z z z (WL.gS z z z z (wY (Y.pick (b := false) z z) z (WL.ren (v' := vB ((!decide (a0.Kind = 5)) && (!decide (a0.Im = 0)))) 40 z (congrArg vB (andF S)) ?_))))
         exact nl (At.join () z (.cons z (.cons z .nil)))
       ·rintro _ _ rfl
        refine (show WL _ _ _ _ _ [(1, pt m 0), (40, vB ((!decide (a0.Kind = 5)) && (!decide (a0.Im = 0))))] _ from ?_)
        obtain ⟨a4, aC, h⟩ := lt1 h
        refine WL.yE (ya z) (congrArg vB aC.symm) z (nl (th ?_))
        rcases cnd h with ⟨T, h⟩ | ⟨T, h⟩
        ·refine WC.condT' z T (sk (th ?_))
         rcases cnd h with ⟨U, h⟩ | ⟨U, h⟩
         ·refine WC.condT' z U (sq (rg (wY (ya z) z (nl (th (rt (At.inBlockR (At.thenR ?_))))))))
          obtain rfl := some1 h
          have aD : Stp [] (Lg.O0 A) w t e := (su_ d z)
          exact At.res (.inl z) z (.tmp z .nil) ⟨z, (se_ aD z z)⟩
         ·refine WC.condF' z U (sk (At.inBlock (th (sq (rg (wY (ya z) z (nl (th (rt ?_)))))))))
          obtain rfl := some1 h
          have aE : Stp [] (Lg.O0 A) w t e := (su_ d z)
          exact At.res (.inl z) z (.tmp z .nil) ⟨z, (se_ aE z z)⟩
        ·refine WC.condF' z T (sq (rg (wY (yf fo40_2 z) z (wY (yl ty3 z z (l.cell 2 _ z)) z (wY (Y.neq_i z z) z (wY (ym z) z ?_))))))
         obtain ⟨aS, h, aF⟩ := bnd h
         refine WL.cut 5 (σ := (Bool × Own)) (fun x w' => x.1 = aS ∧ Stp [] t e x.2 w') (fun x => [(1, pt m 0), (49, vB x.1)]) ?_ ?_
         ·rcases cnd h with ⟨V, h⟩ | ⟨V, h⟩
          ·refine WL.ren 44 z (congrArg vB V) (ug z z (wY (yf fo40_10 z) z (ug z z (wY (yL ty38 z z (l.cells 10 (hl a0.Hist (vl af ah ai) (vl aj ak al)) z) z) z (ug z z ?_)))))
           have aG := ad.i d z z
           have aH := ae.i d z z
           obtain ⟨aT, aI, h⟩ := bnd h
           refine WL.call (vals := [ag (hl a0.Hist (vl af ah ai) (vl aj ak al))]) kok67 z z (c_point_bare (A := fun _ => True) (a0 := a0.Hist) (Sl.all aG) (Sl.all aH) aI) ?_
           rintro aZ a1 ⟨rfl, aJ⟩
           obtain ⟨aU, aW, aX, an⟩ := adoptE t (fun k => 1) aJ
           refine ug z z (wY (Y.not z) z (wY (Y.pick (b := true) z z) z ?_))
           exact nl (At.join (σ := (Bool × Own)) ((!aT), aU) ⟨some1 h, (su_ an z)⟩ (.cons z (.cons z .nil)))
          ·refine WL.ren 44 z (congrArg vB V) (WL.gS z z z z (WL.gS z z z z (WL.gS z z z z (WL.gS z z z z (wY (Y.pick (b := false) z z) z ?_)))))
           exact nl (At.join (σ := (Bool × Own)) (false, t) ⟨some1 h, (sr_ _ _ _)⟩ (.cons z (.cons z .nil)))
         ·rintro ⟨aY, ac⟩ C ⟨rfl, o⟩
          replace h := aF
          try dsimp only at h o
          refine (show WL _ _ _ _ _ [(1, pt m 0), (49, vB aY)] _ from ?_)
          refine wY (ya z) z (nl (th ?_))
          rcases cnd h with ⟨W, h⟩ | ⟨W, h⟩
          ·refine WC.condT' z W (sk (th ?_))
           rcases cnd h with ⟨Z, h⟩ | ⟨Z, h⟩
           ·refine WC.condT' z Z (sq (rg (wY (ya z) z (nl (th (rt (At.inBlockR (At.thenR ?_))))))))
            obtain rfl := some1 h
            have aK : Stp [] (Lg.O0 A) w ac C := (tr_ (su_ d z) (su_ o z))
            exact At.res (.inl z) z (.tmp z .nil) ⟨z, (se_ aK z z)⟩
           ·refine WC.condF' z Z (sk (At.inBlock (th (sq (rg (wY (ya z) z (nl (th (rt ?_)))))))))
            obtain rfl := some1 h
            have aL : Stp [] (Lg.O0 A) w ac C := (tr_ (su_ d z) (su_ o z))
            exact At.res (.inl z) z (.tmp z .nil) ⟨z, (se_ aL z z)⟩
          ·refine WC.condF' z W (rg (wY (yf fo40_11 z) z ?_))
           have am := l.st o z
           refine wY (yl ty3 z z (am.cell 16 _ z)) z (wY (Y.lss_i z z) z (wY (ym z) z ?_))
           refine WL.cut 4 (σ := Unit) (fun _ w' => C = w') (fun _ => [(57, vB ((decide (a0.Flags < 0)) || (decide (31 < a0.Flags))))]) ?_ ?_
           ·refine WL.part 53 z (fun aa => ?_) (fun aa => ?_)
            ·refine WL.gS z z z z (WL.gS z z z z (WL.gS z z z z (wY (Y.pick (b := true) z z) z (WL.ren (v' := vB ((decide (a0.Flags < 0)) || (decide (31 < a0.Flags)))) 57 z (congrArg vB (orT aa)) ?_))))
             exact nl (At.join () z (.cons z .nil))
            ·refine ug z z (wY (yf fo40_11 z) z (ug z z (wY (yl ty3 z z (am.cell 16 _ z)) z (ug z z (wY (Y.gtr_i z z) z (wY (Y.pick (b := false) z z) z (WL.ren (v' := vB ((decide (a0.Flags < 0)) || (decide (31 < a0.Flags)))) 57 z (congrArg vB (orF aa)) ?_)))))))
             exact nl (At.join () z (.cons z .nil))
           ·rintro _ _ rfl
            refine (show WL _ _ _ _ _ [(57, vB ((decide (a0.Flags < 0)) || (decide (31 < a0.Flags))))] _ from ?_)
            obtain ⟨a5, aM, h⟩ := lt1 h
            refine WL.yE (ya z) (congrArg vB aM.symm) z (nl (th ?_))
            rcases cnd h with ⟨ab, h⟩ | ⟨ab, h⟩
            ·refine WC.condT' z ab (sq (rg (wY (ya z) z (nl (th (rt (At.inBlockR (At.thenR ?_))))))))
             obtain rfl := some1 h
             have aN : Stp [] (Lg.O0 A) w ac C := (tr_ (su_ d z) (su_ o z))
             exact At.res (.inl z) z (.tmp z .nil) ⟨z, (se_ aN z z)⟩
            ·refine WC.condF' z ab (sk (At.inBlock (th (sq (rg (wY (ya z) z (nl (th (rt ?_)))))))))
             obtain rfl := some1 h
             have aO : Stp [] (Lg.O0 A) w ac C := (tr_ (su_ d z) (su_ o z))
             exact At.res (.inl z) z (.tmp z .nil) ⟨z, (se_ aO z z)⟩
theorem c_num_Finite {a0 : UInt64} {w : World} {r0 : Bool} (h : num_Finite a0 = some r0) : Rets Tryz.prog 37 [vu a0] w (fun v w' => v = vB r0 ∧ Ext w w') := by
 unfold num_Finite at h
 refine Rets.enter Tryz.func37 z z ?_
 refine (show WC _ _ _ _ [(0, vu a0)] _ from ?_)
 refine sq (rg (wY (ya z) z (nl (th (sq (rg (wY (ym z) z (wY (Y.and_u (b := 9218868437227405312) z z) z (wY (Y.neq_u (b := 9218868437227405312) z z) z ?_)))))))))
 obtain ⟨j, d, h⟩ := lt1 h
 refine WL.yE (ya z) (congrArg vB d.symm) z (nl (th (rt ?_)))
 obtain rfl := some1 h
 have e : Stp [] (Lg.O0 (fun _ => False)) w (Lg.O0 (fun _ => False)) w := (sr_ _ _ _)
 exact At.res (.inl z) z (.tmp z .nil) ⟨z, (se_ e z z)⟩
theorem c_num_of {a0 : UInt64} {w : World} : Rets Tryz.prog 68 [vu a0] w (fun v w' => v = .float .f64 a0.toNat ∧ Ext w w') := by
  refine Rets.enter Tryz.func68 z z ?_
  refine (show WC _ _ _ _ [(0, vu a0)] _ from ?_)
  refine sq (rg (wY (ya (v := .float .f64 0) z) z (nl (th ?_))))
  refine sq (rg ?_)
  refine wY (ym z) z (wY (Y.ffrom xfrom_109 z) z ?_)
  refine wY (ya z) z (nl (th (rt ?_)))
  exact At.res (.inl z) z (.tmp z .nil) ⟨z, Ext.refl w⟩
theorem c_num_Less {a0 : UInt64} {a1 : UInt64} {w : World} {r0 : Bool} (h : num_Less a0 a1 = some r0) : Rets Tryz.prog 38 [vu a0, vu a1] w (fun v w' => v = vB r0 ∧ Ext w w') := by
  unfold num_Less at h
  obtain rfl := some1 h
  refine Rets.enter Tryz.func38 z z ?_
  refine (show WC _ _ _ _ [(0, vu a0), (1, vu a1)] _ from ?_)
  refine sq (rg (wY (ya (v := .bool false) z) z (nl (th ?_))))
  refine sq (rg ?_)
  refine wY (ym z) z (WL.call (vals := [vu a0]) kok68 z z (c_num_of) ?_)
  rintro H I ⟨rfl, j⟩
  obtain ⟨F, o, t, d⟩ := adoptE (Lg.O0 (fun _ => False)) (fun k => 1) j
  refine wY (ym z) z (WL.call (vals := [vu a1]) kok68 z z (c_num_of) ?_)
  rintro J l ⟨rfl, m⟩
  obtain ⟨G, C, D, e⟩ := adoptE F (fun k => 1) m
  refine wY (Y.fless z z) z ?_
  refine wY (ya z) z (nl (th (rt ?_)))
  have hs : Stp [] (Lg.O0 (fun _ => False)) w G l := (tr_ (su_ d z) (su_ e z))
  exact At.res (.inl z) z (.tmp z .nil) ⟨z, se_ hs z z⟩
theorem c_hist_sides {A : Nat → Prop} {v0_3 : Value} {v0_5 : Value} {a0 : api_Hist} {w : World} (hs0_3 : Sl Rep.u w A v0_3 a0.Pos.Counts) (hs0_5 : Sl Rep.u w A v0_5 a0.Neg.Counts) {r0 : List api_Side} (h : hist_sides a0 = some r0) : Rets Tryz.prog 69 [ag (hl a0 v0_3 v0_5)] w (fun v w' => ∃ (J : List Value), v = Value.agg (List.toArray J) ∧ Ext w w' ∧ Rows' rep_api_Side w' (fun k => A k ∨ w.heap.size ≤ k) J r0 ∧ r0.length = 2) := by
 unfold hist_sides at h
 refine Rets.enter Tryz.func69 z z ?_
 have F : Sl Rep.u w (imm (Lg.O0 A)) v0_3 a0.Pos.Counts := (Sl.start hs0_3)
 have G : Sl Rep.u w (imm (Lg.O0 A)) v0_5 a0.Neg.Counts := (Sl.start hs0_5)
 refine (show WC _ _ _ _ [(0, ag (hl a0 v0_3 v0_5))] _ from ?_)
 refine sq (rg ?_)
 have M := h
 obtain ⟨l, m, o, rfl⟩ := F.shape
 have h := M
 have Q := h
 obtain ⟨d, e, j, rfl⟩ := G.shape
 have h := Q
 refine WL.box (O := (Lg.O0 A)) 11 (hl a0 (vl l m o) (vl d e j)) z z z ?_
 intro ai ae af C S
 refine WL.alloc (O := ae) 12 [vi 0, sn, vi 0, sn] ty94 z z ?_
 intro aj K ah t T
 refine nl (th (sq (rg (wY (yf fo38_2 z) z ?_))))
 have H := S.st t z
 refine wY (yL ty36 z z (H.cells 2 [vi a0.Pos.Offset, (vl l m o)] z) z) z (wY (yf fo38_3 z) z (wY (yL ty36 z z (H.cells 4 [vi a0.Neg.Offset, (vl d e j)] z) z) z (wY (yb (vals := [(0, ag [vi a0.Pos.Offset, (vl l m o)]), (1, ag [vi a0.Neg.Offset, (vl d e j)])]) (cells := [vi a0.Pos.Offset, (vl l m o), vi a0.Neg.Offset, (vl d e j)]) (fe_ z) (by kernel_rfl)) z (WL.store (v := ag [vi a0.Pos.Offset, (vl l m o), vi a0.Neg.Offset, (vl d e j)]) (cells' := [vi a0.Pos.Offset, (vl l m o), vi a0.Neg.Offset, (vl d e j)]) ty94 z z T z (le_ z) z z ?_))))
 intro U D V
 refine nl (th (rt ?_))
 obtain rfl := some1 h
 have I : Stp [12] (Lg.O0 A) w K U := (tr_ (su_ C z) (tr_ (su_ t z) (su_ D z)))
 have aa := ((F.i C z z).i t z z).i D z z
 have ad := ((G.i C z z).i t z z).i D z z
 exact At.res (.inl z) z (.cell z (V.runAg 0 [vi a0.Pos.Offset, (vl l m o), vi a0.Neg.Offset, (vl d e j)] ty94 z z z) .nil) ⟨[vi a0.Pos.Offset, (vl l m o), vi a0.Neg.Offset, (vl d e j)], z, (se_ I z z), (Rows'.outI (O' := K) (R := rep_api_Side) ⟨[vi a0.Pos.Offset, (vl l m o)], [vi a0.Neg.Offset, (vl d e j)], z, ⟨[vi a0.Pos.Offset], [(vl l m o)], z, z, ⟨_, z, aa⟩⟩, ⟨[vi a0.Neg.Offset, (vl d e j)], [], z, ⟨[vi a0.Neg.Offset], [(vl d e j)], z, z, ⟨_, z, ad⟩⟩, z⟩⟩ I low0 O0_A), z⟩
theorem c_hist_check {A : Nat → Prop} {v0_1 : Value} {a0 : api_Side} {w : World} (hs0_1 : Sl Rep.u w A v0_1 a0.Counts) {r0 : Int} (h : hist_check a0 = some r0) : Rets Tryz.prog 70 [ag [vi a0.Offset, v0_1]] w (fun v w' => v = vi r0 ∧ Ext w w') := by
 unfold hist_check at h
 refine Rets.enter Tryz.func70 z z ?_
 have S : Sl Rep.u w (imm (Lg.O0 A)) v0_1 a0.Counts := (Sl.start hs0_1)
 refine (show WC _ _ _ _ [(0, ag [vi a0.Offset, v0_1])] _ from ?_)
 refine sq (rg ?_)
 have ab := h
 obtain ⟨aC, aD, aE, rfl⟩ := S.shape
 have h := ab
 refine WL.box (O := (Lg.O0 A)) 11 [vi a0.Offset, (vl aC aD aE)] z z z ?_
 intro Q m e j l
 refine wY (ya z) z (nl (th (sq (rg (wY (yf fo36_1 z) z (wY (yl ty34 z z (l.cell 1 _ z)) z ?_))))))
 have o := S.i j z z
 refine wY (Y.len ty34 z o) z ?_
 obtain ⟨d, T, h⟩ := lt1 h
 refine WL.yE (ya z) (congrArg vi T.symm) z (nl (th (sq (WC.block (sq (rg (wY (ym z) z (wY (Y.gtr_i z z) z ?_))))))))
 obtain ⟨aO, ac, h⟩ := lt1 h
 refine WL.yE (ya z) (congrArg vB ac.symm) z (nl (th ?_))
 rcases cnd h with ⟨t, h⟩ | ⟨t, h⟩
 ·refine WC.condT' z t (sq (rg (wY (ya z) z (nl (th (rt (At.inBlockR (At.thenR ?_))))))))
  obtain rfl := some1 h
  have ad : Stp [] (Lg.O0 A) w m e := (su_ j z)
  exact At.res (.inl z) z (.tmp z .nil) ⟨z, (se_ ad z z)⟩
 ·refine WC.condF' z t (sq (rg (wY (ym z) z (wY (Y.eql_i z z) z (wY (ym z) z ?_)))))
  refine WL.cut 4 (σ := Unit) (fun _ w' => e = w') (fun _ => [(1, pt Q 0), (3, vi d), (17, vB ((decide (d = 0)) && (!decide (a0.Offset = 0))))]) ?_ ?_
  ·refine WL.part 13 z (fun C => ?_) (fun C => ?_)
   ·refine ug z z (wY (yf fo36_0 z) z (ug z z (wY (yl ty3 z z (l.cell 0 _ z)) z (ug z z (wY (Y.neq_i z z) z (wY (Y.pick (b := true) z z) z (WL.ren (v' := vB ((decide (d = 0)) && (!decide (a0.Offset = 0)))) 17 z (congrArg vB (andT C)) ?_)))))))
    exact nl (At.join () z (.cons z (.cons z (.cons z .nil))))
   ·refine WL.gS z z z z (WL.gS z z z z (WL.gS z z z z (wY (Y.pick (b := false) z z) z (WL.ren (v' := vB ((decide (d = 0)) && (!decide (a0.Offset = 0)))) 17 z (congrArg vB (andF C)) ?_))))
    exact nl (At.join () z (.cons z (.cons z (.cons z .nil))))
  ·rintro _ _ rfl
   refine (show WL _ _ _ _ _ [(1, pt Q 0), (3, vi d), (17, vB ((decide (d = 0)) && (!decide (a0.Offset = 0))))] _ from ?_)
   obtain ⟨aP, ae, h⟩ := lt1 h
   refine WL.yE (ya z) (congrArg vB ae.symm) z (nl (th ?_))
   rcases cnd h with ⟨D, h⟩ | ⟨D, h⟩
   ·refine WC.condT' z D (sq (rg (wY (ya z) z (nl (th (rt (At.inBlockR (At.thenR ?_))))))))
    obtain rfl := some1 h
    have af : Stp [] (Lg.O0 A) w m e := (su_ j z)
    exact At.res (.inl z) z (.tmp z .nil) ⟨z, (se_ af z z)⟩
   ·refine WC.condF' z D (sq (rg (wY (ym z) z (wY (Y.eql_i z z) z ?_))))
    obtain ⟨aQ, ah, h⟩ := lt1 h
    refine WL.yE (ya z) (congrArg vB ah.symm) z (nl (th ?_))
    rcases cnd h with ⟨F, h⟩ | ⟨F, h⟩
    ·refine WC.condT' z F (sq (rg (wY (ya z) z (nl (th (rt (At.inBlockR (At.thenR ?_))))))))
     obtain rfl := some1 h
     have ai : Stp [] (Lg.O0 A) w m e := (su_ j z)
     exact At.res (.inl z) z (.tmp z .nil) ⟨z, (se_ ai z z)⟩
    ·refine WC.condF' z F (sq (rg (wY (yf fo36_1 z) z (wY (yl ty34 z z (l.cell 1 _ z)) z ?_))))
     obtain ⟨aF, aj, h⟩ := bnd h
     obtain ⟨aR, aI, aJ, aM, ak, al, am, G, U, an⟩ := Sl.at2 o aj
     obtain rfl := U
     replace G : CellsAt _ _ _ [vu aF] := G
     have V := CAt.imm G an
     refine wY (Y.indexAddr ty34 ty33 z ak z al am) z (wY (yl ty33 z z V.at_) z (wY (Y.eql_u (b := 0) z z) z (wY (ym z) z ?_)))
     obtain ⟨aG, h, ao⟩ := bnd h
     refine WL.cut 8 (σ := Bool) (fun x w' => x = aG ∧ e = w') (fun x => [(1, pt Q 0), (3, vi d), (35, vB x)]) ?_ ?_
     ·rcases cnd h with ⟨H, h⟩ | ⟨H, h⟩
      ·refine WL.ren 27 z (congrArg vB H) (WL.gS z z z z (WL.gS z z z z (WL.gS z z z z (WL.gS z z z z (WL.gS z z z z (WL.gS z z z z (WL.gS z z z z (wY (Y.pick (b := true) z z) z ?_))))))))
       exact nl (At.join (σ := Bool) true ⟨some1 h, z⟩ (.cons z (.cons z (.cons z .nil))))
      ·refine WL.ren 27 z (congrArg vB H) (ug z z (wY (yf fo36_1 z) z (ug z z (wY (yl ty34 z z (l.cell 1 _ z)) z (ug z z (wY (ym z) z (ug z z (wY (Y.sub_i z z) z (ug z z ?_)))))))))
       obtain ⟨aa, ap, h⟩ := bnd h
       obtain ⟨aS, aK, aL, aN, aq, ar, au, I, W, av⟩ := Sl.at2 o ap
       obtain rfl := W
       replace I : CellsAt _ _ _ [vu aa] := I
       have Z := CAt.imm I av
       refine wY (Y.indexAddr ty34 ty33 z aq z ar au) z (ug z z (wY (yl ty33 z z Z.at_) z (ug z z (wY (Y.eql_u (b := 0) z z) z (wY (Y.pick (b := false) z z) z ?_)))))
       exact nl (At.join (σ := Bool) (decide (aa = 0)) ⟨some1 h, z⟩ (.cons z (.cons z (.cons z .nil))))
     ·rintro aH _ ⟨rfl, rfl⟩
      replace h := ao
      try dsimp only at h
      refine (show WL _ _ _ _ _ [(1, pt Q 0), (3, vi d), (35, vB aH)] _ from ?_)
      refine wY (ya z) z (nl (th ?_))
      rcases cnd h with ⟨J, h⟩ | ⟨J, h⟩
      ·refine WC.condT' z J (sq (rg (wY (ya z) z (nl (th (rt (At.inBlockR (At.thenR ?_))))))))
       obtain rfl := some1 h
       have ax : Stp [] (Lg.O0 A) w m e := (su_ j z)
       exact At.res (.inl z) z (.tmp z .nil) ⟨z, (se_ ax z z)⟩
      ·refine WC.condF' z J (sq (rg (wY (yf fo36_0 z) z (wY (yl ty3 z z (l.cell 0 _ z)) z (wY (Y.lss_i z z) z (wY (ym z) z ?_))))))
       refine WL.cut 7 (σ := Unit) (fun _ w' => e = w') (fun _ => [(47, vB ((decide (a0.Offset < (-1073741824))) || (decide (w64 (1073741824 - (w64 (d - 1))) < a0.Offset))))]) ?_ ?_
       ·refine WL.part 40 z (fun K => ?_) (fun K => ?_)
        ·refine WL.gS z z z z (WL.gS z z z z (WL.gS z z z z (WL.gS z z z z (WL.gS z z z z (WL.gS z z z z (wY (Y.pick (b := true) z z) z (WL.ren (v' := vB ((decide (a0.Offset < (-1073741824))) || (decide (w64 (1073741824 - (w64 (d - 1))) < a0.Offset)))) 47 z (congrArg vB (orT K)) ?_)))))))
         exact nl (At.join () z (.cons z .nil))
        ·refine ug z z (wY (yf fo36_0 z) z (ug z z (wY (yl ty3 z z (l.cell 0 _ z)) z (ug z z (wY (ym z) z (ug z z (wY (Y.sub_i z z) z (ug z z (wY (Y.sub_i z z) z ?_)))))))))
         refine ug z z (wY (Y.gtr_i z z) z (wY (Y.pick (b := false) z z) z (WL.ren (v' := vB ((decide (a0.Offset < (-1073741824))) || (decide (w64 (1073741824 - (w64 (d - 1))) < a0.Offset)))) 47 z (congrArg vB (orF K)) ?_)))
         exact nl (At.join () z (.cons z .nil))
       ·rintro _ _ rfl
        refine (show WL _ _ _ _ _ [(47, vB ((decide (a0.Offset < (-1073741824))) || (decide (w64 (1073741824 - (w64 (d - 1))) < a0.Offset))))] _ from ?_)
        obtain ⟨aT, ay, h⟩ := lt1 h
        refine WL.yE (ya z) (congrArg vB ay.symm) z (nl (th ?_))
        rcases cnd h with ⟨M, h⟩ | ⟨M, h⟩
        ·refine WC.condT' z M (sq (rg (wY (ya z) z (nl (th (rt (At.inBlockR (At.thenR ?_))))))))
         obtain rfl := some1 h
         have az : Stp [] (Lg.O0 A) w m e := (su_ j z)
         exact At.res (.inl z) z (.tmp z .nil) ⟨z, (se_ az z z)⟩
        ·refine WC.condF' z M (sk (At.inBlock (th (sq (rg (wY (ya z) z (nl (th (rt ?_)))))))))
         obtain rfl := some1 h
         have aA : Stp [] (Lg.O0 A) w m e := (su_ j z)
         exact At.res (.inl z) z (.tmp z .nil) ⟨z, (se_ aA z z)⟩
theorem c_hist_Total {A : Nat → Prop} {v0_3 : Value} {v0_5 : Value} {a0 : api_Hist} {w : World} (hs0_3 : Sl Rep.u w A v0_3 a0.Pos.Counts) (hs0_5 : Sl Rep.u w A v0_5 a0.Neg.Counts) {r0 : UInt64} {r1 : Bool} (h : hist_Total a0 = some (r0, r1)) : Rets Tryz.prog 71 [ag (hl a0 v0_3 v0_5)] w (fun v w' => v = tp [vu r0, vB r1] ∧ Ext w w') := by
 unfold hist_Total at h
 refine Rets.enter Tryz.func71 z z ?_
 have ao : Sl Rep.u w (imm (Lg.O0 A)) v0_3 a0.Pos.Counts := (Sl.start hs0_3)
 have ap : Sl Rep.u w (imm (Lg.O0 A)) v0_5 a0.Neg.Counts := (Sl.start hs0_5)
 refine (show WC _ _ _ _ [(0, ag (hl a0 v0_3 v0_5))] _ from ?_)
 refine sq (rg ?_)
 have a5 := h
 obtain ⟨aq, ar, au, rfl⟩ := ao.shape
 have h := a5
 have a6 := h
 obtain ⟨av, ax, ay, rfl⟩ := ap.shape
 have h := a6
 refine WL.box (O := (Lg.O0 A)) 11 (hl a0 (vl aq ar au) (vl av ax ay)) z z z ?_
 intro bL az bE j aA
 refine wY (ya (v := vu 0) z) z (wY (ya z) z (nl (th (sq (rg (wY (yf fo38_1 z) z (wY (yl ty33 z z (aA.cell 1 _ z)) z (wY (ya z) z (wY (ya (v := vu 0) z) z ?_)))))))))
 refine nl (th (sq (sq (rg (wY (yL ty38 z z (aA.cells 0 (hl a0 (vl aq ar au) (vl av ax ay)) z) z) z ?_)))))
 have a7 := ao.i j z z
 have a8 := ap.i j z z
 obtain ⟨bp, a9, h⟩ := bnd h
 refine WL.call (vals := [ag (hl a0 (vl aq ar au) (vl av ax ay))]) kok69 z z (c_hist_sides (A := imm az) (a0 := a0) a7 a8 a9) ?_
 rintro bF S ⟨d, rfl, ba, bq, br⟩
 obtain ⟨W, aC, aD, Z⟩ := adoptE az (fun k => 1) ba
 have bb := Rows'.adoptI (O := az) bq (fun _ hk => hk) (fun _ _ => Nat.le_refl _) aC aD
 refine wY (ym z) z (nl (th ?_))
 obtain ⟨bs, h, bc⟩ := bnd h
 refine WC.join (σ := (UInt64 × UInt64 × Own)) (fun x w' => (x.1, x.2.1) = bs ∧ Stp [12] W S x.2.2 w') (fun x => [(4, vu x.1), (5, vu x.2.1)]) ?_ ?_
 ·refine WC.block ?_
  obtain ⟨aY, h, bd⟩ := flow1 h
  obtain ⟨aZ, h⟩ := loop_some h
  refine WC.joinB 0 (σ := (UInt64 × UInt64 × Own)) (fun x w' => aY = .go (x.1, x.2.1) ∧ Stp [12] W S x.2.2 w') (fun x => [(4, vu x.1), (5, vu x.2.1)]) ?_ ?_
  ·refine WC.loop (σ := (UInt64 × UInt64 × Int × Own)) (fun x k w' => loopN k (hist_Total_lp1 bp) (x.1, x.2.1, x.2.2.1) = some aY ∧ Stp [12] W S x.2.2.2 w') (fun x => [(4, vu x.1), (5, vu x.2.1), (14, Value.agg (List.toArray d)), (15, vi x.2.2.1)]) (a0.Zero, 0, 0, W) aZ (.cons z (.cons z (.cons z (.cons z .nil)))) ⟨h, (sr_ _ _ _)⟩ ?_
   rintro ⟨t, m, e, aE⟩ aZ bf ⟨h, l⟩
   obtain ⟨bt, bM, rfl, h, aF⟩ := rnd1 h
   unfold hist_Total_lp1 at h
   try dsimp only at h l
   refine (show WC _ _ _ _ [(4, vu t), (5, vu m), (14, Value.agg (List.toArray d)), (15, vi e)] _ from ?_)
   refine sq (rg (wY (Y.lss_i z z) z (nl (th (sq ?_)))))
   rcases cnd h with ⟨T, h⟩ | ⟨T, h⟩
   ·refine WC.condT' z T (sk (th (sq (WC.block (sq (rg ?_))))))
    have bg := Rows'.i bb l z z
    obtain ⟨o, aG, h⟩ := bnd h
    obtain ⟨bG, C, aO⟩ := arrAt (R := rep_api_Side) (w := bf) (A := imm aE) (cells := d) bg aG
    obtain ⟨_, _, rfl, rfl, ⟨bu, rfl, bh⟩⟩ := aO
    replace C : _ = [vi o.Offset, bu] := C
    refine wY (Y.indexArrAg ty94 ty36 z z C aG br) z (WL.alloc (O := aE) 12 [vi 0, sn] ty36 z z ?_)
    intro bO bw bH aa bi
    have aH := bh.i aa z z
    have bj := h
    obtain ⟨ab, ac, ad, rfl⟩ := aH.shape
    have h := bj
    refine WL.store (v := ag [vi o.Offset, (vl ab ac ad)]) (cells' := [vi o.Offset, (vl ab ac ad)]) ty36 z z bi z (le_ z) z z ?_
    intro U ae bk
    refine nl (th (sq (rg (wY (yf fo36_1 z) z (wY (yl ty34 z z (bk.cell 1 _ z)) z ?_)))))
    have aI := aH.i ae z z
    refine wY (Y.len ty34 z aI) z (wY (ym z) z (nl (th ?_)))
    obtain ⟨bx, h, bl⟩ := bnd h
    refine WC.join (σ := (UInt64 × UInt64)) (fun x w' => (x.1, x.2) = bx ∧ U = w') (fun x => [(4, vu x.1), (5, vu x.2), (14, Value.agg (List.toArray d)), (15, vi e)]) ?_ ?_
    ·refine WC.block ?_
     obtain ⟨a1, h, bm⟩ := flow1 h
     obtain ⟨a2, h⟩ := loop_some h
     refine WC.joinB 2 (σ := (UInt64 × UInt64)) (fun x w' => a1 = .go (x.1, x.2) ∧ U = w') (fun x => [(4, vu x.1), (5, vu x.2), (14, Value.agg (List.toArray d)), (15, vi e)]) ?_ ?_
     ·refine WC.loop (σ := (UInt64 × UInt64 × Int)) (fun x k w' => loopN k (hist_Total_lp2 o) (x.1, x.2.1, x.2.2) = some a1 ∧ U = w') (fun x => [(4, vu x.1), (5, vu x.2.1), (14, Value.agg (List.toArray d)), (15, vi e), (19, (vl ab ac ad)), (20, vi (o.Counts.length : Int)), (21, vi x.2.2)]) (t, m, 0) a2 (.cons z (.cons z (.cons z (.cons z (.cons z (.cons z (.cons z .nil))))))) ⟨h, z⟩ ?_
      rintro ⟨af, I, a3⟩ a2 _ ⟨h, rfl⟩
      obtain ⟨bz, bI, rfl, h, ah⟩ := rnd1 h
      unfold hist_Total_lp2 at h
      try dsimp only at h
      refine (show WC _ _ _ _ [(4, vu af), (5, vu I), (14, Value.agg (List.toArray d)), (15, vi e), (19, (vl ab ac ad)), (20, vi (o.Counts.length : Int)), (21, vi a3)] _ from ?_)
      refine sq (rg (wY (Y.lss_i z z) z (nl (th (sq ?_)))))
      rcases cnd h with ⟨D, h⟩ | ⟨D, h⟩
      ·refine WC.condT' z D (sk (th (sq (WC.block (sq (rg ?_))))))
       obtain ⟨bn, aP, h⟩ := bnd h
       obtain ⟨bJ, bA, bB, bD, aQ, aR, aS, F, aJ, aT⟩ := Sl.at2 aI aP
       obtain rfl := aJ
       replace F : CellsAt _ _ _ [vu bn] := F
       have aK := CAt.imm F aT
       refine wY (Y.indexAddr ty34 ty33 z aQ z aR aS) z (wY (yl ty33 z z aK.at_) z (wY (ya z) z (nl (th (sq (rg (wY (ya (v := vu 0) z) z (nl (th ?_)))))))))
       refine sq (rg (wY (ym z) z (wY (ym z) z (wY (Y.add64 (c := 0) x64_110 (by decide) z z z) z (wY (ym z) z (wY (yx z z) z (wY (yx z z) z ?_)))))))
       obtain ⟨aL, am, h⟩ := lt1 h
       refine WL.yE (ya z) (congrArg vu am.symm) z ?_
       obtain ⟨bo, J, h⟩ := lt1 h
       refine WL.yE (ya z) (congrArg vu J.symm) z (nl (th (rg (wY (ym z) z (wY (ym z) z (wY (Y.or_u z z) z ?_))))))
       obtain ⟨an, V, h⟩ := lt1 h
       refine WL.yE (ya z) (congrArg vu V.symm) z (nl (At.inBlock (th (rg (wY (Y.add_i z z) z (wY (ym z) z (nl ?_)))))))
       exact At.round (aL, an, w64 (a3 + 1)) bz (Nat.lt_succ_self _) ⟨next1 h ah, z⟩ (.cons z (.cons z (.cons z (.cons z (.cons z (.cons z (.cons z .nil)))))))
      ·refine WC.condF' z D (WC.exit (At.thenX (At.loopX ?_)))
       exact At.hitB (σ := (UInt64 × UInt64)) (af, I) ⟨brk1 h ah, z⟩ (.cons z (.cons z (.cons z (.cons z .nil))))
     ·rintro ⟨ai, K⟩ _ ⟨rfl, rfl⟩
      replace h := flowK_go bm
      try dsimp only at h
      refine (show At _ _ _ [(4, vu ai), (5, vu K), (14, Value.agg (List.toArray d)), (15, vi e)] _ from ?_)
      refine At.inBlockHit ?_
      exact At.join (σ := (UInt64 × UInt64)) (ai, K) ⟨some1 h, z⟩ (.cons z (.cons z (.cons z (.cons z .nil))))
    ·rintro ⟨aj, M⟩ _ ⟨rfl, rfl⟩
     replace h := bl
     try dsimp only at h
     refine (show At _ _ _ [(4, vu aj), (5, vu M), (14, Value.agg (List.toArray d)), (15, vi e)] _ from ?_)
     refine At.inBlock (th (rg (wY (Y.add_i z z) z (wY (ym z) z (nl ?_)))))
     exact At.round (aj, M, w64 (e + 1), bw) bt (Nat.lt_succ_self _) ⟨next1 h aF, (tr_ (su_ l z) (tr_ (su_ aa z) (su_ ae z)))⟩ (.cons z (.cons z (.cons z (.cons z .nil))))
   ·refine WC.condF' z T (WC.exit (At.thenX (At.loopX ?_)))
    exact At.hitB (σ := (UInt64 × UInt64 × Own)) (t, m, aE) ⟨brk1 h aF, (su_ l z)⟩ (.cons z (.cons z .nil))
  ·rintro ⟨ak, Q, bC⟩ bK ⟨rfl, al⟩
   replace h := flowK_go bd
   try dsimp only at h al
   refine (show At _ _ _ [(4, vu ak), (5, vu Q)] _ from ?_)
   refine At.inBlockHit ?_
   exact At.join (σ := (UInt64 × UInt64 × Own)) (ak, Q, bC) ⟨some1 h, (su_ al z)⟩ (.cons z (.cons z .nil))
 ·rintro ⟨aU, aM, a4⟩ aN ⟨rfl, G⟩
  replace h := bc
  try dsimp only at h G
  refine (show At _ _ _ [(4, vu aU), (5, vu aM)] _ from ?_)
  refine th (sq (sq (rg (wY (ym z) z (wY (Y.neq_u (b := 0) z z) z (nl (th ?_)))))))
  rcases cnd h with ⟨H, h⟩ | ⟨H, h⟩
  ·refine WC.condT' z H (sq (rg (wY (ya (v := vu 0) z) z (wY (ya z) z (nl (th (rt (At.thenR ?_))))))))
   obtain ⟨rfl, rfl⟩ := tup2 h
   have aW : Stp [12] (Lg.O0 A) w a4 aN := (tr_ (su_ j z) (tr_ (su_ Z z) (su_ G z)))
   exact At.res (.inl z) z (.tmp z (.tmp z .nil)) ⟨z, (se_ aW z z)⟩
  ·refine WC.condF' z H (sk (th (sq (rg (wY (ym z) z (wY (ya z) z (wY (ya z) z (nl (th ?_)))))))))
   refine rt ?_
   obtain ⟨rfl, rfl⟩ := tup2 h
   have aX : Stp [12] (Lg.O0 A) w a4 aN := (tr_ (su_ j z) (tr_ (su_ Z z) (su_ G z)))
   exact At.res (.inl z) z (.tmp z (.tmp z .nil)) ⟨z, (se_ aX z z)⟩
theorem c_hist_Check {A : Nat → Prop} {v0_3 : Value} {v0_5 : Value} {a0 : api_Hist} {w : World} (hs0_3 : Sl Rep.u w A v0_3 a0.Pos.Counts) (hs0_5 : Sl Rep.u w A v0_5 a0.Neg.Counts) {r0 : Int} (h : hist_Check a0 = some r0) : Rets Tryz.prog 39 [ag (hl a0 v0_3 v0_5)] w (fun v w' => v = vi r0 ∧ Ext w w') := by
 unfold hist_Check at h
 refine Rets.enter Tryz.func39 z z ?_
 have ak : Sl Rep.u w (imm (Lg.O0 A)) v0_3 a0.Pos.Counts := (Sl.start hs0_3)
 have al : Sl Rep.u w (imm (Lg.O0 A)) v0_5 a0.Neg.Counts := (Sl.start hs0_5)
 refine (show WC _ _ _ _ [(0, ag (hl a0 v0_3 v0_5))] _ from ?_)
 refine sq (rg ?_)
 have aM := h
 obtain ⟨H, I, J, rfl⟩ := ak.shape
 have h := aM
 have aN := h
 obtain ⟨K, M, Q, rfl⟩ := al.shape
 have h := aN
 refine WL.box (O := (Lg.O0 A)) 11 (hl a0 (vl H I J) (vl K M Q)) z z z ?_
 intro m ac am d t
 refine wY (ya z) z (nl (th (sq (sq (rg (wY (yf fo38_0 z) z (wY (yl ty3 z z (t.cell 0 _ z)) z (wY (Y.lss_i z z) z (wY (ym z) z ?_)))))))))
 refine WL.cut 4 (σ := Unit) (fun _ w' => am = w') (fun _ => [(1, pt m 0), (15, vB ((decide (a0.Scale < (-10))) || (decide (20 < a0.Scale))))]) ?_ ?_
 ·refine WL.part 11 z (fun T => ?_) (fun T => ?_)
  ·refine WL.gS z z z z (WL.gS z z z z (WL.gS z z z z (wY (Y.pick (b := true) z z) z (WL.ren (v' := vB ((decide (a0.Scale < (-10))) || (decide (20 < a0.Scale)))) 15 z (congrArg vB (orT T)) ?_))))
   exact nl (At.join () z (.cons z (.cons z .nil)))
  ·refine ug z z (wY (yf fo38_0 z) z (ug z z (wY (yl ty3 z z (t.cell 0 _ z)) z (ug z z (wY (Y.gtr_i z z) z (wY (Y.pick (b := false) z z) z (WL.ren (v' := vB ((decide (a0.Scale < (-10))) || (decide (20 < a0.Scale)))) 15 z (congrArg vB (orF T)) ?_)))))))
   exact nl (At.join () z (.cons z (.cons z .nil)))
 ·rintro _ _ rfl
  refine (show WL _ _ _ _ _ [(1, pt m 0), (15, vB ((decide (a0.Scale < (-10))) || (decide (20 < a0.Scale))))] _ from ?_)
  refine nl (th ?_)
  rcases cnd h with ⟨U, h⟩ | ⟨U, h⟩
  ·refine WC.condT' z U (sq (rg (wY (ya z) z (nl (th (rt (At.thenR ?_)))))))
   obtain rfl := some1 h
   have aO : Stp [] (Lg.O0 A) w ac am := (su_ d z)
   exact At.res (.inl z) z (.tmp z .nil) ⟨z, (se_ aO z z)⟩
  ·refine WC.condF' z U (sk (th (sq (sq (rg (wY (yL ty38 z z (t.cells 0 (hl a0 (vl H I J) (vl K M Q)) z) z) z ?_))))))
   have an := ak.i d z z
   have ao := al.i d z z
   obtain ⟨bc, aP, h⟩ := bnd h
   refine WL.call (vals := [ag (hl a0 (vl H I J) (vl K M Q))]) kok69 z z (c_hist_sides (A := imm ac) (a0 := a0) an ao aP) ?_
   rintro bp V ⟨W, rfl, aQ, bd, bf⟩
   obtain ⟨ad, ap, aq, e⟩ := adoptE ac (fun k => 1) aQ
   have aR := Rows'.adoptI (O := ac) bd (fun _ hk => hk) (fun _ _ => Nat.le_refl _) ap aq
   refine wY (ym z) z (nl (th ?_))
   obtain ⟨bg, h, ar⟩ := flow1 h
   refine WC.join (σ := Own) (fun x w' => bg = .go () ∧ Stp [12] ad V x w') (fun x => [(1, pt m 0)]) ?_ ?_
   ·refine WC.block ?_
    obtain ⟨aI, h, au⟩ := flow1 h
    obtain ⟨aJ, h⟩ := loop_some h
    refine WC.joinB 0 (σ := Own) (fun x w' => aI = .go () ∧ Stp [12] ad V x w') (fun x => [(1, pt m 0)]) ?_ ?_
    ·refine WC.loop (σ := (Int × Own)) (fun x k w' => loopN k (hist_Check_lp1 bc) x.1 = some aI ∧ Stp [12] ad V x.2 w') (fun x => [(1, pt m 0), (17, Value.agg (List.toArray W)), (18, vi x.1)]) (0, ad) aJ (.cons z (.cons z (.cons z .nil))) ⟨h, (sr_ _ _ _)⟩ ?_
     rintro ⟨aK, av⟩ aJ aS ⟨h, j⟩
     obtain ⟨bh, bA, rfl, h, Z⟩ := rnd1 h
     unfold hist_Check_lp1 at h
     try dsimp only at h j
     refine (show WC _ _ _ _ [(1, pt m 0), (17, Value.agg (List.toArray W)), (18, vi aK)] _ from ?_)
     refine sq (rg (wY (Y.lss_i z z) z (nl (th (sq ?_)))))
     rcases cnd h with ⟨aa, h⟩ | ⟨aa, h⟩
     ·refine WC.condT' z aa (sk (th (sq (WC.block (sq (rg ?_))))))
      have aT := Rows'.i aR j z z
      obtain ⟨o, ax, h⟩ := bnd h
      obtain ⟨bq, C, aA⟩ := arrAt (R := rep_api_Side) (w := aS) (A := imm av) (cells := W) aT ax
      obtain ⟨_, _, rfl, rfl, ⟨bi, rfl, aU⟩⟩ := aA
      replace C : _ = [vi o.Offset, bi] := C
      refine wY (Y.indexArrAg ty94 ty36 z z C ax bf) z (WL.alloc (O := av) 12 [vi 0, sn] ty36 z z ?_)
      intro bB bj br D aW
      have ay := aU.i D z z
      have aX := h
      obtain ⟨ae, af, ah, rfl⟩ := ay.shape
      have h := aX
      refine WL.store (v := ag [vi o.Offset, (vl ae af ah)]) (cells' := [vi o.Offset, (vl ae af ah)]) ty36 z z aW z (le_ z) z z ?_
      intro bs F aY
      refine nl (th (sq (rg (wY (yL ty36 z z (aY.cells 0 [vi o.Offset, (vl ae af ah)] z) z) z ?_))))
      have aZ := ay.i F z z
      obtain ⟨bC, a1, h⟩ := bnd h
      refine WL.call (vals := [ag [vi o.Offset, (vl ae af ah)]]) kok70 z z (c_hist_check (A := fun _ => True) (a0 := o) (Sl.all aZ) a1) ?_
      rintro bt a2 ⟨rfl, a3⟩
      obtain ⟨aL, bk, bl, ai⟩ := adoptE bj (fun k => 1) a3
      refine wY (ya z) z (nl (th (sq (rg (wY (ym z) z (wY (Y.neq_i z z) z (nl (th ?_))))))))
      rcases cnd h with ⟨ab, h⟩ | ⟨ab, h⟩
      ·refine WC.condT' z ab (sq (rg (wY (ym z) z (wY (ya z) z (nl (th (rt (At.inBlockR (At.thenR ?_)))))))))
       refine At.loopR ?_
       have h := outr1 h Z au
       refine At.joinBR (At.inBlockR ?_)
       have h := outs1 h ar
       refine At.joinR (At.thenR ?_)
       obtain rfl := some1 h
       have a4 : Stp [12] (Lg.O0 A) w aL a2 := (tr_ (su_ d z) (tr_ (su_ e z) (tr_ (su_ j z) (tr_ (su_ D z) (tr_ (su_ F z) (su_ ai z))))))
       exact At.res (.inl z) z (.tmp z .nil) ⟨z, (se_ a4 z z)⟩
      ·refine WC.condF' z ab (sk (At.inBlock (th (rg (wY (Y.add_i z z) z (wY (ym z) z (nl ?_)))))))
       exact At.round (w64 (aK + 1), aL) bh (Nat.lt_succ_self _) ⟨next1 h Z, (tr_ (su_ j z) (tr_ (su_ D z) (tr_ (su_ F z) (su_ ai z))))⟩ (.cons z (.cons z (.cons z .nil)))
     ·refine WC.condF' z aa (WC.exit (At.thenX (At.loopX ?_)))
      exact At.hitB (σ := Own) av ⟨brk1 h Z, (su_ j z)⟩ (.cons z .nil)
    ·rintro bm bu ⟨rfl, aC⟩
     replace h := flowK_go au
     refine (show At _ _ _ [(1, pt m 0)] _ from ?_)
     refine At.inBlockHit ?_
     exact At.join (σ := Own) bm ⟨go2 h, (su_ aC z)⟩ (.cons z .nil)
   ·rintro bn bw ⟨rfl, l⟩
    replace h := flowK_go ar
    refine (show At _ _ _ [(1, pt m 0)] _ from ?_)
    refine th (sq (sq (rg ?_)))
    have a6 := (t.st e z).st l z
    refine wY (yL ty38 z z (a6.cells 0 (hl a0 (vl H I J) (vl K M Q)) z) z) z ?_
    have a8 := (an.i e z z).i l z z
    have aD := (ao.i e z z).i l z z
    obtain ⟨⟨bx, bz⟩, aE, h⟩ := bnd h
    refine WL.call (vals := [ag (hl a0 (vl H I J) (vl K M Q))]) kok71 z z (c_hist_Total (A := fun _ => True) (a0 := a0) (Sl.all a8) (Sl.all aD) aE) ?_
    rintro bo aj ⟨rfl, aF⟩
    obtain ⟨az, ba, bb, S⟩ := adoptE bn (fun k => 1) aF
    refine wY (ym z) z (wY (yx z z) z (wY (yx z z) z (wY (ya z) z (wY (ya z) z (nl (th (sq (rg (wY (ym z) z ?_)))))))))
    refine wY (Y.not z) z (nl (th ?_))
    rcases cnd h with ⟨G, h⟩ | ⟨G, h⟩
    ·refine WC.condT' z G (sq (rg (wY (ya z) z (nl (th (rt (At.thenR ?_)))))))
     obtain rfl := some1 h
     have aG : Stp [12] (Lg.O0 A) w az aj := (tr_ (su_ d z) (tr_ (su_ e z) (tr_ (su_ l z) (su_ S z))))
     exact At.res (.inl z) z (.tmp z .nil) ⟨z, (se_ aG z z)⟩
    ·refine WC.condF' z G (sk (th (sq (rg (wY (ya z) z (nl (th (rt ?_))))))))
     obtain rfl := some1 h
     have aH : Stp [12] (Lg.O0 A) w az aj := (tr_ (su_ d z) (tr_ (su_ e z) (tr_ (su_ l z) (su_ S z))))
     exact At.res (.inl z) z (.tmp z .nil) ⟨z, (se_ aH z z)⟩
theorem c_point_Check {A : Nat → Prop} {v0_1 : Value} {v0_13 : Value} {v0_15 : Value} {a0 : api_Point} {w : World} (hs0_1 : Sl rep_api_Pair w A v0_1 a0.Attrs) (hs0_13 : Sl Rep.u w A v0_13 a0.Hist.Pos.Counts) (hs0_15 : Sl Rep.u w A v0_15 a0.Hist.Neg.Counts) {r0 : Int} (h : point_Check a0 = some r0) : Rets Tryz.prog 17 [ag (cp a0 v0_1 v0_13 v0_15)] w (fun v w' => v = vi r0 ∧ Ext w w') := by
 unfold point_Check at h
 refine Rets.enter Tryz.func17 z z ?_
 have aI : Sl rep_api_Pair w (imm (Lg.O0 A)) v0_1 a0.Attrs := (Sl.start hs0_1)
 have aJ : Sl Rep.u w (imm (Lg.O0 A)) v0_13 a0.Hist.Pos.Counts := (Sl.start hs0_13)
 have aK : Sl Rep.u w (imm (Lg.O0 A)) v0_15 a0.Hist.Neg.Counts := (Sl.start hs0_15)
 refine (show WC _ _ _ _ [(0, ag (cp a0 v0_1 v0_13 v0_15))] _ from ?_)
 refine sq (rg ?_)
 have bw := h
 obtain ⟨M, Q, S, rfl⟩ := aI.shape
 have h := bw
 have bx := h
 obtain ⟨F, G, H, rfl⟩ := aJ.shape
 have h := bx
 have bz := h
 obtain ⟨I, J, K, rfl⟩ := aK.shape
 have h := bz
 refine WL.box (O := (Lg.O0 A)) 11 (cp a0 (vl M Q S) (vl F G H) (vl I J K)) z z z ?_
 intro D cr cM j aq
 refine wY (ya z) z (nl (th (sq (sq (rg (wY (yf fo40_0 z) z (wY (yl ty9 z z (aq.cell 0 _ z)) z (wY (yf fo40_1 z) z (wY (yl ty32 z z (aq.cell 1 _ z)) z ?_)))))))))
 have aL := aI.i j z z
 obtain ⟨cY, bA, h⟩ := bnd h
 refine WL.call (vals := [vs a0.Name, (vl M Q S)]) kok32 z z (c_label_Check (A := fun _ => True) (Sl.all aL) bA) ?_
 rintro cN bB ⟨rfl, bC⟩
 obtain ⟨br, cs, ct, e⟩ := adoptE cr (fun k => 1) bC
 refine wY (ya z) z (nl (th (sq (rg (wY (ym z) z (wY (Y.neq_i z z) z (nl (th ?_))))))))
 rcases cnd h with ⟨ar, h⟩ | ⟨ar, h⟩
 ·refine WC.condT' z ar (sq (rg (wY (ym z) z (wY (ya z) z (nl (th (rt (At.thenR ?_))))))))
  obtain rfl := some1 h
  have bD : Stp [] (Lg.O0 A) w br bB := (tr_ (su_ j z) (su_ e z))
  exact At.res (.inl z) z (.tmp z .nil) ⟨z, (se_ bD z z)⟩
 ·refine WC.condF' z ar (sk (th (sq (WC.block (sq (rg ?_))))))
  have au := aq.st e z
  refine wY (yL ty40 z z (au.cells 0 (cp a0 (vl M Q S) (vl F G H) (vl I J K)) z) z) z ?_
  have W := aL.i e z z
  have Z := (aJ.i j z z).i e z z
  have aa := (aK.i j z z).i e z z
  obtain ⟨cZ, bG, h⟩ := bnd h
  refine WL.call (vals := [ag (cp a0 (vl M Q S) (vl F G H) (vl I J K))]) kok33 z z (c_point_kinds (A := fun _ => True) (a0 := a0) (Sl.all W) (Sl.all Z) (Sl.all aa) bG) ?_
  rintro cO av ⟨rfl, bH⟩
  obtain ⟨ao, cu, cw, d⟩ := adoptE br (fun k => 1) bH
  refine wY (Y.not z) z ?_
  obtain ⟨c0, bI, h⟩ := lt1 h
  refine WL.yE (ya z) (congrArg vB bI.symm) z (nl (th ?_))
  rcases cnd h with ⟨ax, h⟩ | ⟨ax, h⟩
  ·refine WC.condT' z ax (sq (rg (wY (ya z) z (nl (th (rt (At.inBlockR (At.thenR ?_))))))))
   obtain rfl := some1 h
   have bJ : Stp [] (Lg.O0 A) w ao av := (tr_ (su_ j z) (tr_ (su_ e z) (su_ d z)))
   exact At.res (.inl z) z (.tmp z .nil) ⟨z, (se_ bJ z z)⟩
  ·refine WC.condF' z ax (sq ?_)
   obtain ⟨cx, h, bK⟩ := bnd h
   refine WC.join (σ := (Bool × Own)) (fun x w' => x.1 = cx ∧ Stp [] ao av x.2 w') (fun x => [(1, pt D 0), (16, vB x.1)]) ?_ ?_
   ·refine sq (rg (wY (yf fo40_4 z) z ?_))
    have ay := au.st d z
    refine wY (yl ty4 z z (ay.cell 4 _ z)) z (wY (ym z) z ?_)
    obtain ⟨cy, h, bL⟩ := bnd h
    refine WL.cut 4 (σ := (Bool × Own)) (fun x w' => x.1 = cy ∧ Stp [] ao av x.2 w') (fun x => [(1, pt D 0), (23, vB x.1)]) ?_ ?_
    ·rcases cnd h with ⟨az, h⟩ | ⟨az, h⟩
     ·refine WL.ren 19 z (congrArg vB az) (ug z z (wY (yL ty40 z z (ay.cells 0 (cp a0 (vl M Q S) (vl F G H) (vl I J K)) z) z) z (ug z z ?_)))
      have bM := W.i d z z
      have bO := Z.i d z z
      have bP := aa.i d z z
      obtain ⟨cz, bQ, h⟩ := bnd h
      refine WL.call (vals := [ag (cp a0 (vl M Q S) (vl F G H) (vl I J K))]) kok34 z z (c_point_sum (A := fun _ => True) (a0 := a0) (Sl.all bM) (Sl.all bO) (Sl.all bP) bQ) ?_
      rintro cP cQ ⟨rfl, bR⟩
      obtain ⟨cA, cC, cD, aR⟩ := adoptE ao (fun k => 1) bR
      refine ug z z (wY (Y.not z) z (wY (Y.pick (b := true) z z) z ?_))
      exact nl (At.join (σ := (Bool × Own)) ((!cz), cA) ⟨some1 h, (su_ aR z)⟩ (.cons z (.cons z .nil)))
     ·refine WL.ren 19 z (congrArg vB az) (WL.gS z z z z (WL.gS z z z z (WL.gS z z z z (wY (Y.pick (b := false) z z) z ?_))))
      exact nl (At.join (σ := (Bool × Own)) (false, ao) ⟨some1 h, (sr_ _ _ _)⟩ (.cons z (.cons z .nil)))
    ·rintro ⟨bs, bt⟩ cR ⟨rfl, C⟩
     replace h := bL
     try dsimp only at h C
     refine (show WL _ _ _ _ _ [(1, pt D 0), (23, vB bs)] _ from ?_)
     refine wY (ya z) z (nl (th ?_))
     rcases cnd h with ⟨aA, h⟩ | ⟨aA, h⟩
     ·refine WC.condT' z aA (sk ?_)
      exact At.join (σ := (Bool × Own)) (bs, bt) ⟨some1 h, (su_ C z)⟩ (.cons z (.cons z .nil))
     ·refine WC.condF' z aA (rg ?_)
      have bS := ay.st C z
      refine wY (yL ty40 z z (bS.cells 0 (cp a0 (vl M Q S) (vl F G H) (vl I J K)) z) z) z ?_
      have bU := (W.i d z z).i C z z
      have bX := (Z.i d z z).i C z z
      have bZ := (aa.i d z z).i C z z
      obtain ⟨c1, b0, h⟩ := bnd h
      refine WL.call (vals := [ag (cp a0 (vl M Q S) (vl F G H) (vl I J K))]) kok35 z z (c_point_times (A := fun _ => True) (a0 := a0) (Sl.all bU) (Sl.all bX) (Sl.all bZ) b0) ?_
      rintro cS cT ⟨rfl, b1⟩
      obtain ⟨b2, cg, ch, aM⟩ := adoptE bt (fun k => 1) b1
      refine wY (Y.not z) z ?_
      obtain ⟨b3, aS, h⟩ := lt1 h
      refine WL.yE (ya z) (congrArg vB aS.symm) z (nl ?_)
      exact At.join (σ := (Bool × Own)) (b3, b2) ⟨some1 h, (tr_ (su_ C z) (su_ aM z))⟩ (.cons z (.cons z .nil))
   ·rintro ⟨cE, bu⟩ b4 ⟨rfl, l⟩
    replace h := bK
    try dsimp only at h l
    refine (show At _ _ _ [(1, pt D 0), (16, vB cE)] _ from ?_)
    refine th ?_
    rcases cnd h with ⟨ab, h⟩ | ⟨ab, h⟩
    ·refine WC.condT' z ab (sq (rg (wY (ya z) z (nl (th (rt (At.inBlockR (At.thenR ?_))))))))
     obtain rfl := some1 h
     have aT : Stp [] (Lg.O0 A) w bu b4 := (tr_ (su_ j z) (tr_ (su_ e z) (tr_ (su_ d z) (su_ l z))))
     exact At.res (.inl z) z (.tmp z .nil) ⟨z, (se_ aT z z)⟩
    ·refine WC.condF' z ab (sq (rg ?_))
     have aD := (au.st d z).st l z
     refine wY (yL ty40 z z (aD.cells 0 (cp a0 (vl M Q S) (vl F G H) (vl I J K)) z) z) z ?_
     have aX := (W.i d z z).i l z z
     have aE := (Z.i d z z).i l z z
     have aF := (aa.i d z z).i l z z
     obtain ⟨cU, a1, h⟩ := bnd h
     refine WL.call (vals := [ag (cp a0 (vl M Q S) (vl F G H) (vl I J K))]) kok36 z z (c_point_own (A := fun _ => True) (a0 := a0) (Sl.all aX) (Sl.all aE) (Sl.all aF) a1) ?_
     rintro cF ac ⟨rfl, a2⟩
     obtain ⟨ad, ci, cj, m⟩ := adoptE bu (fun k => 1) a2
     refine wY (Y.not z) z ?_
     obtain ⟨cV, a3, h⟩ := lt1 h
     refine WL.yE (ya z) (congrArg vB a3.symm) z (nl (th ?_))
     rcases cnd h with ⟨ae, h⟩ | ⟨ae, h⟩
     ·refine WC.condT' z ae (sq (rg (wY (ya z) z (nl (th (rt (At.inBlockR (At.thenR ?_))))))))
      obtain rfl := some1 h
      have a4 : Stp [] (Lg.O0 A) w ad ac := (tr_ (su_ j z) (tr_ (su_ e z) (tr_ (su_ d z) (tr_ (su_ l z) (su_ m z)))))
      exact At.res (.inl z) z (.tmp z .nil) ⟨z, (se_ a4 z z)⟩
     ·refine WC.condF' z ae (sq (rg (wY (yf fo40_4 z) z ?_)))
      have U := aD.st m z
      refine wY (yl ty4 z z (U.cell 4 _ z)) z (wY (ym z) z ?_)
      refine WL.cut 4 (σ := Unit) (fun _ w' => ac = w') (fun _ => [(1, pt D 0), (38, vB (a0.Mono && (decide (a0.Kind = 2))))]) ?_ ?_
      ·refine WL.part 34 z (fun af => ?_) (fun af => ?_)
       ·refine ug z z (wY (yf fo40_2 z) z (ug z z (wY (yl ty3 z z (U.cell 2 _ z)) z (ug z z (wY (Y.eql_i z z) z (wY (Y.pick (b := true) z z) z (WL.ren (v' := vB (a0.Mono && (decide (a0.Kind = 2)))) 38 z (congrArg vB (andT af)) ?_)))))))
        exact nl (At.join () z (.cons z (.cons z .nil)))
       ·refine WL.gS z z z z (WL.gS z z z z (WL.gS z z z z (wY (Y.pick (b := false) z z) z (WL.ren (v' := vB (a0.Mono && (decide (a0.Kind = 2)))) 38 z (congrArg vB (andF af)) ?_))))
        exact nl (At.join () z (.cons z (.cons z .nil)))
      ·rintro _ _ rfl
       refine (show WL _ _ _ _ _ [(1, pt D 0), (38, vB (a0.Mono && (decide (a0.Kind = 2))))] _ from ?_)
       refine wY (ym z) z ?_
       obtain ⟨b5, h, a5⟩ := bnd h
       refine WL.cut 5 (σ := (Bool × Own)) (fun x w' => x.1 = b5 ∧ Stp [] ad ac x.2 w') (fun x => [(1, pt D 0), (44, vB x.1)]) ?_ ?_
       ·rcases cnd h with ⟨ah, h⟩ | ⟨ah, h⟩
        ·refine WL.ren 39 z (congrArg vB ah) (ug z z (wY (yf fo40_8 z) z (ug z z (wY (yl ty33 z z (U.cell 8 _ z)) z (ug z z ?_)))))
         obtain ⟨b6, a6, h⟩ := bnd h
         refine WL.call (vals := [vu a0.Re]) kok37 z z (c_num_Finite a6) ?_
         rintro cG cH ⟨rfl, a7⟩
         obtain ⟨b7, ck, cl, aN⟩ := adoptE ad (fun k => 1) a7
         refine ug z z (wY (Y.not z) z (wY (Y.pick (b := true) z z) z ?_))
         exact nl (At.join (σ := (Bool × Own)) ((!b6), b7) ⟨some1 h, (su_ aN z)⟩ (.cons z (.cons z .nil)))
        ·refine WL.ren 39 z (congrArg vB ah) (WL.gS z z z z (WL.gS z z z z (WL.gS z z z z (WL.gS z z z z (wY (Y.pick (b := false) z z) z ?_)))))
         exact nl (At.join (σ := (Bool × Own)) (false, ad) ⟨some1 h, (sr_ _ _ _)⟩ (.cons z (.cons z .nil)))
       ·rintro ⟨b8, T⟩ ai ⟨rfl, o⟩
        replace h := a5
        try dsimp only at h o
        refine (show WL _ _ _ _ _ [(1, pt D 0), (44, vB b8)] _ from ?_)
        refine wY (ya z) z (nl (th ?_))
        rcases cnd h with ⟨aj, h⟩ | ⟨aj, h⟩
        ·refine WC.condT' z aj (sq (rg (wY (ya z) z (nl (th (rt (At.inBlockR (At.thenR ?_))))))))
         obtain rfl := some1 h
         have a8 : Stp [] (Lg.O0 A) w T ai := (tr_ (su_ j z) (tr_ (su_ e z) (tr_ (su_ d z) (tr_ (su_ l z) (tr_ (su_ m z) (su_ o z))))))
         exact At.res (.inl z) z (.tmp z .nil) ⟨z, (se_ a8 z z)⟩
        ·refine WC.condF' z aj (sq (rg (wY (yf fo40_4 z) z ?_)))
         have V := U.st o z
         refine wY (yl ty4 z z (V.cell 4 _ z)) z (wY (ym z) z ?_)
         obtain ⟨b9, h, a9⟩ := bnd h
         refine WL.cut 9 (σ := (Bool × Own)) (fun x w' => x.1 = b9 ∧ Stp [] T ai x.2 w') (fun x => [(1, pt D 0), (57, vB x.1)]) ?_ ?_
         ·rcases cnd h with ⟨ak, h⟩ | ⟨ak, h⟩
          ·refine WL.ren 48 z (congrArg vB ak) (ug z z (wY (yf fo40_7 z) z (ug z z (wY (yl ty3 z z (V.cell 7 _ z)) z (ug z z (wY (Y.lss_i z z) z (ug z z (wY (ym z) z ?_))))))))
           obtain ⟨ca, h, ba⟩ := bnd h
           refine WL.cut 4 (σ := (Bool × Own)) (fun x w' => x.1 = ca ∧ Stp [] T ai x.2 w') (fun x => [(1, pt D 0), (48, vB true), (56, vB x.1)]) ?_ ?_
           ·rcases cnd h with ⟨al, h⟩ | ⟨al, h⟩
            ·refine WL.ren 52 z (congrArg vB al) (WL.gS z z z z (WL.gS z z z z (WL.gS z z z z (ug z z (wY (Y.pick (b := true) z z) z ?_)))))
             exact nl (At.join (σ := (Bool × Own)) (true, T) ⟨some1 h, (sr_ _ _ _)⟩ (.cons z (.cons z (.cons z .nil))))
            ·refine WL.ren 52 z (congrArg vB al) (ug z z (wY (yf fo40_8 z) z (ug z z (wY (yl ty33 z z (V.cell 8 _ z)) z (ug z z ?_)))))
             obtain ⟨cb, bb, h⟩ := bnd h
             refine WL.call (vals := [vu a0.Re, vu 0]) kok38 z z (c_num_Less bb) ?_
             rintro cI cJ ⟨rfl, bc⟩
             obtain ⟨cc, cm, cn, aO⟩ := adoptE T (fun k => 1) bc
             refine ug z z (wY (Y.pick (b := false) z z) z ?_)
             exact nl (At.join (σ := (Bool × Own)) (cb, cc) ⟨some1 h, (su_ aO z)⟩ (.cons z (.cons z (.cons z .nil))))
           ·rintro ⟨aP, cd⟩ cK ⟨rfl, ap⟩
            replace h := ba
            try dsimp only at h ap
            refine (show WL _ _ _ _ _ [(1, pt D 0), (48, vB true), (56, vB aP)] _ from ?_)
            refine wY (Y.pick (b := true) z z) z ?_
            exact nl (At.join (σ := (Bool × Own)) (aP, cd) ⟨some1 h, (su_ ap z)⟩ (.cons z (.cons z .nil)))
          ·refine WL.ren 48 z (congrArg vB ak) (WL.gS z z z z (WL.gS z z z z (WL.gS z z z z (WL.gS z z z z (WL.gS z z z z (WL.gS z z z z (WL.gS z z z z (WL.gS z z z z (wY (Y.pick (b := false) z z) z ?_)))))))))
           exact nl (At.join (σ := (Bool × Own)) (false, T) ⟨some1 h, (sr_ _ _ _)⟩ (.cons z (.cons z .nil)))
         ·rintro ⟨ce, aC⟩ aG ⟨rfl, t⟩
          replace h := a9
          try dsimp only at h t
          refine (show WL _ _ _ _ _ [(1, pt D 0), (57, vB ce)] _ from ?_)
          refine wY (ya z) z (nl (th ?_))
          rcases cnd h with ⟨am, h⟩ | ⟨am, h⟩
          ·refine WC.condT' z am (sq (rg (wY (ya z) z (nl (th (rt (At.inBlockR (At.thenR ?_))))))))
           obtain rfl := some1 h
           have bd : Stp [] (Lg.O0 A) w aC aG := (tr_ (su_ j z) (tr_ (su_ e z) (tr_ (su_ d z) (tr_ (su_ l z) (tr_ (su_ m z) (tr_ (su_ o z) (su_ t z)))))))
           exact At.res (.inl z) z (.tmp z .nil) ⟨z, (se_ bd z z)⟩
          ·refine WC.condF' z am (sq (rg (wY (yf fo40_2 z) z ?_)))
           have aH := V.st t z
           refine wY (yl ty3 z z (aH.cell 2 _ z)) z (wY (Y.eql_i z z) z ?_)
           obtain ⟨cW, bf, h⟩ := lt1 h
           refine WL.yE (ya z) (congrArg vB bf.symm) z (nl (th ?_))
           rcases cnd h with ⟨an, h⟩ | ⟨an, h⟩
           ·refine WC.condT' z an (sq (rg (wY (yf fo40_10 z) z (wY (yL ty38 z z (aH.cells 10 (hl a0.Hist (vl F G H) (vl I J K)) z) z) z ?_))))
            have bi := ((aE.i m z z).i o z z).i t z z
            have bl := ((aF.i m z z).i o z z).i t z z
            obtain ⟨cX, bm, h⟩ := bnd h
            refine WL.call (vals := [ag (hl a0.Hist (vl F G H) (vl I J K))]) kok39 z z (c_hist_Check (A := fun _ => True) (a0 := a0.Hist) (Sl.all bi) (Sl.all bl) bm) ?_
            rintro cL bn ⟨rfl, bo⟩
            obtain ⟨cf, co, cq, aQ⟩ := adoptE aC (fun k => 1) bo
            refine wY (ya z) z (nl (th (rt (At.inBlockR (At.thenR ?_)))))
            obtain rfl := some1 h
            have bp : Stp [] (Lg.O0 A) w cf bn := (tr_ (su_ j z) (tr_ (su_ e z) (tr_ (su_ d z) (tr_ (su_ l z) (tr_ (su_ m z) (tr_ (su_ o z) (tr_ (su_ t z) (su_ aQ z))))))))
            exact At.res (.inl z) z (.tmp z .nil) ⟨z, (se_ bp z z)⟩
           ·refine WC.condF' z an (sk (At.inBlock (th (sq (rg (wY (ya z) z (nl (th (rt ?_)))))))))
            obtain rfl := some1 h
            have bq : Stp [] (Lg.O0 A) w aC aG := (tr_ (su_ j z) (tr_ (su_ e z) (tr_ (su_ d z) (tr_ (su_ l z) (tr_ (su_ m z) (tr_ (su_ o z) (su_ t z)))))))
            exact At.res (.inl z) z (.tmp z .nil) ⟨z, (se_ bq z z)⟩
theorem c_slices_Clone_api_Pair_api_Pair {A : Nat → Prop} {a0 : List api_Pair} {v0 : Value} {w : World} (hs0 : Sl rep_api_Pair w A v0 a0) {r0 : List api_Pair} (h : slices_Clone_api_Pair_api_Pair a0 = some r0) : Rets Tryz.prog 49 [v0] w (fun v w' => ∃ (l : Value), v = l ∧ Ext w w' ∧ RowF rep_api_Pair 67 w w' l r0) := by
  unfold slices_Clone_api_Pair_api_Pair at h
  refine Rets.enter Tryz.func49 z z ?_
  refine (show WC _ _ _ _ [(0, v0)] _ from ?_)
  refine sq (rg (wY (ya z) z (nl (th ?_))))
  refine sq (sq (rg ?_))
  refine wY (ym z) z ?_
  rcases hs0.nilOr with ⟨rfl, rfl⟩ | ⟨q, n, c, rfl⟩
  · refine wY (Y.slnil (p := none) (n := 0) (c := 0) ty32.u z z) z (nl (th ?_))
    refine WC.condT z (sq (rg (wY (ya z) z (nl (th (rt (At.thenR ?_)))))))
    have : r0 = [] := by simpa [app] using h.symm
    subst this
    exact At.res (.inl z) z (.tmp z .nil) ⟨_, z, Ext.refl w, RowF.nil⟩
  · refine wY (Y.slnil (p := some _) ty32.u z z) z (nl (th ?_))
    refine WC.condF z (sk (th ?_))
    refine sq (rg ?_)
    have hs := hs0
    refine WL.buildSlice (O := Lg.O0 A) (R := rep_api_Pair) (vals := []) 11 [] (xs := []) (by decide) ty32 ty67 (by decide) (by decide) (fe_ z) (by kernel_rfl) z z z ?_
    intro v F G d m
    refine wY (ym z) z ?_
    have o := (Sl.start hs).i d z z
    refine WL.append (by decide) ty32 ty67 z (by decide) z z m o.src h z ?_
    intro H C D j t
    refine wY (ya z) z (nl (th (rt ?_)))
    have e : Stp [11] (Lg.O0 A) w C D := (tr_ (su_ d z) j)
    exact At.res (.inl z) z (.tmp z .nil) ⟨_, z, se_ e z z, OwnSl.outF t e low0 z⟩
theorem c_cmp_isNaN_string {a0 : List UInt8} {w : World} {r0 : Bool} (h : cmp_isNaN_string a0 = some r0) : Rets Tryz.prog 161 [vs a0] w (fun v w' => v = vB r0 ∧ Ext w w') := by
 unfold cmp_isNaN_string at h
 refine Rets.enter Tryz.func161 z z ?_
 refine (show WC _ _ _ _ [(0, vs a0)] _ from ?_)
 refine sq (rg (wY (ya z) z (nl (th (sq (rg (wY (ym z) z (wY (ym z) z (wY (Y.neq_s z z) z ?_)))))))))
 obtain ⟨j, d, h⟩ := lt1 h
 refine WL.yE (ya z) (congrArg vB d.symm) z (nl (th (rt ?_)))
 obtain rfl := some1 h
 have e : Stp [] (Lg.O0 (fun _ => False)) w (Lg.O0 (fun _ => False)) w := (sr_ _ _ _)
 exact At.res (.inl z) z (.tmp z .nil) ⟨z, (se_ e z z)⟩
theorem c_cmp_Compare_string {a0 : List UInt8} {a1 : List UInt8} {w : World} {r0 : Int} (h : cmp_Compare_string a0 a1 = some r0) : Rets Tryz.prog 142 [vs a0, vs a1] w (fun v w' => v = vi r0 ∧ Ext w w') := by
 unfold cmp_Compare_string at h
 refine Rets.enter Tryz.func142 z z ?_
 refine (show WC _ _ _ _ [(0, vs a0), (1, vs a1)] _ from ?_)
 refine sq (rg (wY (ya z) z (nl (th (sq (rg (wY (ym z) z ?_)))))))
 obtain ⟨ae, F, h⟩ := bnd h
 refine WL.call (vals := [vs a0]) kok161 z z (c_cmp_isNaN_string F) ?_
 rintro ab ac ⟨rfl, G⟩
 obtain ⟨U, V, W, d⟩ := adoptE (Lg.O0 (fun _ => False)) (fun k => 1) G
 refine wY (ya z) z (nl (th (sq (rg (wY (ym z) z ?_)))))
 obtain ⟨af, H, h⟩ := bnd h
 refine WL.call (vals := [vs a1]) kok161 z z (c_cmp_isNaN_string H) ?_
 rintro ad j ⟨rfl, I⟩
 obtain ⟨l, Z, aa, e⟩ := adoptE U (fun k => 1) I
 refine wY (ya z) z (nl (th (sq (sq (rg (wY (ym z) z (nl (th ?_))))))))
 rcases cnd h with ⟨m, h⟩ | ⟨m, h⟩
 ·refine WC.condT' z m (sq (sq (rg (wY (ym z) z (nl (th ?_))))))
  rcases cnd h with ⟨o, h⟩ | ⟨o, h⟩
  ·refine WC.condT' z o (sq (rg (wY (ya z) z (nl (th (rt (At.thenR (At.thenR ?_))))))))
   obtain rfl := some1 h
   have J : Stp [] (Lg.O0 (fun _ => False)) w l j := (tr_ (su_ d z) (su_ e z))
   exact At.res (.inl z) z (.tmp z .nil) ⟨z, (se_ J z z)⟩
  ·refine WC.condF' z o (sk (th (sq (rg (wY (ya z) z (nl (th (rt (At.thenR ?_)))))))))
   obtain rfl := some1 h
   have K : Stp [] (Lg.O0 (fun _ => False)) w l j := (tr_ (su_ d z) (su_ e z))
   exact At.res (.inl z) z (.tmp z .nil) ⟨z, (se_ K z z)⟩
 ·refine WC.condF' z m (sk (th (sq (sq (rg (wY (ym z) z (nl (th ?_))))))))
  rcases cnd h with ⟨t, h⟩ | ⟨t, h⟩
  ·refine WC.condT' z t (sq (rg (wY (ya z) z (nl (th (rt (At.thenR ?_)))))))
   obtain rfl := some1 h
   have M : Stp [] (Lg.O0 (fun _ => False)) w l j := (tr_ (su_ d z) (su_ e z))
   exact At.res (.inl z) z (.tmp z .nil) ⟨z, (se_ M z z)⟩
  ·refine WC.condF' z t (sk (th (sq (sq (rg (wY (ym z) z (wY (ym z) z (wY (Y.lss_s z z) z (nl ?_)))))))))
   refine th ?_
   rcases cnd h with ⟨C, h⟩ | ⟨C, h⟩
   ·refine WC.condT' z C (sq (rg (wY (ya z) z (nl (th (rt (At.thenR ?_)))))))
    obtain rfl := some1 h
    have Q : Stp [] (Lg.O0 (fun _ => False)) w l j := (tr_ (su_ d z) (su_ e z))
    exact At.res (.inl z) z (.tmp z .nil) ⟨z, (se_ Q z z)⟩
   ·refine WC.condF' z C (sk (th (sq (sq (rg (wY (ym z) z (wY (ym z) z (wY (Y.gtr_s z z) z (nl ?_)))))))))
    refine th ?_
    rcases cnd h with ⟨D, h⟩ | ⟨D, h⟩
    ·refine WC.condT' z D (sq (rg (wY (ya z) z (nl (th (rt (At.thenR ?_)))))))
     obtain rfl := some1 h
     have S : Stp [] (Lg.O0 (fun _ => False)) w l j := (tr_ (su_ d z) (su_ e z))
     exact At.res (.inl z) z (.tmp z .nil) ⟨z, (se_ S z z)⟩
    ·refine WC.condF' z D (sk (th (sq (rg (wY (ya z) z (nl (th (rt ?_))))))))
     obtain rfl := some1 h
     have T : Stp [] (Lg.O0 (fun _ => False)) w l j := (tr_ (su_ d z) (su_ e z))
     exact At.res (.inl z) z (.tmp z .nil) ⟨z, (se_ T z z)⟩
theorem c_label_Sorted {A : Nat → Prop} {a0 : List api_Pair} {v0 : Value} {w : World} (hs0 : Sl rep_api_Pair w A v0 a0) {r0 : List api_Pair} (h : label_Sorted a0 = some r0) : Rets Tryz.prog 117 [v0] w (fun v w' => ∃ (u0 : Value), v = u0 ∧ Ext w w' ∧ RowF rep_api_Pair 67 w w' u0 r0) := by
 unfold label_Sorted at h
 refine Rets.enter Tryz.func117 z z ?_
 have fD : Sl rep_api_Pair w (imm (Lg.O0 A)) v0 a0 := (Sl.start hs0)
 refine (show WC _ _ _ _ [(0, v0)] _ from ?_)
 refine sq (rg (wY (ya z) z (nl (th (sq (rg (wY (ym z) z ?_)))))))
 obtain ⟨e, fF, h⟩ := bnd h
 refine WL.call (vals := [v0]) kok49 z z (c_slices_Clone_api_Pair_api_Pair (A := fun _ => True) (Sl.all fD) fF) ?_
 rintro d af ⟨_, rfl, fG, g2⟩
 obtain ⟨ax, g3, ch, dD⟩ := adoptE (Lg.O0 A) (fun k => if ob d = some k then 11 else 1) fG
 have ci : OwnSl 11 rep_api_Pair 67 ax af d e := RowF.adopt 11 flat_api_Pair g2 ch (fun k hk => if_pos hk)
 refine wY (ya z) z (nl (th (sq (rg (wY (ym z) z ?_)))))
 obtain ⟨g4, h, fH⟩ := bnd h
 refine WL.callJ (vals := [d, Value.func (.func 141) (List.toArray []) (List.toArray [])]) (σ := (List api_Pair × Own)) (fun x w' => x.1 = g4 ∧ Stp [11, 1001, 1002, 1003, 1004, 1005, 1006, 1007, 1008, 1009, 1010, 1011, 1012, 1013, 1014, 1015, 1016] ax af x.2 w' ∧ OwnSl 1018 rep_api_Pair 67 x.2 w' d x.1) (fun x => tp []) kok140 z z ?_ ?_
 ·refine Rets.enter Tryz.func140 z z ?_
  refine (show WC _ _ _ _ [(0, d), (1, Value.func (.func 141) (List.toArray []) (List.toArray []))] _ from ?_)
  refine rg (wY (ym z) z (wY (ym z) z (wY (Y.len ty32 z ci.src.sl) z (wY (ym z) z ?_))))
  obtain ⟨g5, h, fI⟩ := bnd h
  refine WL.callJ (vals := [d, vi (e.length : Int), Value.func (.func 141) (List.toArray []) (List.toArray [])]) (σ := (List api_Pair × Own)) (fun x w' => x.1 = g5 ∧ Stp [11, 1001, 1002, 1003, 1004, 1005, 1006, 1007, 1008, 1009, 1010, 1011, 1012, 1013, 1014, 1015] ax af x.2 w' ∧ OwnSl 1016 rep_api_Pair 67 x.2 w' d x.1) (fun x => tp []) kok160 z z ?_ ?_
  ·refine Rets.enter Tryz.func160 z z ?_
   refine (show WC _ _ _ _ [(0, d), (1, vi (e.length : Int)), (2, Value.func (.func 141) (List.toArray []) (List.toArray []))] _ from ?_)
   refine sq (rg (wY (ya z) z (nl (th (sq (rg (wY (ym z) z (wY (ya z) z (wY (ya z) z ?_)))))))))
   refine nl (th (sq ?_))
   obtain ⟨g6, h, fJ⟩ := bnd h
   refine WC.join (σ := (List api_Pair × Int × Own)) (fun x w' => (x.1, x.2.1) = g6 ∧ Stp [11, 1001, 1002, 1003, 1004, 1005, 1006, 1007, 1008] ax af x.2.2 w' ∧ OwnSl 1009 rep_api_Pair 67 x.2.2 w' d x.1) (fun x => [(0, d), (1, vi (e.length : Int)), (2, Value.func (.func 141) (List.toArray []) (List.toArray [])), (6, vi 20), (7, vi x.2.1)]) ?_ ?_
   ·refine WC.block ?_
    obtain ⟨fy, h, fK⟩ := flow1 h
    obtain ⟨fz, h⟩ := loop_some h
    refine WC.joinB 0 (σ := (List api_Pair × Int × Own)) (fun x w' => fy = .go (x.1, x.2.1) ∧ Stp [11, 1001, 1002, 1003, 1004, 1005, 1006, 1007] ax af x.2.2 w' ∧ OwnSl 1008 rep_api_Pair 67 x.2.2 w' d x.1) (fun x => [(0, d), (1, vi (e.length : Int)), (2, Value.func (.func 141) (List.toArray []) (List.toArray [])), (6, vi 20), (7, vi x.2.1)]) ?_ ?_
    ·obtain ⟨g7, dE, fL⟩ := OwnSl.rlb 1007 rfl ci
     refine WC.loop (σ := (List api_Pair × Int × Int × Own)) (fun x k w' => loopN k (label_Sorted_lp1 e) (x.1, x.2.1, x.2.2.1) = some fy ∧ Stp [11, 1001, 1002, 1003, 1004, 1005, 1006, 1007] ax af x.2.2.2 w' ∧ OwnSl 1007 rep_api_Pair 67 x.2.2.2 w' d x.1) (fun x => [(0, d), (1, vi (e.length : Int)), (2, Value.func (.func 141) (List.toArray []) (List.toArray [])), (6, vi 20), (7, vi x.2.1), (8, vi x.2.2.1)]) (e, 0, 20, g7) fz (.cons z (.cons z (.cons z (.cons z (.cons z (.cons z .nil)))))) ⟨h, (su_ dE z), fL⟩ ?_
     rintro ⟨a5, l, m, cj⟩ fz bq ⟨h, az, br⟩
     obtain ⟨g8, iY, rfl, h, ck⟩ := rnd1 h
     unfold label_Sorted_lp1 at h
     try dsimp only at h az br
     refine (show WC _ _ _ _ [(0, d), (1, vi (e.length : Int)), (2, Value.func (.func 141) (List.toArray []) (List.toArray [])), (6, vi 20), (7, vi l), (8, vi m)] _ from ?_)
     refine sq (sq (rg (wY (ym z) z (wY (ym z) z (wY (Y.leq_i z z) z (nl (th ?_)))))))
     rcases cnd h with ⟨bs, h⟩ | ⟨bs, h⟩
     ·refine WC.condT' z bs (sk (th (WC.block (sq (rg (wY (ym z) z (wY (ym z) z (wY (ym z) z (wY (ym z) z ?_)))))))))
      obtain ⟨g9, h, fN⟩ := bnd h
      refine WL.callJ (vals := [d, vi l, vi m, Value.func (.func 141) (List.toArray []) (List.toArray [])]) (σ := (List api_Pair × Own)) (fun x w' => x.1 = g9 ∧ Stp [1001, 1002, 1003, 1004, 1005, 1007] cj bq x.2 w' ∧ OwnSl 1006 rep_api_Pair 67 x.2 w' d x.1) (fun x => tp []) kok168 z z ?_ ?_
      ·refine Rets.enter Tryz.func168 z z ?_
       refine (show WC _ _ _ _ [(0, d), (1, vi l), (2, vi m), (3, Value.func (.func 141) (List.toArray []) (List.toArray []))] _ from ?_)
       refine sq (rg (wY (ym z) z (wY (Y.add_i z z) z ?_)))
       obtain ⟨ha, fO, h⟩ := lt1 h
       refine WL.yE (ya z) (congrArg vi fO.symm) z (nl (th (WC.block ?_)))
       obtain ⟨fA, h, fP⟩ := flow1 h
       obtain ⟨fB, h⟩ := loop_some h
       refine WC.joinB 0 (σ := (List api_Pair × Own)) (fun x w' => fA = .go x.1 ∧ Stp [1001, 1002, 1003, 1004, 1007] cj bq x.2 w' ∧ OwnSl 1005 rep_api_Pair 67 x.2 w' d x.1) (fun x => []) ?_ ?_
       ·obtain ⟨hc, cl, dF⟩ := OwnSl.rlb 1004 rfl br
        refine WC.loop (σ := (List api_Pair × Int × Own)) (fun x k w' => loopN k (label_Sorted_lp2 l m) (x.1, x.2.1) = some fA ∧ Stp [1001, 1002, 1003, 1004, 1007] cj bq x.2.2 w' ∧ OwnSl 1004 rep_api_Pair 67 x.2.2 w' d x.1) (fun x => [(0, d), (1, vi l), (2, vi m), (3, Value.func (.func 141) (List.toArray []) (List.toArray [])), (8, vi x.2.1)]) (a5, ha, hc) fB (.cons z (.cons z (.cons z (.cons z (.cons z .nil))))) ⟨h, (su_ cl z), dF⟩ ?_
        rintro ⟨a6, V, cm⟩ fB bt ⟨h, aA, bu⟩
        obtain ⟨fQ, ij, rfl, h, bC⟩ := rnd1 h
        unfold label_Sorted_lp2 at h
        try dsimp only at h aA bu
        refine (show WC _ _ _ _ [(0, d), (1, vi l), (2, vi m), (3, Value.func (.func 141) (List.toArray []) (List.toArray [])), (8, vi V)] _ from ?_)
        refine sq (sq (rg (wY (ym z) z (wY (ym z) z (wY (Y.lss_i z z) z (nl (th ?_)))))))
        rcases cnd h with ⟨aC, h⟩ | ⟨aC, h⟩
        ·refine WC.condT' z aC (sk (th (sq (WC.block (sq (rg (wY (ym z) z (wY (ya z) z (nl ?_)))))))))
         refine th ?_
         obtain ⟨fR, h, dG⟩ := bnd h
         refine WC.join (σ := (List api_Pair × Own)) (fun x w' => x.1 = fR ∧ Stp [1001, 1002, 1004] cm bt x.2 w' ∧ OwnSl 1003 rep_api_Pair 67 x.2 w' d x.1) (fun x => [(0, d), (1, vi l), (2, vi m), (3, Value.func (.func 141) (List.toArray []) (List.toArray [])), (8, vi V)]) ?_ ?_
         ·refine WC.block ?_
          obtain ⟨cn, h, dH⟩ := flow1 h
          obtain ⟨co, h⟩ := loop_some h
          refine WC.joinB 2 (σ := (List api_Pair × Own)) (fun x w' => cn = .go x.1 ∧ Stp [1001, 1004] cm bt x.2 w' ∧ OwnSl 1002 rep_api_Pair 67 x.2 w' d x.1) (fun x => [(0, d), (1, vi l), (2, vi m), (3, Value.func (.func 141) (List.toArray []) (List.toArray [])), (8, vi V)]) ?_ ?_
          ·obtain ⟨fT, cq, dI⟩ := OwnSl.rlb 1001 rfl bu
           refine WC.loop (σ := (List api_Pair × Int × Own)) (fun x k w' => loopN k (label_Sorted_lp3 l) (x.1, x.2.1) = some cn ∧ Stp [1001, 1004] cm bt x.2.2 w' ∧ OwnSl 1001 rep_api_Pair 67 x.2.2 w' d x.1) (fun x => [(0, d), (1, vi l), (2, vi m), (3, Value.func (.func 141) (List.toArray []) (List.toArray [])), (8, vi V), (9, vi x.2.1)]) (a6, V, fT) co (.cons z (.cons z (.cons z (.cons z (.cons z (.cons z .nil)))))) ⟨h, (su_ cq z), dI⟩ ?_
           rintro ⟨ca, C, am⟩ co hA ⟨h, an, ai⟩
           obtain ⟨fU, ik, rfl, h, bD⟩ := rnd1 h
           unfold label_Sorted_lp3 at h
           try dsimp only at h an ai
           refine (show WC _ _ _ _ [(0, d), (1, vi l), (2, vi m), (3, Value.func (.func 141) (List.toArray []) (List.toArray [])), (8, vi V), (9, vi C)] _ from ?_)
           refine sq (sq (WC.drawH [] [0, 1, 2, 3, 4, 5, 6, 7, 8, 9, 10, 11, 12, 13, 14, 15, 16] am 17 fmix z (by kernel_rfl) ?_))
           intro bE W
           refine WD.y 0 z (by kernel_rfl) (fun _ _ _ => ym z) z (WD.y 1 z (by kernel_rfl) (fun _ _ _ => ym z) z (WD.y 2 z (by kernel_rfl) (fun _ _ _ => Y.gtr_i z z) z (WD.y 3 z (by kernel_rfl) (fun _ _ _ => ym z) z ?_)))
           obtain ⟨fV, h, dJ⟩ := bnd h
           refine WD.join (σ := (Bool × Own)) (f' := 0) [16, 15, 14, 13, 12, 11, 10, 9, 8, 7, 6, 5, 4, 3, 2, 1, 0] (fun x O' w' => x.1 = fV ∧ Stp [] am bE x.2 w' ∧ x.2 = O') (fun x => [(0, d), (1, vi l), (2, vi m), (3, Value.func (.func 141) (List.toArray []) (List.toArray [])), (8, vi V), (9, vi C), (34, vB x.1)]) (fun bF => ?_) ?_
           ·rcases cnd h with ⟨ad, h⟩ | ⟨ad, h⟩
            ·refine WD.ren 21 z (congrArg vB ad) (WD.gT 4 z (by kernel_rfl) z z (fun _ _ _ => ym z) z (WD.gT 5 z (by kernel_rfl) z z (fun _ _ _ => ym z) z (WD.gT 6 z (by kernel_rfl) z z (fun _ _ _ => ym z) z ?_)))
             obtain ⟨D, dK, h⟩ := bnd h
             have aj := ai.st W z z z
             obtain ⟨il, hd, hC, bG, dL, dM, aD, cr⟩ := OwnSl.at aj dK
             obtain ⟨_, _, rfl, rfl, rfl⟩ := cr
             replace aD : CellsAt _ _ _ [vs D.Key, vs D.Val] := aD
             have cs := CAt.own aj bG aD
             refine WD.gT 7 z (by kernel_rfl) z z (fun _ _ _ => Y.indexAddr ty32 ty67 z bG z dL dM) z (WD.gT 8 z (by kernel_rfl) z z (fun hD im ct => have dN := cs.st ct z; yL ty67 z z dN.at_ z) z (WD.gT 9 z (by kernel_rfl) z z (fun _ _ _ => ym z) z (WD.gT 10 z (by kernel_rfl) z z (fun _ _ _ => ym z) z (WD.gT 11 z (by kernel_rfl) z z (fun _ _ _ => Y.sub_i z z) z ?_))))
             obtain ⟨F, dO, h⟩ := bnd h
             obtain ⟨io, he, hE, bH, dP, dQ, aE, cu⟩ := OwnSl.at aj dO
             obtain ⟨_, _, rfl, rfl, rfl⟩ := cu
             replace aE : CellsAt _ _ _ [vs F.Key, vs F.Val] := aE
             have cw := CAt.own aj bH aE
             refine WD.gT 12 z (by kernel_rfl) z z (fun _ _ _ => Y.indexAddr ty32 ty67 z bH z dP dQ) z (WD.gT 13 z (by kernel_rfl) z z (fun hF ip cx => have dR := cw.st cx z; yL ty67 z z dR.at_ z) z (WD.heavy 14 z (by kernel_rfl) (ug z z ?_)))
             obtain ⟨fY, h, dS⟩ := bnd h
             refine WL.callV (fv := []) (cv := []) (vals := [ag [vs D.Key, vs D.Val], ag [vs F.Key, vs F.Val]]) (σ := (Int × Own)) (fun x w' => x.1 = fY ∧ Stp [] am bE x.2 w') (fun x => vi x.1) kok141 z z z ?_ ?_
             ·refine Rets.enter Tryz.func141 z z ?_
              refine (show WC _ _ _ _ [(0, ag [vs D.Key, vs D.Val]), (1, ag [vs F.Key, vs F.Val])] _ from ?_)
              refine sq (rg (WL.box (O := am) 12 [vs D.Key, vs D.Val] z z z ?_))
              intro iq f0 hG cy dT
              refine WL.box (O := f0) 13 [vs F.Key, vs F.Val] z z z ?_
              intro ir f1 hH a7 dU
              refine wY (ya z) z (nl (th (sq (rg (wY (yf fo67_0 z) z ?_)))))
              have dV := dT.st a7 z
              refine wY (yl ty9 z z (dV.cell 0 _ z)) z (wY (yf fo67_0 z) z (wY (yl ty9 z z (dU.cell 0 _ z)) z ?_))
              obtain ⟨f2, dW, h⟩ := bnd h
              refine WL.call (vals := [vs D.Key, vs F.Key]) kok142 z z (c_cmp_Compare_string dW) ?_
              rintro hI hJ ⟨rfl, dX⟩
              obtain ⟨f3, gX, gY, cz⟩ := adoptE f1 (fun k => 1) dX
              refine wY (ya z) z (nl (th (rt ?_)))
              exact At.res (.inl z) z (.tmp z .nil) ⟨(f2, f3), ⟨some1 h, (tr_ (su_ cy z) (tr_ (su_ a7 z) (su_ cz z)))⟩, z⟩
             ·rintro ⟨cA, f4⟩ hK ⟨rfl, ao⟩
              replace h := dS
              try dsimp only at h ao
              refine (show WL _ _ _ _ _ ((32, vi cA) :: _) _ from ?_)
              refine nl (At.dq (su_ ao z) (WD.gT 15 z (by kernel_rfl) z z (fun _ _ _ => Y.lss_i z z) z (WD.y 16 z (by kernel_rfl) (fun _ _ _ => Y.pick (b := true) z z) z (WD.ren 21 z (congrArg vB ad.symm) ?_))))
              exact bF (decide (cA < 0), f4) _ _ _ ⟨some1 h, (su_ ao z), z⟩ (.cons z (.cons z (.cons z (.cons z (.cons z (.cons z (.cons z .nil)))))))
            ·refine WD.ren 21 z (congrArg vB ad) (WD.gS 4 z (by kernel_rfl) z z z z (WD.gS 5 z (by kernel_rfl) z z z z (WD.gS 6 z (by kernel_rfl) z z z z (WD.gS 7 z (by kernel_rfl) z z z z (WD.gS 8 z (by kernel_rfl) z z z z (WD.gS 9 z (by kernel_rfl) z z z z (WD.gS 10 z (by kernel_rfl) z z z z (WD.gS 11 z (by kernel_rfl) z z z z (WD.gS 12 z (by kernel_rfl) z z z z ?_)))))))))
             refine WD.gS 13 z (by kernel_rfl) z z z z (WD.heavy 14 z (by kernel_rfl) (WL.gS z z z z (nl (At.dq (sr_ _ _ _) (WD.gS 15 z (by kernel_rfl) z z z z (WD.y 16 z (by kernel_rfl) (fun _ _ _ => Y.pick (b := false) z z) z (WD.ren 21 z (congrArg vB ad.symm) ?_)))))))
             exact bF (false, am) _ _ _ ⟨some1 h, (sr_ _ _ _), z⟩ (.cons z (.cons z (.cons z (.cons z (.cons z (.cons z (.cons z .nil)))))))
           ·rintro ⟨f5, bw⟩ _ hL ⟨rfl, Z, rfl⟩
            replace h := dJ
            try dsimp only at h Z
            refine (show WD _ _ _ _ _ _ _ _ [(0, d), (1, vi l), (2, vi m), (3, Value.func (.func 141) (List.toArray []) (List.toArray [])), (8, vi V), (9, vi C), (34, vB f5)] _ _ from ?_)
            refine WD.done_ (by kernel_rfl) (th ?_)
            rcases cnd h with ⟨aF, h⟩ | ⟨aF, h⟩
            ·refine WC.condT' z aF (sk (th (sq (WC.block (WC.drawH [1001] [0, 1, 2, 3, 4, 5, 6, 7, 8, 9, 10, 11, 12, 13, 14, 15, 16] bw 18 fmix z (by kernel_rfl) ?_)))))
             intro dY a8
             refine WD.y 0 z (by kernel_rfl) (fun _ _ _ => ym z) z (WD.y 1 z (by kernel_rfl) (fun _ _ _ => ym z) z (WD.y 2 z (by kernel_rfl) (fun _ _ _ => ym z) z (WD.y 3 z (by kernel_rfl) (fun _ _ _ => ym z) z (WD.y 4 z (by kernel_rfl) (fun _ _ _ => Y.sub_i z z) z (WD.y 5 z (by kernel_rfl) (fun _ _ _ => ym z) z (WD.y 6 z (by kernel_rfl) (fun _ _ _ => ym z) z (WD.y 7 z (by kernel_rfl) (fun _ _ _ => Y.sub_i z z) z ?_)))))))
             obtain ⟨G, dZ, h⟩ := bnd h
             have H := ((ai.st W z z z).st Z z z z).st a8 z z z
             obtain ⟨it, hf, hM, bI, d2, d3, aG, cC⟩ := OwnSl.at H dZ
             obtain ⟨_, _, rfl, rfl, rfl⟩ := cC
             replace aG : CellsAt _ _ _ [vs G.Key, vs G.Val] := aG
             have a9 := CAt.own H bI aG
             refine WD.y 8 z (by kernel_rfl) (fun _ _ _ => Y.indexAddr ty32 ty67 z bI z d2 d3) z (WD.y 10 z (by kernel_rfl) (fun _ _ _ => ym z) z (WD.y 11 z (by kernel_rfl) (fun _ _ _ => ym z) z ?_))
             obtain ⟨I, d4, h⟩ := bnd h
             obtain ⟨iu, hg, hN, bJ, d5, d6, aH, cD⟩ := OwnSl.at H d4
             obtain ⟨_, _, rfl, rfl, rfl⟩ := cD
             replace aH : CellsAt _ _ _ [vs I.Key, vs I.Val] := aH
             have ba := CAt.own H bJ aH
             refine WD.y 12 z (by kernel_rfl) (fun _ _ _ => Y.indexAddr ty32 ty67 z bJ z d5 d6) z ?_
             obtain ⟨f6, h, d7⟩ := bnd h
             refine WD.join (σ := Unit) (f' := 4) [13, 12, 11, 10, 9, 8, 7, 6, 5, 4, 3, 2, 1, 0] (fun x O' w' => () = f6 ∧ dY = w' ∧ bw = O') (fun x => [(0, d), (1, vi l), (2, vi m), (3, Value.func (.func 141) (List.toArray []) (List.toArray [])), (8, vi V), (9, vi C), (37, d), (38, vi C), (39, d), (41, vi (w64 (C - 1))), (46, ag [vs G.Key, vs G.Val]), (50, ag [vs I.Key, vs I.Val])]) (fun bK => ?_) ?_
             ·refine WD.heavy2 9 13 z z (by kernel_rfl) ?_ ?_
              ·refine wY (yL ty67 z z a9.at_ z) z (nl (At.dq (sr_ _ _ _) (WD.heavy 13 z (by kernel_rfl) (wY (yL ty67 z z ba.at_ z) z (nl (At.dq (sr_ _ _ _) (WD.perm _ [13, 12, 11, 10, 9, 8, 7, 6, 5, 4, 3, 2, 1, 0] (by kernel_rfl) ?_)))))))
               exact bK () _ _ _ ⟨z, z, z⟩ (.cons z (.cons z (.cons z (.cons z (.cons z (.cons z (.cons z (.cons z (.cons z (.cons z (.cons z (.cons z .nil))))))))))))
              ·try simp only [Option.bind_assoc] at h
               try simp only [Option.bind_some] at h
               refine wY (yL ty67 z z ba.at_ z) z (nl (At.dq (sr_ _ _ _) (WD.heavy 9 z (by kernel_rfl) (wY (yL ty67 z z a9.at_ z) z (nl (At.dq (sr_ _ _ _) (WD.perm _ [13, 12, 11, 10, 9, 8, 7, 6, 5, 4, 3, 2, 1, 0] (by kernel_rfl) ?_)))))))
               exact bK () _ _ _ ⟨z, z, z⟩ (.cons z (.cons z (.cons z (.cons z (.cons z (.cons z (.cons z (.cons z (.cons z (.cons z (.cons z (.cons z .nil))))))))))))
             ·rintro _ _ _ ⟨rfl, rfl, rfl⟩
              replace h := d7
              refine (show WD _ _ _ _ _ _ _ _ [(0, d), (1, vi l), (2, vi m), (3, Value.func (.func 141) (List.toArray []) (List.toArray [])), (8, vi V), (9, vi C), (37, d), (38, vi C), (39, d), (41, vi (w64 (C - 1))), (46, ag [vs G.Key, vs G.Val]), (50, ag [vs I.Key, vs I.Val])] _ _ from ?_)
              obtain ⟨cE, d8, h⟩ := bnd h
              obtain ⟨iv, hh, hO, aI, d9, ea, aJ, cF⟩ := OwnSl.at H d8
              obtain ⟨_, _, rfl, rfl, rfl⟩ := cF
              replace aJ : CellsAt _ _ _ [vs cE.Key, vs cE.Val] := aJ
              have hj := CAt.own H aI aJ
              refine WD.y 14 z (by kernel_rfl) (fun _ _ _ => Y.indexAddr ty32 ty67 z aI z d9 ea) z (WD.heavy 15 z (by kernel_rfl) ?_)
              obtain ⟨hP, cG, h⟩ := bnd h
              refine WL.storeOwn (R := rep_api_Pair) (u := G) (by decide) ty67 z z ⟨[vs G.Key], [vs G.Val], z, z, z⟩ H aI cG ?_
              intro hQ bb aK
              refine nl (At.dq (su_ bb z) ?_)
              obtain ⟨cH, eb, h⟩ := bnd h
              obtain ⟨iw, hm, hR, aL, ec, ed, aM, cI⟩ := OwnSl.at aK eb
              obtain ⟨_, _, rfl, rfl, rfl⟩ := cI
              replace aM : CellsAt _ _ _ [vs cH.Key, vs cH.Val] := aM
              have hn := CAt.own aK aL aM
              refine WD.y 16 z (by kernel_rfl) (fun _ _ _ => Y.indexAddr ty32 ty67 z aL z ec ed) z (WD.phase [1001] [0, 1, 2, 3, 4, 5, 6, 7, 8, 9, 10, 11, 12, 13, 14, 15, 16, 17] (by kernel_rfl) (by kernel_rfl) (WD.heavy 17 z (by kernel_rfl) ?_))
              obtain ⟨ee, cJ, h⟩ := bnd h
              refine WL.storeOwn (R := rep_api_Pair) (u := I) (by decide) ty67 z z ⟨[vs I.Key], [vs I.Val], z, z, z⟩ aK aL cJ ?_
              intro hS bc ef
              refine nl (At.dq (su_ bc z) (WD.done_ (by kernel_rfl) (At.inBlock (th (rg (wY (ym z) z (wY (Y.sub_i z z) z ?_)))))))
              obtain ⟨f7, eg, h⟩ := lt1 h
              refine WL.yE (ya z) (congrArg vi eg.symm) z (nl ?_)
              exact At.round (ee, f7, bw) fU (Nat.lt_succ_self _) ⟨next1 h bD, (tr_ (su_ an z) (tr_ (su_ W z) (tr_ (su_ Z z) (tr_ (su_ a8 z) (tr_ (su_ bb z) (su_ bc z)))))), ef⟩ (.cons z (.cons z (.cons z (.cons z (.cons z (.cons z .nil))))))
            ·refine WC.condF' z aF (WC.exit (At.thenX (At.loopX ?_)))
             have ei := (ai.st W z z z).st Z z z z
             obtain ⟨f8, cK, ej⟩ := OwnSl.rlb 1002 rfl ei
             exact At.hitB (σ := (List api_Pair × Own)) (ca, f8) ⟨brk1 h bD, (tr_ (su_ an z) (tr_ (su_ W z) (tr_ (su_ Z z) (su_ cK z)))), ej⟩ (.cons z (.cons z (.cons z (.cons z (.cons z .nil)))))
          ·rintro ⟨cb, iy⟩ hT ⟨rfl, bd, bL⟩
           replace h := flowK_go dH
           try dsimp only at h bd bL
           refine (show At _ _ _ [(0, d), (1, vi l), (2, vi m), (3, Value.func (.func 141) (List.toArray []) (List.toArray [])), (8, vi V)] _ from ?_)
           refine At.inBlockHit ?_
           obtain ⟨f9, cL, ek⟩ := OwnSl.rlb 1003 rfl bL
           exact At.join (σ := (List api_Pair × Own)) (cb, f9) ⟨some1 h, (tr_ (su_ bd z) (su_ cL z)), ek⟩ (.cons z (.cons z (.cons z (.cons z (.cons z .nil)))))
         ·rintro ⟨cc, iz⟩ hU ⟨rfl, bf, bM⟩
          replace h := dG
          try dsimp only at h bf bM
          refine (show At _ _ _ [(0, d), (1, vi l), (2, vi m), (3, Value.func (.func 141) (List.toArray []) (List.toArray [])), (8, vi V)] _ from ?_)
          refine At.inBlock (th (rg (wY (ym z) z (wY (Y.add_i z z) z ?_))))
          obtain ⟨ga, em, h⟩ := lt1 h
          refine WL.yE (ya z) (congrArg vi em.symm) z (nl ?_)
          obtain ⟨gb, cM, en⟩ := OwnSl.rlb 1004 rfl bM
          exact At.round (cc, ga, gb) fQ (Nat.lt_succ_self _) ⟨next1 h bC, (tr_ (su_ aA z) (tr_ (su_ bf z) (su_ cM z))), en⟩ (.cons z (.cons z (.cons z (.cons z (.cons z .nil)))))
        ·refine WC.condF' z aC (WC.exit (At.thenX (At.loopX ?_)))
         obtain ⟨gc, cN, eo⟩ := OwnSl.rlb 1005 rfl bu
         exact At.hitB (σ := (List api_Pair × Own)) (a6, gc) ⟨brk1 h bC, (tr_ (su_ aA z) (su_ cN z)), eo⟩ .nil
       ·rintro ⟨ho, iZ⟩ iA ⟨rfl, bO, cO⟩
        replace h := flowK_go fP
        try dsimp only at h bO cO
        refine (show At _ _ _ [] _ from ?_)
        refine At.inBlockHit ?_
        obtain ⟨gd, cP, ep⟩ := OwnSl.rlb 1006 rfl cO
        exact At.res (.inr z) z .nil ⟨(ho, gd), ⟨some1 h, (tr_ (su_ bO z) (su_ cP z)), ep⟩, z⟩
      ·rintro ⟨cQ, i0⟩ iB ⟨rfl, bP, cR⟩
       replace h := fN
       try dsimp only at h bP cR
       refine (show WL _ _ _ _ _ ((18, tp []) :: _) _ from ?_)
       refine nl (th (sq (rg (wY (ym z) z (wY (ya z) z (nl (th (rg (wY (ym z) z ?_)))))))))
       refine wY (ym z) z (wY (Y.add_i z z) z ?_)
       obtain ⟨ge, er, h⟩ := lt1 h
       refine WL.yE (ya z) (congrArg vi er.symm) z (nl (At.inBlock ?_))
       obtain ⟨gf, cS, es⟩ := OwnSl.rlb 1007 rfl cR
       exact At.round (cQ, m, ge, gf) g8 (Nat.lt_succ_self _) ⟨next1 h ck, (tr_ (su_ az z) (tr_ (su_ bP z) (su_ cS z))), es⟩ (.cons z (.cons z (.cons z (.cons z (.cons z (.cons z .nil))))))
     ·refine WC.condF' z bs (WC.exit (At.thenX (At.loopX ?_)))
      obtain ⟨gg, cT, et⟩ := OwnSl.rlb 1008 rfl br
      exact At.hitB (σ := (List api_Pair × Int × Own)) (a5, l, gg) ⟨brk1 h ck, (tr_ (su_ az z) (su_ cT z)), et⟩ (.cons z (.cons z (.cons z (.cons z (.cons z .nil)))))
    ·rintro ⟨cU, fC, i1⟩ iC ⟨rfl, bQ, cV⟩
     replace h := flowK_go fK
     try dsimp only at h bQ cV
     refine (show At _ _ _ [(0, d), (1, vi (e.length : Int)), (2, Value.func (.func 141) (List.toArray []) (List.toArray [])), (6, vi 20), (7, vi fC)] _ from ?_)
     refine At.inBlockHit ?_
     obtain ⟨gh, cW, eu⟩ := OwnSl.rlb 1009 rfl cV
     exact At.join (σ := (List api_Pair × Int × Own)) (cU, fC, gh) ⟨some1 h, (tr_ (su_ bQ z) (su_ cW z)), eu⟩ (.cons z (.cons z (.cons z (.cons z (.cons z .nil)))))
   ·rintro ⟨cX, o, cY⟩ bx ⟨rfl, bR, cZ⟩
    replace h := fJ
    try dsimp only at h bR cZ
    refine (show At _ _ _ [(0, d), (1, vi (e.length : Int)), (2, Value.func (.func 141) (List.toArray []) (List.toArray [])), (6, vi 20), (7, vi o)] _ from ?_)
    refine th (sq (rg (wY (ym z) z (wY (ym z) z (wY (ym z) z (wY (ym z) z ?_))))))
    obtain ⟨gi, h, ew⟩ := bnd h
    refine WL.callJ (vals := [d, vi o, vi (e.length : Int), Value.func (.func 141) (List.toArray []) (List.toArray [])]) (σ := (List api_Pair × Own)) (fun x w' => x.1 = gi ∧ Stp [1009, 1010, 1011, 1012, 1013, 1014] cY bx x.2 w' ∧ OwnSl 1015 rep_api_Pair 67 x.2 w' d x.1) (fun x => tp []) kok168 z z ?_ ?_
    ·refine Rets.enter Tryz.func168 z z ?_
     refine (show WC _ _ _ _ [(0, d), (1, vi o), (2, vi (e.length : Int)), (3, Value.func (.func 141) (List.toArray []) (List.toArray []))] _ from ?_)
     refine sq (rg (wY (ym z) z (wY (Y.add_i z z) z ?_)))
     obtain ⟨gj, ex, h⟩ := lt1 h
     refine WL.yE (ya z) (congrArg vi ex.symm) z (nl (th (WC.block ?_)))
     obtain ⟨c0, h, ey⟩ := flow1 h
     obtain ⟨c1, h⟩ := loop_some h
     refine WC.joinB 0 (σ := (List api_Pair × Own)) (fun x w' => c0 = .go x.1 ∧ Stp [1009, 1010, 1011, 1012, 1013] cY bx x.2 w' ∧ OwnSl 1014 rep_api_Pair 67 x.2 w' d x.1) (fun x => []) ?_ ?_
     ·obtain ⟨gk, c2, ez⟩ := OwnSl.rlb 1013 rfl cZ
      refine WC.loop (σ := (List api_Pair × Int × Own)) (fun x k w' => loopN k (label_Sorted_lp4 e o) (x.1, x.2.1) = some c0 ∧ Stp [1009, 1010, 1011, 1012, 1013] cY bx x.2.2 w' ∧ OwnSl 1013 rep_api_Pair 67 x.2.2 w' d x.1) (fun x => [(0, d), (1, vi o), (2, vi (e.length : Int)), (3, Value.func (.func 141) (List.toArray []) (List.toArray [])), (8, vi x.2.1)]) (cX, gj, gk) c1 (.cons z (.cons z (.cons z (.cons z (.cons z .nil))))) ⟨h, (su_ c2 z), ez⟩ ?_
      rintro ⟨ay, t, bz⟩ c1 aN ⟨h, ap, aO⟩
      obtain ⟨gl, iD, rfl, h, bS⟩ := rnd1 h
      unfold label_Sorted_lp4 at h
      try dsimp only at h ap aO
      refine (show WC _ _ _ _ [(0, d), (1, vi o), (2, vi (e.length : Int)), (3, Value.func (.func 141) (List.toArray []) (List.toArray [])), (8, vi t)] _ from ?_)
      refine sq (sq (rg (wY (ym z) z (wY (ym z) z (wY (Y.lss_i z z) z (nl (th ?_)))))))
      rcases cnd h with ⟨aP, h⟩ | ⟨aP, h⟩
      ·refine WC.condT' z aP (sk (th (sq (WC.block (sq (rg (wY (ym z) z (wY (ya z) z (nl ?_)))))))))
       refine th ?_
       obtain ⟨gm, h, eA⟩ := bnd h
       refine WC.join (σ := (List api_Pair × Own)) (fun x w' => x.1 = gm ∧ Stp [1010, 1011, 1013] bz aN x.2 w' ∧ OwnSl 1012 rep_api_Pair 67 x.2 w' d x.1) (fun x => [(0, d), (1, vi o), (2, vi (e.length : Int)), (3, Value.func (.func 141) (List.toArray []) (List.toArray [])), (8, vi t)]) ?_ ?_
       ·refine WC.block ?_
        obtain ⟨c3, h, eB⟩ := flow1 h
        obtain ⟨c4, h⟩ := loop_some h
        refine WC.joinB 2 (σ := (List api_Pair × Own)) (fun x w' => c3 = .go x.1 ∧ Stp [1010, 1013] bz aN x.2 w' ∧ OwnSl 1011 rep_api_Pair 67 x.2 w' d x.1) (fun x => [(0, d), (1, vi o), (2, vi (e.length : Int)), (3, Value.func (.func 141) (List.toArray []) (List.toArray [])), (8, vi t)]) ?_ ?_
        ·obtain ⟨gn, c5, eC⟩ := OwnSl.rlb 1010 rfl aO
         refine WC.loop (σ := (List api_Pair × Int × Own)) (fun x k w' => loopN k (label_Sorted_lp5 o) (x.1, x.2.1) = some c3 ∧ Stp [1010, 1013] bz aN x.2.2 w' ∧ OwnSl 1010 rep_api_Pair 67 x.2.2 w' d x.1) (fun x => [(0, d), (1, vi o), (2, vi (e.length : Int)), (3, Value.func (.func 141) (List.toArray []) (List.toArray [])), (8, vi t), (9, vi x.2.1)]) (ay, t, gn) c4 (.cons z (.cons z (.cons z (.cons z (.cons z (.cons z .nil)))))) ⟨h, (su_ c5 z), eC⟩ ?_
         rintro ⟨cd, J, aq⟩ c4 hV ⟨h, ar, ak⟩
         obtain ⟨gp, iE, rfl, h, bT⟩ := rnd1 h
         unfold label_Sorted_lp5 at h
         try dsimp only at h ar ak
         refine (show WC _ _ _ _ [(0, d), (1, vi o), (2, vi (e.length : Int)), (3, Value.func (.func 141) (List.toArray []) (List.toArray [])), (8, vi t), (9, vi J)] _ from ?_)
         refine sq (sq (WC.drawH [] [0, 1, 2, 3, 4, 5, 6, 7, 8, 9, 10, 11, 12, 13, 14, 15, 16] aq 17 fmix z (by kernel_rfl) ?_))
         intro bU aa
         refine WD.y 0 z (by kernel_rfl) (fun _ _ _ => ym z) z (WD.y 1 z (by kernel_rfl) (fun _ _ _ => ym z) z (WD.y 2 z (by kernel_rfl) (fun _ _ _ => Y.gtr_i z z) z (WD.y 3 z (by kernel_rfl) (fun _ _ _ => ym z) z ?_)))
         obtain ⟨gq, h, eD⟩ := bnd h
         refine WD.join (σ := (Bool × Own)) (f' := 0) [16, 15, 14, 13, 12, 11, 10, 9, 8, 7, 6, 5, 4, 3, 2, 1, 0] (fun x O' w' => x.1 = gq ∧ Stp [] aq bU x.2 w' ∧ x.2 = O') (fun x => [(0, d), (1, vi o), (2, vi (e.length : Int)), (3, Value.func (.func 141) (List.toArray []) (List.toArray [])), (8, vi t), (9, vi J), (34, vB x.1)]) (fun bW => ?_) ?_
         ·rcases cnd h with ⟨ae, h⟩ | ⟨ae, h⟩
          ·refine WD.ren 21 z (congrArg vB ae) (WD.gT 4 z (by kernel_rfl) z z (fun _ _ _ => ym z) z (WD.gT 5 z (by kernel_rfl) z z (fun _ _ _ => ym z) z (WD.gT 6 z (by kernel_rfl) z z (fun _ _ _ => ym z) z ?_)))
           obtain ⟨K, eE, h⟩ := bnd h
           have al := ak.st aa z z z
           obtain ⟨iF, hp, hW, bX, eF, eG, aQ, c6⟩ := OwnSl.at al eE
           obtain ⟨_, _, rfl, rfl, rfl⟩ := c6
           replace aQ : CellsAt _ _ _ [vs K.Key, vs K.Val] := aQ
           have c7 := CAt.own al bX aQ
           refine WD.gT 7 z (by kernel_rfl) z z (fun _ _ _ => Y.indexAddr ty32 ty67 z bX z eF eG) z (WD.gT 8 z (by kernel_rfl) z z (fun hX iG c8 => have eH := c7.st c8 z; yL ty67 z z eH.at_ z) z (WD.gT 9 z (by kernel_rfl) z z (fun _ _ _ => ym z) z (WD.gT 10 z (by kernel_rfl) z z (fun _ _ _ => ym z) z (WD.gT 11 z (by kernel_rfl) z z (fun _ _ _ => Y.sub_i z z) z ?_))))
           obtain ⟨M, eI, h⟩ := bnd h
           obtain ⟨iH, hq, hY, bY, eJ, eK, aR, c9⟩ := OwnSl.at al eI
           obtain ⟨_, _, rfl, rfl, rfl⟩ := c9
           replace aR : CellsAt _ _ _ [vs M.Key, vs M.Val] := aR
           have da := CAt.own al bY aR
           refine WD.gT 12 z (by kernel_rfl) z z (fun _ _ _ => Y.indexAddr ty32 ty67 z bY z eJ eK) z (WD.gT 13 z (by kernel_rfl) z z (fun hZ iI db => have eL := da.st db z; yL ty67 z z eL.at_ z) z (WD.heavy 14 z (by kernel_rfl) (ug z z ?_)))
           obtain ⟨gr, h, eM⟩ := bnd h
           refine WL.callV (fv := []) (cv := []) (vals := [ag [vs K.Key, vs K.Val], ag [vs M.Key, vs M.Val]]) (σ := (Int × Own)) (fun x w' => x.1 = gr ∧ Stp [] aq bU x.2 w') (fun x => vi x.1) kok141 z z z ?_ ?_
           ·refine Rets.enter Tryz.func141 z z ?_
            refine (show WC _ _ _ _ [(0, ag [vs K.Key, vs K.Val]), (1, ag [vs M.Key, vs M.Val])] _ from ?_)
            refine sq (rg (WL.box (O := aq) 14 [vs K.Key, vs K.Val] z z z ?_))
            intro iJ gs h0 dc eN
            refine WL.box (O := gs) 15 [vs M.Key, vs M.Val] z z z ?_
            intro iK gt h1 bg eO
            refine wY (ya z) z (nl (th (sq (rg (wY (yf fo67_0 z) z ?_)))))
            have eP := eN.st bg z
            refine wY (yl ty9 z z (eP.cell 0 _ z)) z (wY (yf fo67_0 z) z (wY (yl ty9 z z (eO.cell 0 _ z)) z ?_))
            obtain ⟨gu, eQ, h⟩ := bnd h
            refine WL.call (vals := [vs K.Key, vs M.Key]) kok142 z z (c_cmp_Compare_string eQ) ?_
            rintro h2 h3 ⟨rfl, eR⟩
            obtain ⟨gw, gZ, g0, dd⟩ := adoptE gt (fun k => 1) eR
            refine wY (ya z) z (nl (th (rt ?_)))
            exact At.res (.inl z) z (.tmp z .nil) ⟨(gu, gw), ⟨some1 h, (tr_ (su_ dc z) (tr_ (su_ bg z) (su_ dd z)))⟩, z⟩
           ·rintro ⟨de, gz⟩ h4 ⟨rfl, au⟩
            replace h := eM
            try dsimp only at h au
            refine (show WL _ _ _ _ _ ((32, vi de) :: _) _ from ?_)
            refine nl (At.dq (su_ au z) (WD.gT 15 z (by kernel_rfl) z z (fun _ _ _ => Y.lss_i z z) z (WD.y 16 z (by kernel_rfl) (fun _ _ _ => Y.pick (b := true) z z) z (WD.ren 21 z (congrArg vB ae.symm) ?_))))
            exact bW (decide (de < 0), gz) _ _ _ ⟨some1 h, (su_ au z), z⟩ (.cons z (.cons z (.cons z (.cons z (.cons z (.cons z (.cons z .nil)))))))
          ·refine WD.ren 21 z (congrArg vB ae) (WD.gS 4 z (by kernel_rfl) z z z z (WD.gS 5 z (by kernel_rfl) z z z z (WD.gS 6 z (by kernel_rfl) z z z z (WD.gS 7 z (by kernel_rfl) z z z z (WD.gS 8 z (by kernel_rfl) z z z z (WD.gS 9 z (by kernel_rfl) z z z z (WD.gS 10 z (by kernel_rfl) z z z z (WD.gS 11 z (by kernel_rfl) z z z z (WD.gS 12 z (by kernel_rfl) z z z z ?_)))))))))
           refine WD.gS 13 z (by kernel_rfl) z z z z (WD.heavy 14 z (by kernel_rfl) (WL.gS z z z z (nl (At.dq (sr_ _ _ _) (WD.gS 15 z (by kernel_rfl) z z z z (WD.y 16 z (by kernel_rfl) (fun _ _ _ => Y.pick (b := false) z z) z (WD.ren 21 z (congrArg vB ae.symm) ?_)))))))
           exact bW (false, aq) _ _ _ ⟨some1 h, (sr_ _ _ _), z⟩ (.cons z (.cons z (.cons z (.cons z (.cons z (.cons z (.cons z .nil)))))))
         ·rintro ⟨gB, bA⟩ _ h5 ⟨rfl, ab, rfl⟩
          replace h := eD
          try dsimp only at h ab
          refine (show WD _ _ _ _ _ _ _ _ [(0, d), (1, vi o), (2, vi (e.length : Int)), (3, Value.func (.func 141) (List.toArray []) (List.toArray [])), (8, vi t), (9, vi J), (34, vB gB)] _ _ from ?_)
          refine WD.done_ (by kernel_rfl) (th ?_)
          rcases cnd h with ⟨aS, h⟩ | ⟨aS, h⟩
          ·refine WC.condT' z aS (sk (th (sq (WC.block (WC.drawH [1010] [0, 1, 2, 3, 4, 5, 6, 7, 8, 9, 10, 11, 12, 13, 14, 15, 16] bA 18 fmix z (by kernel_rfl) ?_)))))
           intro eS bh
           refine WD.y 0 z (by kernel_rfl) (fun _ _ _ => ym z) z (WD.y 1 z (by kernel_rfl) (fun _ _ _ => ym z) z (WD.y 2 z (by kernel_rfl) (fun _ _ _ => ym z) z (WD.y 3 z (by kernel_rfl) (fun _ _ _ => ym z) z (WD.y 4 z (by kernel_rfl) (fun _ _ _ => Y.sub_i z z) z (WD.y 5 z (by kernel_rfl) (fun _ _ _ => ym z) z (WD.y 6 z (by kernel_rfl) (fun _ _ _ => ym z) z (WD.y 7 z (by kernel_rfl) (fun _ _ _ => Y.sub_i z z) z ?_)))))))
           obtain ⟨Q, eT, h⟩ := bnd h
           have S := ((ak.st aa z z z).st ab z z z).st bh z z z
           obtain ⟨iL, hr, h6, bZ, eW, eX, aT, df⟩ := OwnSl.at S eT
           obtain ⟨_, _, rfl, rfl, rfl⟩ := df
           replace aT : CellsAt _ _ _ [vs Q.Key, vs Q.Val] := aT
           have bi := CAt.own S bZ aT
           refine WD.y 8 z (by kernel_rfl) (fun _ _ _ => Y.indexAddr ty32 ty67 z bZ z eW eX) z (WD.y 10 z (by kernel_rfl) (fun _ _ _ => ym z) z (WD.y 11 z (by kernel_rfl) (fun _ _ _ => ym z) z ?_))
           obtain ⟨T, eY, h⟩ := bnd h
           obtain ⟨iM, ht, h7, b0, eZ, e0, aU, dg⟩ := OwnSl.at S eY
           obtain ⟨_, _, rfl, rfl, rfl⟩ := dg
           replace aU : CellsAt _ _ _ [vs T.Key, vs T.Val] := aU
           have bj := CAt.own S b0 aU
           refine WD.y 12 z (by kernel_rfl) (fun _ _ _ => Y.indexAddr ty32 ty67 z b0 z eZ e0) z ?_
           obtain ⟨gC, h, e1⟩ := bnd h
           refine WD.join (σ := Unit) (f' := 4) [13, 12, 11, 10, 9, 8, 7, 6, 5, 4, 3, 2, 1, 0] (fun x O' w' => () = gC ∧ eS = w' ∧ bA = O') (fun x => [(0, d), (1, vi o), (2, vi (e.length : Int)), (3, Value.func (.func 141) (List.toArray []) (List.toArray [])), (8, vi t), (9, vi J), (37, d), (38, vi J), (39, d), (41, vi (w64 (J - 1))), (46, ag [vs Q.Key, vs Q.Val]), (50, ag [vs T.Key, vs T.Val])]) (fun b1 => ?_) ?_
           ·refine WD.heavy2 9 13 z z (by kernel_rfl) ?_ ?_
            ·refine wY (yL ty67 z z bi.at_ z) z (nl (At.dq (sr_ _ _ _) (WD.heavy 13 z (by kernel_rfl) (wY (yL ty67 z z bj.at_ z) z (nl (At.dq (sr_ _ _ _) (WD.perm _ [13, 12, 11, 10, 9, 8, 7, 6, 5, 4, 3, 2, 1, 0] (by kernel_rfl) ?_)))))))
             exact b1 () _ _ _ ⟨z, z, z⟩ (.cons z (.cons z (.cons z (.cons z (.cons z (.cons z (.cons z (.cons z (.cons z (.cons z (.cons z (.cons z .nil))))))))))))
            ·try simp only [Option.bind_assoc] at h
             try simp only [Option.bind_some] at h
             refine wY (yL ty67 z z bj.at_ z) z (nl (At.dq (sr_ _ _ _) (WD.heavy 9 z (by kernel_rfl) (wY (yL ty67 z z bi.at_ z) z (nl (At.dq (sr_ _ _ _) (WD.perm _ [13, 12, 11, 10, 9, 8, 7, 6, 5, 4, 3, 2, 1, 0] (by kernel_rfl) ?_)))))))
             exact b1 () _ _ _ ⟨z, z, z⟩ (.cons z (.cons z (.cons z (.cons z (.cons z (.cons z (.cons z (.cons z (.cons z (.cons z (.cons z (.cons z .nil))))))))))))
           ·rintro _ _ _ ⟨rfl, rfl, rfl⟩
            replace h := e1
            refine (show WD _ _ _ _ _ _ _ _ [(0, d), (1, vi o), (2, vi (e.length : Int)), (3, Value.func (.func 141) (List.toArray []) (List.toArray [])), (8, vi t), (9, vi J), (37, d), (38, vi J), (39, d), (41, vi (w64 (J - 1))), (46, ag [vs Q.Key, vs Q.Val]), (50, ag [vs T.Key, vs T.Val])] _ _ from ?_)
            obtain ⟨dh, e2, h⟩ := bnd h
            obtain ⟨iN, hu, h8, aW, e5, e6, aX, di⟩ := OwnSl.at S e2
            obtain ⟨_, _, rfl, rfl, rfl⟩ := di
            replace aX : CellsAt _ _ _ [vs dh.Key, vs dh.Val] := aX
            have hv := CAt.own S aW aX
            refine WD.y 14 z (by kernel_rfl) (fun _ _ _ => Y.indexAddr ty32 ty67 z aW z e5 e6) z (WD.heavy 15 z (by kernel_rfl) ?_)
            obtain ⟨h9, dj, h⟩ := bnd h
            refine WL.storeOwn (R := rep_api_Pair) (u := Q) (by decide) ty67 z z ⟨[vs Q.Key], [vs Q.Val], z, z, z⟩ S aW dj ?_
            intro ia bk aY
            refine nl (At.dq (su_ bk z) ?_)
            obtain ⟨dk, e7, h⟩ := bnd h
            obtain ⟨iO, hw, ib, aZ, e8, e9, a1, dl⟩ := OwnSl.at aY e7
            obtain ⟨_, _, rfl, rfl, rfl⟩ := dl
            replace a1 : CellsAt _ _ _ [vs dk.Key, vs dk.Val] := a1
            have hx := CAt.own aY aZ a1
            refine WD.y 16 z (by kernel_rfl) (fun _ _ _ => Y.indexAddr ty32 ty67 z aZ z e8 e9) z (WD.phase [1010] [0, 1, 2, 3, 4, 5, 6, 7, 8, 9, 10, 11, 12, 13, 14, 15, 16, 17] (by kernel_rfl) (by kernel_rfl) (WD.heavy 17 z (by kernel_rfl) ?_))
            obtain ⟨fa, dm, h⟩ := bnd h
            refine WL.storeOwn (R := rep_api_Pair) (u := T) (by decide) ty67 z z ⟨[vs T.Key], [vs T.Val], z, z, z⟩ aY aZ dm ?_
            intro ic bl fc
            refine nl (At.dq (su_ bl z) (WD.done_ (by kernel_rfl) (At.inBlock (th (rg (wY (ym z) z (wY (Y.sub_i z z) z ?_)))))))
            obtain ⟨gE, fd, h⟩ := lt1 h
            refine WL.yE (ya z) (congrArg vi fd.symm) z (nl ?_)
            exact At.round (fa, gE, bA) gp (Nat.lt_succ_self _) ⟨next1 h bT, (tr_ (su_ ar z) (tr_ (su_ aa z) (tr_ (su_ ab z) (tr_ (su_ bh z) (tr_ (su_ bk z) (su_ bl z)))))), fc⟩ (.cons z (.cons z (.cons z (.cons z (.cons z (.cons z .nil))))))
          ·refine WC.condF' z aS (WC.exit (At.thenX (At.loopX ?_)))
           have ff := (ak.st aa z z z).st ab z z z
           obtain ⟨gG, dn, fg⟩ := OwnSl.rlb 1011 rfl ff
           exact At.hitB (σ := (List api_Pair × Own)) (cd, gG) ⟨brk1 h bT, (tr_ (su_ ar z) (tr_ (su_ aa z) (tr_ (su_ ab z) (su_ dn z)))), fg⟩ (.cons z (.cons z (.cons z (.cons z (.cons z .nil)))))
        ·rintro ⟨ce, iP⟩ ie ⟨rfl, bm, b2⟩
         replace h := flowK_go eB
         try dsimp only at h bm b2
         refine (show At _ _ _ [(0, d), (1, vi o), (2, vi (e.length : Int)), (3, Value.func (.func 141) (List.toArray []) (List.toArray [])), (8, vi t)] _ from ?_)
         refine At.inBlockHit ?_
         obtain ⟨gH, dp, fh⟩ := OwnSl.rlb 1012 rfl b2
         exact At.join (σ := (List api_Pair × Own)) (ce, gH) ⟨some1 h, (tr_ (su_ bm z) (su_ dp z)), fh⟩ (.cons z (.cons z (.cons z (.cons z (.cons z .nil)))))
       ·rintro ⟨cf, iQ⟩ ig ⟨rfl, bn, b3⟩
        replace h := eA
        try dsimp only at h bn b3
        refine (show At _ _ _ [(0, d), (1, vi o), (2, vi (e.length : Int)), (3, Value.func (.func 141) (List.toArray []) (List.toArray [])), (8, vi t)] _ from ?_)
        refine At.inBlock (th (rg (wY (ym z) z (wY (Y.add_i z z) z ?_))))
        obtain ⟨gI, fi, h⟩ := lt1 h
        refine WL.yE (ya z) (congrArg vi fi.symm) z (nl ?_)
        obtain ⟨gJ, dr, fj⟩ := OwnSl.rlb 1013 rfl b3
        exact At.round (cf, gI, gJ) gl (Nat.lt_succ_self _) ⟨next1 h bS, (tr_ (su_ ap z) (tr_ (su_ bn z) (su_ dr z))), fj⟩ (.cons z (.cons z (.cons z (.cons z (.cons z .nil)))))
      ·refine WC.condF' z aP (WC.exit (At.thenX (At.loopX ?_)))
       obtain ⟨gK, ds, fk⟩ := OwnSl.rlb 1014 rfl aO
       exact At.hitB (σ := (List api_Pair × Own)) (ay, gK) ⟨brk1 h bS, (tr_ (su_ ap z) (su_ ds z)), fk⟩ .nil
     ·rintro ⟨gL, iR⟩ ih ⟨rfl, bo, b4⟩
      replace h := flowK_go ey
      try dsimp only at h bo b4
      refine (show At _ _ _ [] _ from ?_)
      refine At.inBlockHit ?_
      obtain ⟨gM, dt, fl⟩ := OwnSl.rlb 1015 rfl b4
      exact At.res (.inr z) z .nil ⟨(gL, gM), ⟨some1 h, (tr_ (su_ bo z) (su_ dt z)), fl⟩, z⟩
    ·rintro ⟨cg, iS⟩ U ⟨rfl, bp, b5⟩
     replace h := ew
     try dsimp only at h bp b5
     refine (show WL _ _ _ _ _ ((27, tp []) :: _) _ from ?_)
     refine nl (th (WC.block ?_))
     obtain ⟨du, h, fm⟩ := flow1 h
     obtain ⟨dw, h⟩ := loop_some h
     refine WC.joinB 2 (σ := Unit) (fun x w' => du = .go () ∧ U = w') (fun x => []) ?_ ?_
     ·refine WC.loop (σ := Int) (fun x k w' => loopN k (label_Sorted_lp6 e) x = some du ∧ U = w') (fun x => [(0, d), (1, vi (e.length : Int)), (2, Value.func (.func 141) (List.toArray []) (List.toArray [])), (6, vi x)]) 20 dw (.cons z (.cons z (.cons z (.cons z .nil)))) ⟨h, z⟩ ?_
      rintro j dw _ ⟨h, rfl⟩
      obtain ⟨gO, iT, rfl, h, b6⟩ := rnd1 h
      unfold label_Sorted_lp6 at h
      try dsimp only at h
      refine (show WC _ _ _ _ [(0, d), (1, vi (e.length : Int)), (2, Value.func (.func 141) (List.toArray []) (List.toArray [])), (6, vi j)] _ from ?_)
      refine sq (sq (rg (wY (ym z) z (wY (ym z) z (wY (Y.lss_i z z) z (nl (th ?_)))))))
      rcases cnd h with ⟨a2, h⟩ | ⟨a2, h⟩
      ·refine WC.condT' z a2 (sk (th ?_))
       obtain ⟨gP, h, fn⟩ := bnd h
       refine WC.join (σ := Int) (fun x w' => x = gP ∧ U = w') (fun x => [(0, d), (1, vi (e.length : Int)), (2, Value.func (.func 141) (List.toArray []) (List.toArray [])), (6, vi x)]) ?_ ?_
       ·refine WC.block (sq (rg (wY (ym z) z (wY (Y.mul_i z z) z (wY (ya z) z ?_)))))
        obtain ⟨bB, fo, h⟩ := lt1 h
        refine WL.yE (ya z) (congrArg vi fo.symm) z (nl (th (sq ?_)))
        obtain ⟨gQ, h, fp⟩ := bnd h
        refine WC.join (σ := Unit) (fun x w' => () = gQ ∧ U = w') (fun x => [(0, d), (1, vi (e.length : Int)), (2, Value.func (.func 141) (List.toArray []) (List.toArray [])), (6, vi j), (7, vi 0)]) ?_ ?_
        ·refine WC.block ?_
         obtain ⟨dx, h, fq⟩ := flow1 h
         obtain ⟨dy, h⟩ := loop_some h
         refine WC.joinB 4 (σ := Unit) (fun x w' => dx = .go () ∧ U = w') (fun x => [(0, d), (1, vi (e.length : Int)), (2, Value.func (.func 141) (List.toArray []) (List.toArray [])), (6, vi j), (7, vi 0)]) ?_ ?_
         ·refine WC.loop (σ := Unit) (fun x k w' => loopN k (label_Sorted_lp7 e bB) () = some dx ∧ U = w') (fun x => [(0, d), (1, vi (e.length : Int)), (2, Value.func (.func 141) (List.toArray []) (List.toArray [])), (6, vi j), (7, vi 0), (8, vi bB)]) () dy (.cons z (.cons z (.cons z (.cons z (.cons z (.cons z .nil)))))) ⟨h, z⟩ ?_
          rintro _ dy _ ⟨h, rfl⟩
          obtain ⟨iU, iV, rfl, h, fs⟩ := rnd1 h
          unfold label_Sorted_lp7 at h
          refine (show WC _ _ _ _ [(0, d), (1, vi (e.length : Int)), (2, Value.func (.func 141) (List.toArray []) (List.toArray [])), (6, vi j), (7, vi 0), (8, vi bB)] _ from ?_)
          refine sq (sq (rg (wY (ym z) z (wY (ym z) z (wY (Y.leq_i z z) z (nl (th ?_)))))))
          rcases cnd h with ⟨a3, h⟩ | ⟨a3, h⟩
          ·refine WC.condT' z a3 (sk (th (WC.block (sq (rg (wY (ym z) z (wY (ym z) z (wY (ym z) z (wY (ym z) z ?_)))))))))
           refine wY (Y.add_i z z) z (wY (ym z) z (wY (ym z) z ?_))
           cases h
          ·refine WC.condF' z a3 (WC.exit (At.thenX (At.loopX ?_)))
           exact At.hitB (σ := Unit) () ⟨brk1 h fs, z⟩ (.cons z (.cons z (.cons z (.cons z (.cons z .nil)))))
         ·rintro _ _ ⟨rfl, rfl⟩
          replace h := flowK_go fq
          refine (show At _ _ _ [(0, d), (1, vi (e.length : Int)), (2, Value.func (.func 141) (List.toArray []) (List.toArray [])), (6, vi j), (7, vi 0)] _ from ?_)
          refine At.inBlockHit ?_
          exact At.join (σ := Unit) () ⟨some1 h, z⟩ (.cons z (.cons z (.cons z (.cons z (.cons z .nil)))))
        ·rintro _ _ ⟨rfl, rfl⟩
         replace h := fp
         refine (show At _ _ _ [(0, d), (1, vi (e.length : Int)), (2, Value.func (.func 141) (List.toArray []) (List.toArray [])), (6, vi j), (7, vi 0)] _ from ?_)
         refine th (sq ?_)
         obtain ⟨gR, h, ft⟩ := bnd h
         refine WC.join (σ := Unit) (fun x w' => () = gR ∧ U = w') (fun x => [(0, d), (1, vi (e.length : Int)), (2, Value.func (.func 141) (List.toArray []) (List.toArray [])), (6, vi j)]) ?_ ?_
         ·refine sq (rg (wY (ym z) z (wY (ym z) z (wY (Y.add_i z z) z ?_))))
          obtain ⟨iW, fu, h⟩ := lt1 h
          refine WL.yE (ya z) (congrArg vi fu.symm) z (nl (th (sq (rg (wY (ym z) z (wY (ym z) z (wY (Y.lss_i z z) z (nl (th ?_)))))))))
          rcases cnd h with ⟨a4, h⟩ | ⟨a4, h⟩
          ·refine WC.condT' z a4 (rg (wY (ym z) z (wY (ym z) z (wY (ym z) z (wY (ym z) z (wY (ym z) z ?_))))))
           cases h
          ·refine WC.condF' z a4 (sk ?_)
           exact At.join (σ := Unit) () ⟨some1 h, z⟩ (.cons z (.cons z (.cons z (.cons z .nil))))
         ·rintro _ _ ⟨rfl, rfl⟩
          replace h := ft
          refine (show At _ _ _ [(0, d), (1, vi (e.length : Int)), (2, Value.func (.func 141) (List.toArray []) (List.toArray [])), (6, vi j)] _ from ?_)
          refine th (rg (wY (ym z) z (wY (Y.mul_i z z) z ?_)))
          obtain ⟨av, ah, h⟩ := lt1 h
          refine WL.yE (ya z) (congrArg vi ah.symm) z (nl (At.inBlock ?_))
          exact At.join (σ := Int) av ⟨some1 h, z⟩ (.cons z (.cons z (.cons z (.cons z .nil))))
       ·rintro ac _ ⟨rfl, rfl⟩
        replace h := fn
        try dsimp only at h
        refine (show At _ _ _ [(0, d), (1, vi (e.length : Int)), (2, Value.func (.func 141) (List.toArray []) (List.toArray [])), (6, vi ac)] _ from ?_)
        exact At.round ac gO (Nat.lt_succ_self _) ⟨next1 h b6, z⟩ (.cons z (.cons z (.cons z (.cons z .nil))))
      ·refine WC.condF' z a2 (WC.exit (At.thenX (At.loopX ?_)))
       exact At.hitB (σ := Unit) () ⟨brk1 h b6, z⟩ .nil
     ·rintro _ _ ⟨rfl, rfl⟩
      replace h := flowK_go fm
      refine (show At _ _ _ [] _ from ?_)
      refine At.inBlockHit ?_
      obtain ⟨gU, dz, fw⟩ := OwnSl.rlb 1016 rfl b5
      exact At.res (.inr z) z .nil ⟨(cg, gU), ⟨some1 h, (tr_ (su_ bR z) (tr_ (su_ bp z) (su_ dz z))), fw⟩, z⟩
  ·rintro ⟨hy, i2⟩ iX ⟨rfl, b7, dA⟩
   replace h := fI
   try dsimp only at h b7 dA
   refine (show WL _ _ _ _ _ ((8, tp []) :: _) _ from ?_)
   refine nl ?_
   obtain ⟨gV, dB, fx⟩ := OwnSl.rlb 1018 rfl dA
   exact At.res (.inr z) z .nil ⟨(hy, gV), ⟨some1 h, (tr_ (su_ b7 z) (su_ dB z)), fx⟩, z⟩
 ·rintro ⟨ii, hz⟩ gW ⟨rfl, b8, dC⟩
  replace h := fH
  try dsimp only at h b8 dC
  refine (show WL _ _ _ _ _ ((7, tp []) :: _) _ from ?_)
  refine nl (th (sq (rg (wY (ym z) z (wY (ya z) z (nl (th (rt ?_))))))))
  obtain rfl := some1 h
  have b9 : Stp [11, 1001, 1002, 1003, 1004, 1005, 1006, 1007, 1008, 1009, 1010, 1011, 1012, 1013, 1014, 1015, 1016] (Lg.O0 A) w hz gW := (tr_ (su_ dD z) (su_ b8 z))
  exact At.res (.inl z) z (.tmp z .nil) ⟨d, z, (se_ b9 z z), (OwnSl.outF dC b9 low0 z)⟩
theorem c_label_Text {A : Nat → Prop} {a0 : List UInt8} {a1 : List api_Pair} {v1 : Value} {w : World} (hs1 : Sl rep_api_Pair w A v1 a1) {r0 : List UInt8} {r1 : Int} (h : label_Text a0 a1 = some (r0, r1)) : Rets Tryz.prog 87 [vs a0, v1] w (fun v w' => v = tp [vs r0, vi r1] ∧ Ext w w') := by
 unfold label_Text at h
 refine Rets.enter Tryz.func87 z z ?_
 have aE : Sl rep_api_Pair w (imm (Lg.O0 A)) v1 a1 := (Sl.start hs1)
 refine (show WC _ _ _ _ [(0, vs a0), (1, v1)] _ from ?_)
 refine sq (rg (wY (ya (v := vs []) z) z (wY (ya z) z (nl (th (sq (sq (rg (wY (ym z) z ?_)))))))))
 refine wY (ym z) z ?_
 obtain ⟨df, bR, h⟩ := bnd h
 refine WL.call (vals := [vs a0, v1]) kok32 z z (c_label_Check (A := fun _ => True) (Sl.all aE) bR) ?_
 rintro cY bS ⟨rfl, bT⟩
 obtain ⟨bK, cw, cx, C⟩ := adoptE (Lg.O0 A) (fun k => 1) bT
 refine wY (ya z) z (nl (th (sq (rg (wY (ym z) z (wY (Y.neq_i z z) z (nl (th ?_))))))))
 rcases cnd h with ⟨aa, h⟩ | ⟨aa, h⟩
 ·refine WC.condT' z aa (sq (rg (wY (ym z) z (wY (ya (v := vs []) z) z (wY (ya z) z (nl (th (rt (At.thenR ?_)))))))))
  obtain ⟨rfl, rfl⟩ := tup2 h
  have bU : Stp [] (Lg.O0 A) w bK bS := (su_ C z)
  exact At.res (.inl z) z (.tmp z (.tmp z .nil)) ⟨z, (se_ bU z z)⟩
 ·refine WC.condF' z aa (sk (th (sq (rg (WL.alloc (O := bK) 11 [Value.pointer none, sn] ty146 z z ?_)))))
  intro d aF aG aj D
  refine nl (th (sq (rg (wY (ym z) z ?_))))
  obtain ⟨cy, h, bW⟩ := bnd h
  refine WL.callJ (vals := [pt d 0, vs a0]) (σ := (List UInt8 × Int × Own × Value)) (fun x w' => (x.1, x.2.1) = cy ∧ Stp [11, 12] aF aG x.2.2.1 w' ∧ OwnSl 1002 Rep.b 5 x.2.2.1 w' x.2.2.2 x.1 ∧ Blk 11 x.2.2.1 w' d 146 [pt d 0, x.2.2.2]) (fun x => tp [vi x.2.1, Value.nilIface]) kok121 z z ?_ ?_
  ·refine Rets.enter Tryz.func121 z z ?_
   refine (show WC _ _ _ _ [(0, pt d 0), (1, vs a0)] _ from ?_)
   refine sq (rg (wY (ya z) z (wY (ya (v := Value.nilIface) z) z (nl (th (sq (rg (wY (ym z) z ?_))))))))
   obtain ⟨cz, h, bX⟩ := bnd h
   refine WL.callJ (vals := [pt d 0]) (σ := Own) (fun x w' => () = cz ∧ Stp [11] aF aG x w' ∧ Blk 11 x w' d 146 [pt d 0, sn]) (fun x => tp []) kok144 z z ?_ ?_
   ·refine Rets.enter Tryz.func144 z z ?_
    refine (show WC _ _ _ _ [(0, pt d 0)] _ from ?_)
    refine sq (rg (wY (ym z) z (wY (yn z) z (wY (yf fo146_0 z) z (wY (yl ty144 z z (D.cell 0 _ z)) z (wY (Y.eql_nil (r := true) ty144.u z z z) z (nl (th (WC.condT z ?_)))))))))
    refine rg (wY (ym z) z (wY (ym z) z (wY (Y.toUnsafe ty144.u ty196.u ty146 (by decide) D (le_ z) z) z (wY (Y.noesc xne_162 z) z (wY (Y.ofUnsafe ty196.u ty144.u ty146 D (by kernel_rfl) z) z (wY (yn z) z (wY (yf fo146_0 z) z (WL.store (v := pt d 0) (cells' := [pt d 0, sn]) ty144 z z D z (le_ z) z z ?_))))))))
    intro cZ aZ bY
    refine nl ?_
    exact At.res (.inr z) z .nil ⟨aF, ⟨some1 h, (su_ aZ z), bY⟩, z⟩
   ·rintro cA bZ ⟨rfl, a2, aH⟩
    replace h := bX
    refine (show WL _ _ _ _ _ ((7, tp []) :: _) _ from ?_)
    refine nl (th (sq (rg (wY (ym z) z (wY (ym z) z (wY (yn z) z (wY (yf fo146_1 z) z (wY (yl ty51 z z (aH.cell 1 _ z)) z (wY (ym z) z ?_)))))))))
    obtain ⟨b0, a3, h⟩ := bnd h
    have b1 := OwnSl.nil (O := cA) (w := bZ) 12 Rep.b 5
    refine WL.appendS (by decide) ty51 ty9 ty5 z z b1 a3 z ?_
    intro dg dh c0 ak aI
    refine wY (yn z) z (wY (yf fo146_1 z) z ?_)
    have b2 := h
    obtain ⟨aJ, aK, aL, rfl⟩ := aI.shape
    have h := b2
    have b3 := aH.st ak z
    refine WL.store (v := (vl aJ aK aL)) (cells' := [pt d 0, (vl aJ aK aL)]) ty51 z z b3 z (le_ z) z z ?_
    intro c1 al b4
    refine nl (th (sq (rg (wY (ym z) z (wY (Y.len_s ty9 z) z ?_)))))
    obtain ⟨cC, b5, h⟩ := lt1 h
    refine WL.yE (ya z) (congrArg vi b5.symm) z (wY (ya (v := Value.nilIface) z) z (nl (th (rt ?_))))
    have b6 := aI.st al z z z
    obtain ⟨cD, am, b7⟩ := OwnSl.rlb 1002 rfl b6
    have b8 := b4.st am z
    exact At.res (.inl z) z (.tmp z (.tmp z .nil)) ⟨(b0, cC, cD, (vl aJ aK aL)), ⟨some1 h, (tr_ (su_ a2 z) (tr_ (su_ ak z) (tr_ (su_ al z) (su_ am z)))), b7, b8⟩, z⟩
  ·rintro ⟨cE, cF, cG, cH⟩ c2 ⟨rfl, F, aM, aN⟩
   replace h := bW
   try dsimp only at h F aM aN
   refine (show WL _ _ _ _ _ ((17, tp [vi cF, Value.nilIface]) :: _) _ from ?_)
   refine nl (th (sq (sq (rg (wY (ym z) z ?_)))))
   have cb := ((aE.i C z z).i aj z z).i F z z
   obtain ⟨an, cc, h⟩ := bnd h
   refine WL.call (vals := [v1]) kok117 z z (c_label_Sorted (A := fun _ => True) (Sl.all cb) cc) ?_
   rintro G ab ⟨_, rfl, cd, cI⟩
   obtain ⟨aO, cJ, aP, H⟩ := adoptE cG (fun k => if ob G = some k then 13 else 1) cd
   have aQ : OwnSl 13 rep_api_Pair 67 aO ab G an := RowF.adopt 13 flat_api_Pair cI aP (fun k hk => if_pos hk)
   refine wY (Y.len ty32 z aQ.src.sl) z (wY (ym z) z (nl (th (WC.block ?_))))
   obtain ⟨bL, h, a4⟩ := flow1 h
   obtain ⟨bM, h⟩ := loop_some h
   refine WC.joinB 0 (σ := (List UInt8 × Own × Value)) (fun x w' => bL = .go x.1 ∧ Stp [11, 14, 1002, 1003, 1004] aO ab x.2.1 w' ∧ OwnSl 1005 Rep.b 5 x.2.1 w' x.2.2 x.1 ∧ Blk 11 x.2.1 w' d 146 [pt d 0, x.2.2]) (fun x => [(7, pt d 0)]) ?_ ?_
   ·have a5 := aM.st H z z z
    obtain ⟨ce, M, a6⟩ := OwnSl.rlb 1004 rfl a5
    have a8 := (aN.st H z).st M z
    refine WC.loop (σ := (List UInt8 × Int × Own × Value)) (fun x k w' => loopN k (label_Text_lp1 an) (x.1, x.2.1) = some bL ∧ Stp [11, 14, 1002, 1003, 1004] aO ab x.2.2.1 w' ∧ OwnSl 1004 Rep.b 5 x.2.2.1 w' x.2.2.2 x.1 ∧ Blk 11 x.2.2.1 w' d 146 [pt d 0, x.2.2.2]) (fun x => [(7, pt d 0), (19, G), (20, vi (an.length : Int)), (21, vi x.2.1)]) (cE, 0, ce, cH) bM (.cons z (.cons z (.cons z (.cons z .nil)))) ⟨h, (su_ M z), a6, a8⟩ ?_
    rintro ⟨cK, bO, cL, cM⟩ bM c3 ⟨h, o, ac, I⟩
    obtain ⟨cf, c4, rfl, h, ao⟩ := rnd1 h
    unfold label_Text_lp1 at h
    try dsimp only at h o ac I
    refine (show WC _ _ _ _ [(7, pt d 0), (19, G), (20, vi (an.length : Int)), (21, vi bO)] _ from ?_)
    refine sq (rg (wY (Y.lss_i z z) z (nl (th (sq ?_)))))
    rcases cnd h with ⟨J, h⟩ | ⟨J, h⟩
    ·refine WC.condT' z J (sk (th (sq (WC.block (sq (rg ?_))))))
     obtain ⟨m, a9, h⟩ := bnd h
     have ap := aQ.st o z z z
     obtain ⟨c5, cN, cO, aq, ba, bb, K, aR⟩ := OwnSl.at ap a9
     obtain ⟨_, _, rfl, rfl, rfl⟩ := aR
     replace K : CellsAt _ _ _ [vs m.Key, vs m.Val] := K
     have aS := CAt.own ap aq K
     refine wY (Y.indexAddr ty32 ty67 z aq z ba bb) z (wY (yL ty67 z z aS.at_ z) z (WL.alloc (O := cL) 14 [vs [], vs []] ty67 z z ?_))
     intro c6 cg cP e bc
     refine WL.store (v := ag [vs m.Key, vs m.Val]) (cells' := [vs m.Key, vs m.Val]) ty67 z z bc z (le_ z) z z ?_
     intro ar j au
     refine nl (th (rg (wY (yf fo67_0 z) z (wY (yl ty9 z z (au.cell 0 _ z)) z ?_))))
     obtain ⟨c7, bd, h⟩ := bnd h
     refine wY (Y.add_s (a := [59]) bd z z) z ?_
     obtain ⟨c8, bf, h⟩ := bnd h
     refine wY (Y.add_s (b := [61]) bf z z) z (wY (yf fo67_1 z) z (wY (yl ty9 z z (au.cell 1 _ z)) z ?_))
     obtain ⟨aT, bg, h⟩ := bnd h
     refine wY (Y.add_s bg z z) z ?_
     obtain ⟨ch, h, bh⟩ := bnd h
     refine WL.callJ (vals := [pt d 0, vs aT]) (σ := (List UInt8 × Int × Own × Value)) (fun x w' => (x.1, x.2.1) = ch ∧ Stp [11, 1004] cg ar x.2.2.1 w' ∧ OwnSl 1003 Rep.b 5 x.2.2.1 w' x.2.2.2 x.1 ∧ Blk 11 x.2.2.1 w' d 146 [pt d 0, x.2.2.2]) (fun x => tp [vi x.2.1, Value.nilIface]) kok121 z z ?_ ?_
     ·refine Rets.enter Tryz.func121 z z ?_
      refine (show WC _ _ _ _ [(0, pt d 0), (1, vs aT)] _ from ?_)
      refine sq (rg (wY (ya z) z (wY (ya (v := Value.nilIface) z) z (nl (th (sq (rg (wY (ym z) z ?_))))))))
      obtain ⟨ci, h, bi⟩ := bnd h
      refine WL.callJ (vals := [pt d 0]) (σ := Unit) (fun x w' => () = ci ∧ ar = w') (fun x => tp []) kok144 z z ?_ ?_
      ·refine Rets.enter Tryz.func144 z z ?_
       refine (show WC _ _ _ _ [(0, pt d 0)] _ from ?_)
       refine sq (rg (wY (ym z) z (wY (yn z) z (wY (yf fo146_0 z) z ?_))))
       have av := (I.st e z).st j z
       refine wY (yl ty144 z z (av.cell 0 _ z)) z (wY (Y.eql_nil (r := false) ty144.u z z z) z (nl (th (WC.condF z (sq (rg (wY (ym z) z (wY (yn z) z (wY (yf fo146_0 z) z ?_)))))))))
       refine wY (yl ty144 z z (av.cell 0 _ z)) z (wY (ym z) z (wY (Y.neq_same ty144.u ty146 z z) z (nl (th (WC.condF z (sk ?_))))))
       exact At.res (.inr z) z .nil ⟨(), ⟨some1 h, z⟩, z⟩
      ·rintro _ _ ⟨rfl, rfl⟩
       replace h := bi
       refine (show WL _ _ _ _ _ ((7, tp []) :: _) _ from ?_)
       refine nl (th (sq (rg (wY (ym z) z (wY (ym z) z (wY (yn z) z (wY (yf fo146_1 z) z ?_)))))))
       have ax := (I.st e z).st j z
       refine wY (yl ty51 z z (ax.cell 1 _ z)) z (wY (ym z) z ?_)
       obtain ⟨bl, aU, h⟩ := bnd h
       have bn := (ac.st e z z z).st j z z z
       refine WL.appendS (by decide) ty51 ty9 ty5 z z bn aU z ?_
       intro c9 da cQ Q ay
       refine wY (yn z) z (wY (yf fo146_1 z) z ?_)
       have bo := h
       obtain ⟨ad, ae, af, rfl⟩ := ay.shape
       have h := bo
       have bp := ax.st Q z
       refine WL.store (v := (vl ad ae af)) (cells' := [pt d 0, (vl ad ae af)]) ty51 z z bp z (le_ z) z z ?_
       intro cR S bq
       refine nl (th (sq (rg (wY (ym z) z (wY (Y.len_s ty9 z) z ?_)))))
       obtain ⟨cj, br, h⟩ := lt1 h
       refine WL.yE (ya z) (congrArg vi br.symm) z (wY (ya (v := Value.nilIface) z) z (nl (th (rt ?_))))
       have bs := ay.st S z z z
       obtain ⟨ck, T, bt⟩ := OwnSl.rlb 1003 rfl bs
       have bu := bq.st T z
       exact At.res (.inl z) z (.tmp z (.tmp z .nil)) ⟨(bl, cj, ck, (vl ad ae af)), ⟨some1 h, (tr_ (su_ Q z) (tr_ (su_ S z) (su_ T z))), bt, bu⟩, z⟩
     ·rintro ⟨cl, cm, db, cn⟩ cS ⟨rfl, U, az, aA⟩
      replace h := bh
      try dsimp only at h U az aA
      refine (show WL _ _ _ _ _ ((32, tp [vi cm, Value.nilIface]) :: _) _ from ?_)
      refine nl (At.inBlock (th (rg (wY (Y.add_i z z) z (wY (ym z) z (nl ?_))))))
      obtain ⟨co, V, bw⟩ := OwnSl.rlb 1004 rfl az
      have bx := aA.st V z
      exact At.round (cl, w64 (bO + 1), co, cn) cf (Nat.lt_succ_self _) ⟨next1 h ao, (tr_ (su_ o z) (tr_ (su_ e z) (tr_ (su_ j z) (tr_ (su_ U z) (su_ V z))))), bw, bx⟩ (.cons z (.cons z (.cons z (.cons z .nil))))
    ·refine WC.condF' z J (WC.exit (At.thenX (At.loopX ?_)))
     obtain ⟨cq, W, bz⟩ := OwnSl.rlb 1005 rfl ac
     have bA := I.st W z
     exact At.hitB (σ := (List UInt8 × Own × Value)) (cK, cq, cM) ⟨brk1 h ao, (tr_ (su_ o z) (su_ W z)), bz, bA⟩ (.cons z .nil)
   ·rintro ⟨bP, bQ, di⟩ cr ⟨rfl, aC, ah, ai⟩
    replace h := flowK_go a4
    try dsimp only at h aC ah ai
    refine (show At _ _ _ [(7, pt d 0)] _ from ?_)
    refine At.inBlockHit (th (sq (rg ?_)))
    obtain ⟨cs, h, bB⟩ := bnd h
    refine WL.callJ (vals := [pt d 0]) (σ := Own) (fun x w' => () = cs ∧ Stp [1005] bQ cr x w') (fun x => vs bP) kok122 z z ?_ ?_
    ·refine Rets.enter Tryz.func122 z z ?_
     refine (show WC _ _ _ _ [(0, pt d 0)] _ from ?_)
     refine sq (rg (wY (ya (v := vs []) z) z (nl (th (sq (WC.drawH [1005] [0, 1, 2, 3, 4, 5, 6, 7, 8, 9, 10, 11] bQ 12 fmix z (by kernel_rfl) ?_))))))
     intro cT l
     refine WD.y 0 z (by kernel_rfl) (fun _ _ _ => ym z) z (WD.y 1 z (by kernel_rfl) (fun _ _ _ => yn z) z (WD.y 2 z (by kernel_rfl) (fun _ _ _ => yf fo146_1 z) z (WD.y 3 z (by kernel_rfl) (fun cU dc aW => have bC := ai.st l z; have bD := bC.st aW z; yl ty51 z z (bD.cell 1 _ z)) z (WD.y 5 z (by kernel_rfl) (fun _ _ _ => ym z) z (WD.y 6 z (by kernel_rfl) (fun _ _ _ => yn z) z (WD.y 7 z (by kernel_rfl) (fun _ _ _ => yf fo146_1 z) z (WD.y 8 z (by kernel_rfl) (fun cV dd aX => have bE := ai.st l z; have bF := bE.st aX z; yl ty51 z z (bF.cell 1 _ z)) z (WD.y 9 z (by kernel_rfl) (fun _ _ _ => Y.lenF ty51 z ah.isl) z (WD.heavy 4 z (by kernel_rfl) ?_)))))))))
     have aD := ah.st l z z z
     refine WL.sdata ty174.u z aD z ?_
     intro de ct cW t bG
     refine nl (At.dq (su_ t z) (WD.heavy 10 z (by kernel_rfl) ?_))
     have bH := aD.st t z z z
     refine WL.ustr ty174.u ty5 z z bH bG z ?_
     intro cX Z
     refine nl (At.dq (su_ Z z) (WD.y 11 z (by kernel_rfl) (fun _ _ _ => ya z) z (WD.done_ (by kernel_rfl) (th (rt ?_)))))
     exact At.res (.inl z) z (.tmp z .nil) ⟨ct, ⟨some1 h, (tr_ (su_ l z) (tr_ (su_ t z) (su_ Z z)))⟩, z⟩
    ·rintro cu bI ⟨rfl, aY⟩
     replace h := bB
     refine (show WL _ _ _ _ _ ((34, vs bP) :: _) _ from ?_)
     refine wY (ya z) z (wY (ya z) z (nl (th (rt ?_))))
     obtain ⟨rfl, rfl⟩ := tup2 h
     have bJ : Stp [11, 12, 14, 1002, 1003, 1004, 1005] (Lg.O0 A) w cu bI := (tr_ (su_ C z) (tr_ (su_ aj z) (tr_ (su_ F z) (tr_ (su_ H z) (tr_ (su_ aC z) (su_ aY z))))))
     exact At.res (.inl z) z (.tmp z (.tmp z .nil)) ⟨z, (se_ bJ z z)⟩
theorem c_point_bit {a0 : Bool} {w : World} {r0 : Int} (h : point_bit a0 = some r0) : Rets Tryz.prog 88 [vB a0] w (fun v w' => v = vi r0 ∧ Ext w w') := by
 unfold point_bit at h
 refine Rets.enter Tryz.func88 z z ?_
 refine (show WC _ _ _ _ [(0, vB a0)] _ from ?_)
 refine sq (rg (wY (ya z) z (nl (th (sq (sq (rg (wY (ym z) z (nl ?_)))))))))
 refine th ?_
 rcases cnd h with ⟨d, h⟩ | ⟨d, h⟩
 ·refine WC.condT' z d (sq (rg (wY (ya z) z (nl (th (rt (At.thenR ?_)))))))
  obtain rfl := some1 h
  have e : Stp [] (Lg.O0 (fun _ => False)) w (Lg.O0 (fun _ => False)) w := (sr_ _ _ _)
  exact At.res (.inl z) z (.tmp z .nil) ⟨z, (se_ e z z)⟩
 ·refine WC.condF' z d (sk (th (sq (rg (wY (ya z) z (nl (th (rt ?_))))))))
  obtain rfl := some1 h
  have j : Stp [] (Lg.O0 (fun _ => False)) w (Lg.O0 (fun _ => False)) w := (sr_ _ _ _)
  exact At.res (.inl z) z (.tmp z .nil) ⟨z, (se_ j z z)⟩
theorem c_point_Key {A : Nat → Prop} {v0_1 : Value} {v0_13 : Value} {v0_15 : Value} {a0 : api_Point} {w : World} (hs0_1 : Sl rep_api_Pair w A v0_1 a0.Attrs) (hs0_13 : Sl Rep.u w A v0_13 a0.Hist.Pos.Counts) (hs0_15 : Sl Rep.u w A v0_15 a0.Hist.Neg.Counts) {r0 : List UInt8} {r1 : Int} (h : point_Key a0 = some (r0, r1)) : Rets Tryz.prog 48 [ag (cp a0 v0_1 v0_13 v0_15)] w (fun v w' => v = tp [vs r0, vi r1] ∧ Ext w w') := by
 unfold point_Key at h
 refine Rets.enter Tryz.func48 z z ?_
 have I : Sl rep_api_Pair w (imm (Lg.O0 A)) v0_1 a0.Attrs := (Sl.start hs0_1)
 have J : Sl Rep.u w (imm (Lg.O0 A)) v0_13 a0.Hist.Pos.Counts := (Sl.start hs0_13)
 have K : Sl Rep.u w (imm (Lg.O0 A)) v0_15 a0.Hist.Neg.Counts := (Sl.start hs0_15)
 refine (show WC _ _ _ _ [(0, ag (cp a0 v0_1 v0_13 v0_15))] _ from ?_)
 refine sq (rg ?_)
 have ar := h
 obtain ⟨F, G, H, rfl⟩ := I.shape
 have h := ar
 have au := h
 obtain ⟨M, Q, S, rfl⟩ := J.shape
 have h := au
 have av := h
 obtain ⟨T, U, V, rfl⟩ := K.shape
 have h := av
 refine WL.box (O := (Lg.O0 A)) 11 (cp a0 (vl F G H) (vl M Q S) (vl T U V)) z z z ?_
 intro bd aS a3 d W
 refine wY (ya (v := vs []) z) z (wY (ya z) z (nl (th (sq (sq (rg (wY (yL ty40 z z (W.cells 0 (cp a0 (vl F G H) (vl M Q S) (vl T U V)) z) z) z ?_)))))))
 have Z := I.i d z z
 have ax := J.i d z z
 have ay := K.i d z z
 obtain ⟨bf, az, h⟩ := bnd h
 refine WL.call (vals := [ag (cp a0 (vl F G H) (vl M Q S) (vl T U V))]) kok17 z z (c_point_Check (A := fun _ => True) (a0 := a0) (Sl.all Z) (Sl.all ax) (Sl.all ay) az) ?_
 rintro a4 aA ⟨rfl, aC⟩
 obtain ⟨ap, aT, aU, j⟩ := adoptE aS (fun k => 1) aC
 refine wY (ya z) z (nl (th (sq (rg (wY (ym z) z (wY (Y.neq_i z z) z (nl (th ?_))))))))
 rcases cnd h with ⟨D, h⟩ | ⟨D, h⟩
 ·refine WC.condT' z D (sq (rg (wY (ym z) z (wY (ya (v := vs []) z) z (wY (ya z) z (nl (th (rt (At.thenR ?_)))))))))
  obtain ⟨rfl, rfl⟩ := tup2 h
  have aD : Stp [] (Lg.O0 A) w ap aA := (tr_ (su_ d z) (su_ j z))
  exact At.res (.inl z) z (.tmp z (.tmp z .nil)) ⟨z, (se_ aD z z)⟩
 ·refine WC.condF' z D (sk (th (sq (rg (wY (yf fo40_0 z) z ?_)))))
  have o := W.st j z
  refine wY (yl ty9 z z (o.cell 0 _ z)) z (wY (yf fo40_1 z) z (wY (yl ty32 z z (o.cell 1 _ z)) z ?_))
  have aE := Z.i j z z
  obtain ⟨⟨bg, bh⟩, aF, h⟩ := bnd h
  refine WL.call (vals := [vs a0.Name, (vl F G H)]) kok87 z z (c_label_Text (A := fun _ => True) (Sl.all aE) aF) ?_
  rintro a5 a6 ⟨rfl, aG⟩
  obtain ⟨aq, aW, aX, l⟩ := adoptE ap (fun k => 1) aG
  refine wY (ym z) z (wY (yx z z) z (wY (yx z z) z (wY (ya z) z (wY (ya z) z (nl (th (sq (WC.drawH [] [0, 1, 2, 3, 4, 5, 6, 7, 8, 9, 10, 11, 12, 13, 14, 15, 16, 17, 18, 19] aq 20 fmix z (by kernel_rfl) ?_))))))))
  intro a7 m
  refine WD.y 0 z (by kernel_rfl) (fun _ _ _ => ym z) z ?_
  obtain ⟨bi, aH, h⟩ := bnd h
  refine WD.y 1 z (by kernel_rfl) (fun _ _ _ => Y.add_s (b := [32]) aH z z) z (WD.y 2 z (by kernel_rfl) (fun _ _ _ => yf fo40_2 z) z (WD.y 3 z (by kernel_rfl) (fun a8 bj ac => have aI := o.st l z; have aJ := aI.st m z; have aK := aJ.st ac z; yl ty3 z z (aK.cell 2 _ z)) z (WD.y 4 z (by kernel_rfl) (fun _ _ _ => Y.add_i z z) z (WD.y 5 z (by kernel_rfl) (fun _ _ _ => Y.conv_ib ty3.u ty5.u z) z (WD.y 6 z (by kernel_rfl) (fun _ _ _ => yf fo40_3 z) z (WD.y 7 z (by kernel_rfl) (fun a9 bk ad => have aL := o.st l z; have aM := aL.st m z; have aN := aM.st ad z; yl ty3 z z (aN.cell 3 _ z)) z (WD.y 8 z (by kernel_rfl) (fun _ _ _ => Y.add_i z z) z (WD.y 9 z (by kernel_rfl) (fun _ _ _ => Y.conv_ib ty3.u ty5.u z) z (WD.y 10 z (by kernel_rfl) (fun _ _ _ => yf fo40_4 z) z ?_)))))))))
  refine WD.y 11 z (by kernel_rfl) (fun aY bl aa => have ae := o.st l z; have af := ae.st m z; have ah := af.st aa z; yl ty4 z z (ah.cell 4 _ z)) z (WD.heavy 12 z (by kernel_rfl) ?_)
  obtain ⟨e, ai, h⟩ := bnd h
  refine WL.call (vals := [vB a0.Mono]) kok88 z z (c_point_bit ai) ?_
  rintro aZ a1 ⟨rfl, aj⟩
  obtain ⟨aO, aQ, aR, t⟩ := adoptE aq (fun k => 1) aj
  refine nl (At.dq (su_ t z) (WD.y 13 z (by kernel_rfl) (fun _ _ _ => Y.add_i z z) z (WD.y 14 z (by kernel_rfl) (fun _ _ _ => Y.conv_ib ty3.u ty5.u z) z (WD.heavy 15 z (by kernel_rfl) (WL.buildSlice (O := aO) (R := Rep.b) (vals := [(0, vb (toU8 (w64 (48 + a0.Kind)))), (1, vb (toU8 (w64 (48 + a0.Temp)))), (2, vb (toU8 (w64 (48 + e))))]) 12 [vb (toU8 (w64 (48 + a0.Kind))), vb (toU8 (w64 (48 + a0.Temp))), vb (toU8 (w64 (48 + e)))] (xs := [toU8 (w64 (48 + a0.Kind)), toU8 (w64 (48 + a0.Temp)), toU8 (w64 (48 + e))]) (by decide) ty51 ty5 (by decide) (by decide) (fe_ z) (by kernel_rfl) z ⟨[vb (toU8 (w64 (48 + a0.Kind)))], [vb (toU8 (w64 (48 + a0.Temp))), vb (toU8 (w64 (48 + e)))], z, z, ⟨[vb (toU8 (w64 (48 + a0.Temp)))], [vb (toU8 (w64 (48 + e)))], z, z, ⟨[vb (toU8 (w64 (48 + e)))], [], z, z, z⟩⟩⟩ z ?_)))))
  intro ba aP ak C al
  refine nl (At.dq (su_ C z) (WD.y 16 z (by kernel_rfl) (fun a2 bb ab => have am := al.st ab z z z; Y.b2s ty51 ty5 ty9 z am.src.sl) z ?_))
  obtain ⟨bc, an, h⟩ := bnd h
  refine WD.y 17 z (by kernel_rfl) (fun _ _ _ => Y.add_s an z z) z (WD.y 18 z (by kernel_rfl) (fun _ _ _ => ya z) z (WD.y 19 z (by kernel_rfl) (fun _ _ _ => ya z) z (WD.done_ (by kernel_rfl) (th (rt ?_)))))
  obtain ⟨rfl, rfl⟩ := tup2 h
  have ao : Stp [] (Lg.O0 A) w aP ak := (tr_ (su_ d z) (tr_ (su_ j z) (tr_ (su_ l z) (tr_ (su_ m z) (tr_ (su_ t z) (su_ C z))))))
  exact At.res (.inl z) z (.tmp z (.tmp z .nil)) ⟨z, (se_ ao z z)⟩
end Go.Lg
