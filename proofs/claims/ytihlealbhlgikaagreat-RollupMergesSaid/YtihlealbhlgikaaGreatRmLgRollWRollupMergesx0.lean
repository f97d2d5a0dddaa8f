/- The walks of RollupMerges and of what it calls, printed by gen.py. -/
import Derived.Test.YtihlealbhlgikaaGreatRmLgPart0
import Derived.Test.YtihlealbhlgikaaGreatRmLgPart2
import Derived.Test.YtihlealbhlgikaaGreatProg
set_option linter.unusedVariables false
namespace Go.Lg
open Go Go.Proofs
set_option maxRecDepth 100000
set_option maxHeartbeats 4000000
abbrev cp (p : api_Point) (a b c : Value) : List Value := [vs p.Name, a, vi p.Kind, vi p.Temp, .bool p.Mono, vi p.Start, vi p.Time, vi p.Int_, vu p.Re, vu p.Im, vi p.Hist.Scale, vu p.Hist.Zero, vi p.Hist.Pos.Offset, b, vi p.Hist.Neg.Offset, c, vi p.Flags]
abbrev hl (h : api_Hist) (a b : Value) : List Value := [vi h.Scale, vu h.Zero, vi h.Pos.Offset, a, vi h.Neg.Offset, b]
abbrev hzr : List Value := [vi 0, vu 0, vi 0, sn, vi 0, sn]
theorem fmix : Tryz.prog.follows .mixedOrders = true := by kernel_rfl
theorem ty3 : TyOk Tryz.prog 3 (.int .i64) 1 8 (.int .i64 0) := tyOk Tryz.underlying3 (by kernel_rfl)
theorem ty4 : TyOk Tryz.prog 4 .bool 1 1 (.bool false) := tyOk Tryz.underlying4 (by kernel_rfl)
theorem ty5 : TyOk Tryz.prog 5 (.int .u8) 1 1 (.int .u8 0) := tyOk Tryz.underlying5 (by kernel_rfl)
theorem ty9 : TyOk Tryz.prog 9 .string 1 16 (.string ⟨#[]⟩) := tyOk Tryz.underlying9 (by kernel_rfl)
theorem ty22 : TyOk Tryz.prog 22 (.slice 40) 1 24 (.slice none 0 0) := tyOk Tryz.underlying22 (by kernel_rfl)
theorem ty25 : TyOk Tryz.prog 25 (.int .i64) 1 8 (.int .i64 0) := tyOk Tryz.underlying25 (by kernel_rfl)
theorem ty32 : TyOk Tryz.prog 32 (.slice 67) 1 24 (.slice none 0 0) := tyOk Tryz.underlying32 (by kernel_rfl)
theorem ty33 : TyOk Tryz.prog 33 (.int .u64) 1 8 (.int .u64 0) := tyOk Tryz.underlying33 (by kernel_rfl)
theorem ty34 : TyOk Tryz.prog 34 (.slice 33) 1 24 (.slice none 0 0) := tyOk Tryz.underlying34 (by kernel_rfl)
theorem ty36 : TyOk Tryz.prog 36 (.struct #[(Field.mk "Offset" 3 0 false "" "" 0), (Field.mk "Counts" 34 1 false "" "" 8)]) 2 32 (.agg #[(.int .i64 0), (.slice none 0 0)]) := tyOk Tryz.underlying36 (by kernel_rfl)
theorem ty38 : TyOk Tryz.prog 38 (.struct #[(Field.mk "Scale" 3 0 false "" "" 0), (Field.mk "Zero" 33 1 false "" "" 8), (Field.mk "Pos" 36 2 false "" "" 16), (Field.mk "Neg" 36 4 false "" "" 48)]) 6 80 (.agg #[(.int .i64 0), (.int .u64 0), (.int .i64 0), (.slice none 0 0), (.int .i64 0), (.slice none 0 0)]) := tyOk Tryz.underlying38 (by kernel_rfl)
theorem ty40 : TyOk Tryz.prog 40 (.struct #[(Field.mk "Name" 9 0 false "" "" 0), (Field.mk "Attrs" 32 1 false "" "" 16), (Field.mk "Kind" 3 2 false "" "" 40), (Field.mk "Temp" 3 3 false "" "" 48), (Field.mk "Mono" 4 4 false "" "" 56), (Field.mk "Start" 3 5 false "" "" 64), (Field.mk "Time" 3 6 false "" "" 72), (Field.mk "Int" 3 7 false "" "" 80), (Field.mk "Re" 33 8 false "" "" 88), (Field.mk "Im" 33 9 false "" "" 96), (Field.mk "Hist" 38 10 false "" "" 104), (Field.mk "Flags" 3 16 false "" "" 184)]) 17 192 (.agg #[(.string ⟨#[]⟩), (.slice none 0 0), (.int .i64 0), (.int .i64 0), (.bool false), (.int .i64 0), (.int .i64 0), (.int .i64 0), (.int .u64 0), (.int .u64 0), (.int .i64 0), (.int .u64 0), (.int .i64 0), (.slice none 0 0), (.int .i64 0), (.slice none 0 0), (.int .i64 0)]) := tyOk Tryz.underlying40 (by kernel_rfl)
theorem ty45 : TyOk Tryz.prog 45 (.struct #[(Field.mk "P" 40 0 false "" "" 0), (Field.mk "E" 25 17 false "" "" 192)]) 18 200 (.agg #[(.string ⟨#[]⟩), (.slice none 0 0), (.int .i64 0), (.int .i64 0), (.bool false), (.int .i64 0), (.int .i64 0), (.int .i64 0), (.int .u64 0), (.int .u64 0), (.int .i64 0), (.int .u64 0), (.int .i64 0), (.slice none 0 0), (.int .i64 0), (.slice none 0 0), (.int .i64 0), (.int .i64 0)]) := tyOk Tryz.underlying45 (by kernel_rfl)
theorem ty51 : TyOk Tryz.prog 51 (.slice 5) 1 24 (.slice none 0 0) := tyOk Tryz.underlying51 (by kernel_rfl)
theorem ty67 : TyOk Tryz.prog 67 (.struct #[(Field.mk "Key" 9 0 false "" "" 0), (Field.mk "Val" 9 1 false "" "" 16)]) 2 32 (.agg #[(.string ⟨#[]⟩), (.string ⟨#[]⟩)]) := tyOk Tryz.underlying67 (by kernel_rfl)
theorem ty94 : TyOk Tryz.prog 94 (.array 2 36) 4 64 (.agg #[(.int .i64 0), (.slice none 0 0), (.int .i64 0), (.slice none 0 0)]) := tyOk Tryz.underlying94 (by kernel_rfl)
theorem ty126 : TyOk Tryz.prog 126 (.struct #[(Field.mk "X" 38 0 false "" "" 0), (Field.mk "Y" 38 6 false "" "" 80), (Field.mk "E" 25 12 false "" "" 160)]) 13 168 (.agg #[(.int .i64 0), (.int .u64 0), (.int .i64 0), (.slice none 0 0), (.int .i64 0), (.slice none 0 0), (.int .i64 0), (.int .u64 0), (.int .i64 0), (.slice none 0 0), (.int .i64 0), (.slice none 0 0), (.int .i64 0)]) := tyOk Tryz.underlying126 (by kernel_rfl)
theorem ty142 : TyOk Tryz.prog 142 (.int .u64) 1 8 (.int .u64 0) := tyOk Tryz.underlying142 (by kernel_rfl)
theorem ty144 : TyOk Tryz.prog 144 (.pointer 146) 1 8 (.pointer none) := tyOk Tryz.underlying144 (by kernel_rfl)
theorem ty146 : TyOk Tryz.prog 146 (.struct #[(Field.mk "addr" 144 0 false "" "strings" 0), (Field.mk "buf" 51 1 false "" "strings" 8)]) 2 32 (.agg #[(.pointer none), (.slice none 0 0)]) := tyOk Tryz.underlying146 (by kernel_rfl)
theorem ty174 : TyOk Tryz.prog 174 (.pointer 5) 1 8 (.pointer none) := tyOk Tryz.underlying174 (by kernel_rfl)
theorem ty176 : TyOk Tryz.prog 176 (.array 2 38) 12 160 (.agg #[(.int .i64 0), (.int .u64 0), (.int .i64 0), (.slice none 0 0), (.int .i64 0), (.slice none 0 0), (.int .i64 0), (.int .u64 0), (.int .i64 0), (.slice none 0 0), (.int .i64 0), (.slice none 0 0)]) := tyOk Tryz.underlying176 (by kernel_rfl)
theorem ty177 : TyOk Tryz.prog 177 (.pointer 36) 1 8 (.pointer none) := tyOk Tryz.underlying177 (by kernel_rfl)
theorem ty178 : TyOk Tryz.prog 178 (.struct #[(Field.mk "to" 177 0 false "" "limnograph/fold" 0), (Field.mk "a" 36 1 false "" "limnograph/fold" 8), (Field.mk "b" 36 3 false "" "limnograph/fold" 40)]) 5 72 (.agg #[(.pointer none), (.int .i64 0), (.slice none 0 0), (.int .i64 0), (.slice none 0 0)]) := tyOk Tryz.underlying178 (by kernel_rfl)
theorem ty179 : TyOk Tryz.prog 179 (.slice 178) 1 24 (.slice none 0 0) := tyOk Tryz.underlying179 (by kernel_rfl)
theorem ty196 : TyOk Tryz.prog 196 .unsafePointer 1 8 (.pointer none) := tyOk Tryz.underlying196 (by kernel_rfl)
theorem fo36_0 : FieldOk Tryz.prog 36 0 0 := fieldOk Tryz.underlying36 rfl rfl (by kernel_rfl)
theorem fo36_1 : FieldOk Tryz.prog 36 1 1 := fieldOk Tryz.underlying36 rfl rfl (by kernel_rfl)
theorem fo38_0 : FieldOk Tryz.prog 38 0 0 := fieldOk Tryz.underlying38 rfl rfl (by kernel_rfl)
theorem fo38_1 : FieldOk Tryz.prog 38 1 1 := fieldOk Tryz.underlying38 rfl rfl (by kernel_rfl)
theorem fo38_2 : FieldOk Tryz.prog 38 2 2 := fieldOk Tryz.underlying38 rfl rfl (by kernel_rfl)
theorem fo38_3 : FieldOk Tryz.prog 38 3 4 := fieldOk Tryz.underlying38 rfl rfl (by kernel_rfl)
theorem fo40_0 : FieldOk Tryz.prog 40 0 0 := fieldOk Tryz.underlying40 rfl rfl (by kernel_rfl)
theorem fo40_1 : FieldOk Tryz.prog 40 1 1 := fieldOk Tryz.underlying40 rfl rfl (by kernel_rfl)
theorem fo40_2 : FieldOk Tryz.prog 40 2 2 := fieldOk Tryz.underlying40 rfl rfl (by kernel_rfl)
theorem fo40_3 : FieldOk Tryz.prog 40 3 3 := fieldOk Tryz.underlying40 rfl rfl (by kernel_rfl)
theorem fo40_4 : FieldOk Tryz.prog 40 4 4 := fieldOk Tryz.underlying40 rfl rfl (by kernel_rfl)
theorem fo40_5 : FieldOk Tryz.prog 40 5 5 := fieldOk Tryz.underlying40 rfl rfl (by kernel_rfl)
theorem fo40_6 : FieldOk Tryz.prog 40 6 6 := fieldOk Tryz.underlying40 rfl rfl (by kernel_rfl)
theorem fo40_7 : FieldOk Tryz.prog 40 7 7 := fieldOk Tryz.underlying40 rfl rfl (by kernel_rfl)
theorem fo40_8 : FieldOk Tryz.prog 40 8 8 := fieldOk Tryz.underlying40 rfl rfl (by kernel_rfl)
theorem fo40_9 : FieldOk Tryz.prog 40 9 9 := fieldOk Tryz.underlying40 rfl rfl (by kernel_rfl)
theorem fo40_10 : FieldOk Tryz.prog 40 10 10 := fieldOk Tryz.underlying40 rfl rfl (by kernel_rfl)
theorem fo40_11 : FieldOk Tryz.prog 40 11 16 := fieldOk Tryz.underlying40 rfl rfl (by kernel_rfl)
theorem fo45_0 : FieldOk Tryz.prog 45 0 0 := fieldOk Tryz.underlying45 rfl rfl (by kernel_rfl)
theorem fo45_1 : FieldOk Tryz.prog 45 1 17 := fieldOk Tryz.underlying45 rfl rfl (by kernel_rfl)
theorem fo67_0 : FieldOk Tryz.prog 67 0 0 := fieldOk Tryz.underlying67 rfl rfl (by kernel_rfl)
theorem fo67_1 : FieldOk Tryz.prog 67 1 1 := fieldOk Tryz.underlying67 rfl rfl (by kernel_rfl)
theorem fo126_0 : FieldOk Tryz.prog 126 0 0 := fieldOk Tryz.underlying126 rfl rfl (by kernel_rfl)
theorem fo126_1 : FieldOk Tryz.prog 126 1 6 := fieldOk Tryz.underlying126 rfl rfl (by kernel_rfl)
theorem fo126_2 : FieldOk Tryz.prog 126 2 12 := fieldOk Tryz.underlying126 rfl rfl (by kernel_rfl)
theorem fo146_0 : FieldOk Tryz.prog 146 0 0 := fieldOk Tryz.underlying146 rfl rfl (by kernel_rfl)
theorem fo146_1 : FieldOk Tryz.prog 146 1 1 := fieldOk Tryz.underlying146 rfl rfl (by kernel_rfl)
theorem fo178_0 : FieldOk Tryz.prog 178 0 0 := fieldOk Tryz.underlying178 rfl rfl (by kernel_rfl)
theorem fo178_1 : FieldOk Tryz.prog 178 1 1 := fieldOk Tryz.underlying178 rfl rfl (by kernel_rfl)
theorem fo178_2 : FieldOk Tryz.prog 178 2 3 := fieldOk Tryz.underlying178 rfl rfl (by kernel_rfl)
theorem agok67 : AgOk Tryz.prog 67 #[(Field.mk "Key" 9 0 false "" "" 0), (Field.mk "Val" 9 1 false "" "" 16)] := ⟨Tryz.underlying67, by kernel_rfl, by kernel_rfl⟩
theorem x64_110 : X64 Tryz.prog 110 := x64 Tryz.func110 (by kernel_rfl) rfl (by kernel_rfl) (by kernel_rfl)
theorem xne_162 : XNe Tryz.prog 162 := xne Tryz.func162 (by kernel_rfl) rfl (by kernel_rfl) (by kernel_rfl)
theorem xfrom_109 : XFrom Tryz.prog 109 := xfrom Tryz.func109 (by kernel_rfl) rfl (by kernel_rfl) (by kernel_rfl)
theorem xbits_146 : XBits Tryz.prog 146 := xbits Tryz.func146 (by kernel_rfl) rfl (by kernel_rfl) (by kernel_rfl)
theorem kok6 : CallOk Tryz.prog 6 := callOk Tryz.func6 (by kernel_rfl) rfl
theorem kok8 : CallOk Tryz.prog 8 := callOk Tryz.func8 (by kernel_rfl) rfl
theorem kok11 : CallOk Tryz.prog 11 := callOk Tryz.func11 (by kernel_rfl) rfl
theorem kok12 : CallOk Tryz.prog 12 := callOk Tryz.func12 (by kernel_rfl) rfl
theorem kok13 : CallOk Tryz.prog 13 := callOk Tryz.func13 (by kernel_rfl) rfl
theorem kok14 : CallOk Tryz.prog 14 := callOk Tryz.func14 (by kernel_rfl) rfl
theorem kok15 : CallOk Tryz.prog 15 := callOk Tryz.func15 (by kernel_rfl) rfl
theorem kok16 : CallOk Tryz.prog 16 := callOk Tryz.func16 (by kernel_rfl) rfl
theorem kok17 : CallOk Tryz.prog 17 := callOk Tryz.func17 (by kernel_rfl) rfl
theorem kok21 : CallOk Tryz.prog 21 := callOk Tryz.func21 (by kernel_rfl) rfl
theorem kok22 : CallOk Tryz.prog 22 := callOk Tryz.func22 (by kernel_rfl) rfl
theorem kok23 : CallOk Tryz.prog 23 := callOk Tryz.func23 (by kernel_rfl) rfl
theorem kok24 : CallOk Tryz.prog 24 := callOk Tryz.func24 (by kernel_rfl) rfl
theorem kok25 : CallOk Tryz.prog 25 := callOk Tryz.func25 (by kernel_rfl) rfl
theorem kok26 : CallOk Tryz.prog 26 := callOk Tryz.func26 (by kernel_rfl) rfl
theorem kok27 : CallOk Tryz.prog 27 := callOk Tryz.func27 (by kernel_rfl) rfl
theorem kok28 : CallOk Tryz.prog 28 := callOk Tryz.func28 (by kernel_rfl) rfl
theorem kok29 : CallOk Tryz.prog 29 := callOk Tryz.func29 (by kernel_rfl) rfl
theorem kok30 : CallOk Tryz.prog 30 := callOk Tryz.func30 (by kernel_rfl) rfl
theorem kok31 : CallOk Tryz.prog 31 := callOk Tryz.func31 (by kernel_rfl) rfl
theorem kok32 : CallOk Tryz.prog 32 := callOk Tryz.func32 (by kernel_rfl) rfl
theorem kok33 : CallOk Tryz.prog 33 := callOk Tryz.func33 (by kernel_rfl) rfl
theorem kok34 : CallOk Tryz.prog 34 := callOk Tryz.func34 (by kernel_rfl) rfl
theorem kok35 : CallOk Tryz.prog 35 := callOk Tryz.func35 (by kernel_rfl) rfl
theorem kok36 : CallOk Tryz.prog 36 := callOk Tryz.func36 (by kernel_rfl) rfl
theorem kok37 : CallOk Tryz.prog 37 := callOk Tryz.func37 (by kernel_rfl) rfl
theorem kok38 : CallOk Tryz.prog 38 := callOk Tryz.func38 (by kernel_rfl) rfl
theorem kok39 : CallOk Tryz.prog 39 := callOk Tryz.func39 (by kernel_rfl) rfl
theorem kok48 : CallOk Tryz.prog 48 := callOk Tryz.func48 (by kernel_rfl) rfl
theorem kok49 : CallOk Tryz.prog 49 := callOk Tryz.func49 (by kernel_rfl) rfl
theorem kok50 : CallOk Tryz.prog 50 := callOk Tryz.func50 (by kernel_rfl) rfl
theorem kok51 : CallOk Tryz.prog 51 := callOk Tryz.func51 (by kernel_rfl) rfl
theorem kok52 : CallOk Tryz.prog 52 := callOk Tryz.func52 (by kernel_rfl) rfl
theorem kok53 : CallOk Tryz.prog 53 := callOk Tryz.func53 (by kernel_rfl) rfl
theorem kok54 : CallOk Tryz.prog 54 := callOk Tryz.func54 (by kernel_rfl) rfl
theorem kok55 : CallOk Tryz.prog 55 := callOk Tryz.func55 (by kernel_rfl) rfl
theorem kok56 : CallOk Tryz.prog 56 := callOk Tryz.func56 (by kernel_rfl) rfl
theorem kok57 : CallOk Tryz.prog 57 := callOk Tryz.func57 (by kernel_rfl) rfl
theorem kok58 : CallOk Tryz.prog 58 := callOk Tryz.func58 (by kernel_rfl) rfl
theorem kok59 : CallOk Tryz.prog 59 := callOk Tryz.func59 (by kernel_rfl) rfl
theorem kok60 : CallOk Tryz.prog 60 := callOk Tryz.func60 (by kernel_rfl) rfl
theorem kok61 : CallOk Tryz.prog 61 := callOk Tryz.func61 (by kernel_rfl) rfl
theorem kok62 : CallOk Tryz.prog 62 := callOk Tryz.func62 (by kernel_rfl) rfl
theorem kok63 : CallOk Tryz.prog 63 := callOk Tryz.func63 (by kernel_rfl) rfl
theorem kok64 : CallOk Tryz.prog 64 := callOk Tryz.func64 (by kernel_rfl) rfl
theorem kok65 : CallOk Tryz.prog 65 := callOk Tryz.func65 (by kernel_rfl) rfl
theorem kok66 : CallOk Tryz.prog 66 := callOk Tryz.func66 (by kernel_rfl) rfl
theorem kok67 : CallOk Tryz.prog 67 := callOk Tryz.func67 (by kernel_rfl) rfl
theorem kok68 : CallOk Tryz.prog 68 := callOk Tryz.func68 (by kernel_rfl) rfl
theorem kok69 : CallOk Tryz.prog 69 := callOk Tryz.func69 (by kernel_rfl) rfl
theorem kok70 : CallOk Tryz.prog 70 := callOk Tryz.func70 (by kernel_rfl) rfl
theorem kok71 : CallOk Tryz.prog 71 := callOk Tryz.func71 (by kernel_rfl) rfl
theorem kok87 : CallOk Tryz.prog 87 := callOk Tryz.func87 (by kernel_rfl) rfl
theorem kok88 : CallOk Tryz.prog 88 := callOk Tryz.func88 (by kernel_rfl) rfl
theorem kok89 : CallOk Tryz.prog 89 := callOk Tryz.func89 (by kernel_rfl) rfl
theorem kok90 : CallOk Tryz.prog 90 := callOk Tryz.func90 (by kernel_rfl) rfl
theorem kok91 : CallOk Tryz.prog 91 := callOk Tryz.func91 (by kernel_rfl) rfl
theorem kok92 : CallOk Tryz.prog 92 := callOk Tryz.func92 (by kernel_rfl) rfl
theorem kok93 : CallOk Tryz.prog 93 := callOk Tryz.func93 (by kernel_rfl) rfl
theorem kok94 : CallOk Tryz.prog 94 := callOk Tryz.func94 (by kernel_rfl) rfl
theorem kok95 : CallOk Tryz.prog 95 := callOk Tryz.func95 (by kernel_rfl) rfl
theorem kok96 : CallOk Tryz.prog 96 := callOk Tryz.func96 (by kernel_rfl) rfl
theorem kok97 : CallOk Tryz.prog 97 := callOk Tryz.func97 (by kernel_rfl) rfl
theorem kok98 : CallOk Tryz.prog 98 := callOk Tryz.func98 (by kernel_rfl) rfl
theorem kok99 : CallOk Tryz.prog 99 := callOk Tryz.func99 (by kernel_rfl) rfl
theorem kok100 : CallOk Tryz.prog 100 := callOk Tryz.func100 (by kernel_rfl) rfl
theorem kok101 : CallOk Tryz.prog 101 := callOk Tryz.func101 (by kernel_rfl) rfl
theorem kok102 : CallOk Tryz.prog 102 := callOk Tryz.func102 (by kernel_rfl) rfl
theorem kok103 : CallOk Tryz.prog 103 := callOk Tryz.func103 (by kernel_rfl) rfl
theorem kok104 : CallOk Tryz.prog 104 := callOk Tryz.func104 (by kernel_rfl) rfl
theorem kok105 : CallOk Tryz.prog 105 := callOk Tryz.func105 (by kernel_rfl) rfl
theorem kok106 : CallOk Tryz.prog 106 := callOk Tryz.func106 (by kernel_rfl) rfl
theorem kok107 : CallOk Tryz.prog 107 := callOk Tryz.func107 (by kernel_rfl) rfl
theorem kok108 : CallOk Tryz.prog 108 := callOk Tryz.func108 (by kernel_rfl) rfl
theorem kok117 : CallOk Tryz.prog 117 := callOk Tryz.func117 (by kernel_rfl) rfl
theorem kok121 : CallOk Tryz.prog 121 := callOk Tryz.func121 (by kernel_rfl) rfl
theorem kok122 : CallOk Tryz.prog 122 := callOk Tryz.func122 (by kernel_rfl) rfl
theorem kok123 : CallOk Tryz.prog 123 := callOk Tryz.func123 (by kernel_rfl) rfl
theorem kok124 : CallOk Tryz.prog 124 := callOk Tryz.func124 (by kernel_rfl) rfl
theorem kok125 : CallOk Tryz.prog 125 := callOk Tryz.func125 (by kernel_rfl) rfl
theorem kok126 : CallOk Tryz.prog 126 := callOk Tryz.func126 (by kernel_rfl) rfl
theorem kok127 : CallOk Tryz.prog 127 := callOk Tryz.func127 (by kernel_rfl) rfl
theorem kok128 : CallOk Tryz.prog 128 := callOk Tryz.func128 (by kernel_rfl) rfl
theorem kok129 : CallOk Tryz.prog 129 := callOk Tryz.func129 (by kernel_rfl) rfl
theorem kok130 : CallOk Tryz.prog 130 := callOk Tryz.func130 (by kernel_rfl) rfl
theorem kok131 : CallOk Tryz.prog 131 := callOk Tryz.func131 (by kernel_rfl) rfl
theorem kok132 : CallOk Tryz.prog 132 := callOk Tryz.func132 (by kernel_rfl) rfl
theorem kok140 : CallOk Tryz.prog 140 := callOk Tryz.func140 (by kernel_rfl) rfl
theorem kok141 : CallOk Tryz.prog 141 := callOk Tryz.func141 (by kernel_rfl) rfl
theorem kok142 : CallOk Tryz.prog 142 := callOk Tryz.func142 (by kernel_rfl) rfl
theorem kok144 : CallOk Tryz.prog 144 := callOk Tryz.func144 (by kernel_rfl) rfl
theorem kok145 : CallOk Tryz.prog 145 := callOk Tryz.func145 (by kernel_rfl) rfl
theorem kok147 : CallOk Tryz.prog 147 := callOk Tryz.func147 (by kernel_rfl) rfl
theorem kok148 : CallOk Tryz.prog 148 := callOk Tryz.func148 (by kernel_rfl) rfl
theorem kok149 : CallOk Tryz.prog 149 := callOk Tryz.func149 (by kernel_rfl) rfl
theorem kok150 : CallOk Tryz.prog 150 := callOk Tryz.func150 (by kernel_rfl) rfl
theorem kok151 : CallOk Tryz.prog 151 := callOk Tryz.func151 (by kernel_rfl) rfl
theorem kok152 : CallOk Tryz.prog 152 := callOk Tryz.func152 (by kernel_rfl) rfl
theorem kok160 : CallOk Tryz.prog 160 := callOk Tryz.func160 (by kernel_rfl) rfl
theorem kok161 : CallOk Tryz.prog 161 := callOk Tryz.func161 (by kernel_rfl) rfl
theorem kok163 : CallOk Tryz.prog 163 := callOk Tryz.func163 (by kernel_rfl) rfl
theorem kok164 : CallOk Tryz.prog 164 := callOk Tryz.func164 (by kernel_rfl) rfl
theorem kok165 : CallOk Tryz.prog 165 := callOk Tryz.func165 (by kernel_rfl) rfl
theorem kok168 : CallOk Tryz.prog 168 := callOk Tryz.func168 (by kernel_rfl) rfl
theorem c_rollup_Window {a0 : Int} {a1 : Int} {w : World} {r0 : Int} (h : rollup_Window a0 a1 = some r0) : Rets Tryz.prog 15 [vi a0, vi a1] w (fun v w' => v = vi r0 ∧ Ext w w') := by
 unfold rollup_Window at h
 refine Rets.enter Tryz.func15 z z ?_
 refine (show WC _ _ _ _ [(0, vi a0), (1, vi a1)] _ from ?_)
 refine sq (rg (wY (ya z) z (nl (th (sq (sq (rg (wY (ym z) z (wY (Y.lss_i z z) z ?_)))))))))
 refine wY (ym z) z ?_
 refine WL.cut 3 (σ := Unit) (fun _ w' => w = w') (fun _ => [(0, vi a0), (1, vi a1), (10, vB ((decide (a1 < 1)) || (decide (a0 < 0))))]) ?_ ?_
 ·refine WL.part 7 z (fun d => ?_) (fun d => ?_)
  ·refine WL.gS z z z z (WL.gS z z z z (wY (Y.pick (b := true) z z) z (WL.ren (v' := vB ((decide (a1 < 1)) || (decide (a0 < 0)))) 10 z (congrArg vB (orT d)) ?_)))
   exact nl (At.join () z (.cons z (.cons z (.cons z .nil))))
  ·refine ug z z (wY (ym z) z (ug z z (wY (Y.lss_i z z) z (wY (Y.pick (b := false) z z) z (WL.ren (v' := vB ((decide (a1 < 1)) || (decide (a0 < 0)))) 10 z (congrArg vB (orF d)) ?_)))))
   exact nl (At.join () z (.cons z (.cons z (.cons z .nil))))
 ·rintro _ _ rfl
  refine (show WL _ _ _ _ _ [(0, vi a0), (1, vi a1), (10, vB ((decide (a1 < 1)) || (decide (a0 < 0))))] _ from ?_)
  refine wY (ym z) z ?_
  refine WL.cut 3 (σ := Unit) (fun _ w' => w = w') (fun _ => [(0, vi a0), (1, vi a1), (14, vB (((decide (a1 < 1)) || (decide (a0 < 0))) || (decide (4503599627370496 < a0))))]) ?_ ?_
  ·refine WL.part 11 z (fun e => ?_) (fun e => ?_)
   ·refine WL.gS z z z z (WL.gS z z z z (wY (Y.pick (b := true) z z) z (WL.ren (v' := vB (((decide (a1 < 1)) || (decide (a0 < 0))) || (decide (4503599627370496 < a0)))) 14 z (congrArg vB (orT e)) ?_)))
    exact nl (At.join () z (.cons z (.cons z (.cons z .nil))))
   ·refine ug z z (wY (ym z) z (ug z z (wY (Y.gtr_i z z) z (wY (Y.pick (b := false) z z) z (WL.ren (v' := vB (((decide (a1 < 1)) || (decide (a0 < 0))) || (decide (4503599627370496 < a0)))) 14 z (congrArg vB (orF e)) ?_)))))
    exact nl (At.join () z (.cons z (.cons z (.cons z .nil))))
  ·rintro _ _ rfl
   refine (show WL _ _ _ _ _ [(0, vi a0), (1, vi a1), (14, vB (((decide (a1 < 1)) || (decide (a0 < 0))) || (decide (4503599627370496 < a0))))] _ from ?_)
   refine nl (th ?_)
   rcases cnd h with ⟨j, h⟩ | ⟨j, h⟩
   ·refine WC.condT' z j (sq (rg (wY (ya z) z (nl (th (rt (At.thenR ?_)))))))
    obtain rfl := some1 h
    have l : Stp [] (Lg.O0 (fun _ => False)) w (Lg.O0 (fun _ => False)) w := (sr_ _ _ _)
    exact At.res (.inl z) z (.tmp z .nil) ⟨z, (se_ l z z)⟩
   ·refine WC.condF' z j (sk (th (sq (rg (wY (ym z) z (wY (ym z) z ?_))))))
    obtain ⟨m, h⟩ := chk1 h
    refine wY (Y.quo_i (ne_of_chk m) z z) z ?_
    obtain ⟨C, o, h⟩ := lt1 h
    refine WL.yE (ya z) (congrArg vi o.symm) z (nl (th (rt ?_)))
    obtain rfl := some1 h
    have t : Stp [] (Lg.O0 (fun _ => False)) w (Lg.O0 (fun _ => False)) w := (sr_ _ _ _)
    exact At.res (.inl z) z (.tmp z .nil) ⟨z, (se_ t z z)⟩
theorem c_label_small {a0 : UInt8} {w : World} {r0 : Bool} (h : label_small a0 = some r0) : Rets Tryz.prog 107 [vb a0] w (fun v w' => v = vB r0 ∧ Ext w w') := by
 unfold label_small at h
 refine Rets.enter Tryz.func107 z z ?_
 refine (show WC _ _ _ _ [(0, vb a0)] _ from ?_)
 refine sq (rg (wY (ya z) z (nl (th (sq (rg (wY (ym z) z (wY (Y.geq_b (b := 97) z z) z (wY (ym z) z ?_)))))))))
 refine WL.cut 3 (σ := Unit) (fun _ w' => w = w') (fun _ => [(8, vB ((decide (97 ≤ a0)) && (decide (a0 ≤ 122))))]) ?_ ?_
 ·refine WL.part 5 z (fun d => ?_) (fun d => ?_)
  ·refine ug z z (wY (ym z) z (ug z z (wY (Y.leq_b (b := 122) z z) z (wY (Y.pick (b := true) z z) z (WL.ren (v' := vB ((decide (97 ≤ a0)) && (decide (a0 ≤ 122)))) 8 z (congrArg vB (andT d)) ?_)))))
   exact nl (At.join () z (.cons z .nil))
  ·refine WL.gS z z z z (WL.gS z z z z (wY (Y.pick (b := false) z z) z (WL.ren (v' := vB ((decide (97 ≤ a0)) && (decide (a0 ≤ 122)))) 8 z (congrArg vB (andF d)) ?_)))
   exact nl (At.join () z (.cons z .nil))
 ·rintro _ _ rfl
  refine (show WL _ _ _ _ _ [(8, vB ((decide (97 ≤ a0)) && (decide (a0 ≤ 122))))] _ from ?_)
  obtain ⟨l, e, h⟩ := lt1 h
  refine WL.yE (ya z) (congrArg vB e.symm) z (nl (th (rt ?_)))
  obtain rfl := some1 h
  have j : Stp [] (Lg.O0 (fun _ => False)) w (Lg.O0 (fun _ => False)) w := (sr_ _ _ _)
  exact At.res (.inl z) z (.tmp z .nil) ⟨z, (se_ j z z)⟩
theorem c_label_isName {a0 : List UInt8} {w : World} {r0 : Bool} (h : label_isName a0 = some r0) : Rets Tryz.prog 63 [vs a0] w (fun v w' => v = vB r0 ∧ Ext w w') := by
 unfold label_isName at h
 refine Rets.enter Tryz.func63 z z ?_
 refine (show WC _ _ _ _ [(0, vs a0)] _ from ?_)
 refine sq (rg (wY (ya z) z (nl (th (sq (sq (rg (wY (ym z) z (wY (Y.eql_s (b := []) z z) z ?_)))))))))
 refine wY (ym z) z ?_
 refine WL.cut 4 (σ := Unit) (fun _ w' => w = w') (fun _ => [(0, vs a0), (11, vB ((decide (a0 = [])) || (decide (32 < (a0.length : Int)))))]) ?_ ?_
 ·refine WL.part 7 z (fun D => ?_) (fun D => ?_)
  ·refine WL.gS z z z z (WL.gS z z z z (WL.gS z z z z (wY (Y.pick (b := true) z z) z (WL.ren (v' := vB ((decide (a0 = [])) || (decide (32 < (a0.length : Int))))) 11 z (congrArg vB (orT D)) ?_))))
   exact nl (At.join () z (.cons z (.cons z .nil)))
  ·refine ug z z (wY (ym z) z (ug z z (wY (Y.len_s ty9 z) z (ug z z (wY (Y.gtr_i z z) z (wY (Y.pick (b := false) z z) z (WL.ren (v' := vB ((decide (a0 = [])) || (decide (32 < (a0.length : Int))))) 11 z (congrArg vB (orF D)) ?_)))))))
   exact nl (At.join () z (.cons z (.cons z .nil)))
 ·rintro _ _ rfl
  refine (show WL _ _ _ _ _ [(0, vs a0), (11, vB ((decide (a0 = [])) || (decide (32 < (a0.length : Int)))))] _ from ?_)
  refine wY (ym z) z ?_
  obtain ⟨aF, h, ak⟩ := bnd h
  refine WL.cut 5 (σ := (Bool × Own)) (fun x w' => x.1 = aF ∧ Stp [] (Lg.O0 (fun _ => False)) w x.2 w') (fun x => [(0, vs a0), (17, vB x.1)]) ?_ ?_
  ·rcases cnd h with ⟨F, h⟩ | ⟨F, h⟩
   ·refine WL.ren 12 z (congrArg vB F) (WL.gS z z z z (WL.gS z z z z (WL.gS z z z z (WL.gS z z z z (wY (Y.pick (b := true) z z) z ?_)))))
    exact nl (At.join (σ := (Bool × Own)) (true, (Lg.O0 (fun _ => False))) ⟨some1 h, (sr_ _ _ _)⟩ (.cons z (.cons z .nil)))
   ·refine WL.ren 12 z (congrArg vB F) (ug z z (wY (ym z) z (ug z z ?_)))
    obtain ⟨aG, al, h⟩ := bnd h
    refine wY (Y.index_s ty9 z z al) z (ug z z ?_)
    obtain ⟨aH, am, h⟩ := bnd h
    refine WL.call (vals := [vb aG]) kok107 z z (c_label_small am) ?_
    rintro aS aT ⟨rfl, an⟩
    obtain ⟨aI, aJ, aK, aa⟩ := adoptE (Lg.O0 (fun _ => False)) (fun k => 1) an
    refine ug z z (wY (Y.not z) z (wY (Y.pick (b := false) z z) z ?_))
    exact nl (At.join (σ := (Bool × Own)) ((!aH), aI) ⟨some1 h, (su_ aa z)⟩ (.cons z (.cons z .nil)))
  ·rintro ⟨aL, ae⟩ ao ⟨rfl, o⟩
   replace h := ak
   try dsimp only at h o
   refine (show WL _ _ _ _ _ [(0, vs a0), (17, vB aL)] _ from ?_)
   refine nl (th ?_)
   rcases cnd h with ⟨G, h⟩ | ⟨G, h⟩
   ·refine WC.condT' z G (sq (rg (wY (ya z) z (nl (th (rt (At.thenR ?_)))))))
    obtain rfl := some1 h
    have ap : Stp [] (Lg.O0 (fun _ => False)) w ae ao := (su_ o z)
    exact At.res (.inl z) z (.tmp z .nil) ⟨z, (se_ ap z z)⟩
   ·refine WC.condF' z G (sk (th (sq (sq (rg (wY (ym z) z (WL.s2b (O := ae) ty9 ty51 ty5 z z ?_)))))))
    intro j U V S W
    refine wY (Y.len ty51 z W) z (wY (ym z) z (nl (th (WC.block ?_))))
    obtain ⟨af, h, Z⟩ := flow1 h
    obtain ⟨ah, h⟩ := loop_some h
    refine WC.joinB 0 (σ := Own) (fun x w' => af = .go () ∧ Stp [] U V x w') (fun x => []) ?_ ?_
    ·refine WC.loop (σ := (Int × Own)) (fun x k w' => loopN k (label_isName_lp1 a0) x.1 = some af ∧ Stp [] U V x.2 w') (fun x => [(19, j), (20, vi (a0.length : Int)), (21, vi x.1)]) (0, U) ah (.cons z (.cons z (.cons z .nil))) ⟨h, (sr_ _ _ _)⟩ ?_
     rintro ⟨l, ai⟩ ah aU ⟨h, m⟩
     obtain ⟨aM, aY, rfl, h, H⟩ := rnd1 h
     unfold label_isName_lp1 at h
     try dsimp only at h m
     refine (show WC _ _ _ _ [(19, j), (20, vi (a0.length : Int)), (21, vi l)] _ from ?_)
     refine sq (rg (wY (Y.lss_i z z) z (nl (th (sq ?_)))))
     rcases cnd h with ⟨I, h⟩ | ⟨I, h⟩
     ·refine WC.condT' z I (sk (th (sq (WC.block (sq (rg ?_))))))
      obtain ⟨d, aq, h⟩ := bnd h
      have ar := W.f m z
      obtain ⟨aZ, aQ, aR, aW, au, av, ax, J, ab, ay⟩ := Sl.at2 ar aq
      obtain rfl := ab
      replace J : CellsAt _ _ _ [vb d] := J
      have ac := CAt.frs J ay
      refine wY (Y.indexAddr ty51 ty5 z au z av ax) z (wY (yl ty5 z z ac.at_) z (wY (ya z) z (nl (th (sq (rg (wY (ym z) z ?_)))))))
      obtain ⟨e, az, h⟩ := bnd h
      refine WL.call (vals := [vb d]) kok107 z z (c_label_small az) ?_
      rintro aX t ⟨rfl, aA⟩
      obtain ⟨aj, aN, aO, T⟩ := adoptE ai (fun k => 1) aA
      refine wY (Y.not z) z (wY (ym z) z ?_)
      refine WL.cut 7 (σ := Unit) (fun _ w' => t = w') (fun _ => [(4, vb d), (19, j), (20, vi (a0.length : Int)), (21, vi l), (35, vB ((!e) && ((decide (d < 48)) || (decide (57 < d)))))]) ?_ ?_
      ·refine WL.part 28 z (fun K => ?_) (fun K => ?_)
       ·refine ug z z (wY (ym z) z (ug z z (wY (Y.lss_b (b := 48) z z) z (ug z z (wY (ym z) z ?_)))))
        refine WL.cut 3 (σ := Unit) (fun _ w' => t = w') (fun _ => [(4, vb d), (19, j), (20, vi (a0.length : Int)), (21, vi l), (28, vB true), (29, vb d), (30, vB (decide (d < 48))), (31, vB (decide (d < 48))), (34, vB ((decide (d < 48)) || (decide (57 < d))))]) ?_ ?_
        ·refine WL.part 31 z (fun C => ?_) (fun C => ?_)
         ·refine WL.gS z z z z (WL.gS z z z z (ug z z (wY (Y.pick (b := true) z z) z (WL.ren (v' := vB ((decide (d < 48)) || (decide (57 < d)))) 34 z (congrArg vB (orT C)) (WL.ren 31 z (congrArg vB C.symm) ?_)))))
          exact nl (At.join () z (.cons z (.cons z (.cons z (.cons z (.cons z (.cons z (.cons z (.cons z (.cons z .nil))))))))))
         ·refine ug z z (wY (ym z) z (ug z z (wY (Y.gtr_b (b := 57) z z) z (ug z z (wY (Y.pick (b := false) z z) z (WL.ren (v' := vB ((decide (d < 48)) || (decide (57 < d)))) 34 z (congrArg vB (orF C)) (WL.ren 31 z (congrArg vB C.symm) ?_)))))))
          exact nl (At.join () z (.cons z (.cons z (.cons z (.cons z (.cons z (.cons z (.cons z (.cons z (.cons z .nil))))))))))
        ·rintro _ _ rfl
         refine (show WL _ _ _ _ _ [(4, vb d), (19, j), (20, vi (a0.length : Int)), (21, vi l), (28, vB true), (29, vb d), (30, vB (decide (d < 48))), (31, vB (decide (d < 48))), (34, vB ((decide (d < 48)) || (decide (57 < d))))] _ from ?_)
         refine wY (Y.pick (b := true) z z) z (WL.ren (v' := vB ((!e) && ((decide (d < 48)) || (decide (57 < d))))) 35 z (congrArg vB (andT K)) ?_)
         exact nl (At.join () z (.cons z (.cons z (.cons z (.cons z (.cons z .nil))))))
       ·refine WL.gS z z z z (WL.gS z z z z (WL.gS z z z z (WL.gS z z z z (WL.gS z z z z (WL.gS z z z z (wY (Y.pick (b := false) z z) z (WL.ren (v' := vB ((!e) && ((decide (d < 48)) || (decide (57 < d))))) 35 z (congrArg vB (andF K)) ?_)))))))
        exact nl (At.join () z (.cons z (.cons z (.cons z (.cons z (.cons z .nil))))))
      ·rintro _ _ rfl
       refine (show WL _ _ _ _ _ [(4, vb d), (19, j), (20, vi (a0.length : Int)), (21, vi l), (35, vB ((!e) && ((decide (d < 48)) || (decide (57 < d)))))] _ from ?_)
       refine wY (ym z) z ?_
       refine WL.cut 3 (σ := Unit) (fun _ w' => t = w') (fun _ => [(4, vb d), (19, j), (20, vi (a0.length : Int)), (21, vi l), (39, vB (((!e) && ((decide (d < 48)) || (decide (57 < d)))) && (!decide (d = 95))))]) ?_ ?_
       ·refine WL.part 36 z (fun L => ?_) (fun L => ?_)
        ·refine ug z z (wY (ym z) z (ug z z (wY (Y.neq_b (b := 95) z z) z (wY (Y.pick (b := true) z z) z (WL.ren (v' := vB (((!e) && ((decide (d < 48)) || (decide (57 < d)))) && (!decide (d = 95)))) 39 z (congrArg vB (andT L)) ?_)))))
         exact nl (At.join () z (.cons z (.cons z (.cons z (.cons z (.cons z .nil))))))
        ·refine WL.gS z z z z (WL.gS z z z z (wY (Y.pick (b := false) z z) z (WL.ren (v' := vB (((!e) && ((decide (d < 48)) || (decide (57 < d)))) && (!decide (d = 95)))) 39 z (congrArg vB (andF L)) ?_)))
         exact nl (At.join () z (.cons z (.cons z (.cons z (.cons z (.cons z .nil))))))
       ·rintro _ _ rfl
        refine (show WL _ _ _ _ _ [(4, vb d), (19, j), (20, vi (a0.length : Int)), (21, vi l), (39, vB (((!e) && ((decide (d < 48)) || (decide (57 < d)))) && (!decide (d = 95))))] _ from ?_)
        refine wY (ym z) z ?_
        refine WL.cut 3 (σ := Unit) (fun _ w' => t = w') (fun _ => [(19, j), (20, vi (a0.length : Int)), (21, vi l), (43, vB ((((!e) && ((decide (d < 48)) || (decide (57 < d)))) && (!decide (d = 95))) && (!decide (d = 46))))]) ?_ ?_
        ·refine WL.part 40 z (fun M => ?_) (fun M => ?_)
         ·refine ug z z (wY (ym z) z (ug z z (wY (Y.neq_b (b := 46) z z) z (wY (Y.pick (b := true) z z) z (WL.ren (v' := vB ((((!e) && ((decide (d < 48)) || (decide (57 < d)))) && (!decide (d = 95))) && (!decide (d = 46)))) 43 z (congrArg vB (andT M)) ?_)))))
          exact nl (At.join () z (.cons z (.cons z (.cons z (.cons z .nil)))))
         ·refine WL.gS z z z z (WL.gS z z z z (wY (Y.pick (b := false) z z) z (WL.ren (v' := vB ((((!e) && ((decide (d < 48)) || (decide (57 < d)))) && (!decide (d = 95))) && (!decide (d = 46)))) 43 z (congrArg vB (andF M)) ?_)))
          exact nl (At.join () z (.cons z (.cons z (.cons z (.cons z .nil)))))
        ·rintro _ _ rfl
         refine (show WL _ _ _ _ _ [(19, j), (20, vi (a0.length : Int)), (21, vi l), (43, vB ((((!e) && ((decide (d < 48)) || (decide (57 < d)))) && (!decide (d = 95))) && (!decide (d = 46))))] _ from ?_)
         refine nl (th ?_)
         rcases cnd h with ⟨Q, h⟩ | ⟨Q, h⟩
         ·refine WC.condT' z Q (sq (rg (wY (ya z) z (nl (th (rt (At.inBlockR (At.thenR (At.loopR ?_)))))))))
          have h := outr1 h H Z
          refine At.joinBR (At.inBlockR (At.thenR ?_))
          obtain rfl := some1 h
          have aC : Stp [] (Lg.O0 (fun _ => False)) w aj t := (tr_ (su_ o z) (tr_ (su_ S z) (tr_ (su_ m z) (su_ T z))))
          exact At.res (.inl z) z (.tmp z .nil) ⟨z, (se_ aC z z)⟩
         ·refine WC.condF' z Q (sk (At.inBlock (th (rg (wY (Y.add_i z z) z (wY (ym z) z (nl ?_)))))))
          exact At.round (w64 (l + 1), aj) aM (Nat.lt_succ_self _) ⟨next1 h H, (tr_ (su_ m z) (su_ T z))⟩ (.cons z (.cons z (.cons z .nil)))
     ·refine WC.condF' z I (WC.exit (At.thenX (At.loopX ?_)))
      exact At.hitB (σ := Own) ai ⟨brk1 h H, (su_ m z)⟩ .nil
    ·rintro aP aD ⟨rfl, ad⟩
     replace h := flowK_go Z
     refine (show At _ _ _ [] _ from ?_)
     refine At.inBlockHit (th (sq (rg (wY (ya z) z (nl (th (rt ?_)))))))
     obtain rfl := some1 h
     have aE : Stp [] (Lg.O0 (fun _ => False)) w aP aD := (tr_ (su_ o z) (tr_ (su_ S z) (su_ ad z)))
     exact At.res (.inl z) z (.tmp z .nil) ⟨z, (se_ aE z z)⟩
theorem c_label_isValue {a0 : List UInt8} {w : World} {r0 : Bool} (h : label_isValue a0 = some r0) : Rets Tryz.prog 64 [vs a0] w (fun v w' => v = vB r0 ∧ Ext w w') := by
 unfold label_isValue at h
 refine Rets.enter Tryz.func64 z z ?_
 refine (show WC _ _ _ _ [(0, vs a0)] _ from ?_)
 refine sq (rg (wY (ya z) z (nl (th (sq (sq (rg (wY (ym z) z (wY (Y.eql_s (b := []) z z) z ?_)))))))))
 refine wY (ym z) z ?_
 refine WL.cut 4 (σ := Unit) (fun _ w' => w = w') (fun _ => [(0, vs a0), (11, vB ((decide (a0 = [])) || (decide (32 < (a0.length : Int)))))]) ?_ ?_
 ·refine WL.part 7 z (fun l => ?_) (fun l => ?_)
  ·refine WL.gS z z z z (WL.gS z z z z (WL.gS z z z z (wY (Y.pick (b := true) z z) z (WL.ren (v' := vB ((decide (a0 = [])) || (decide (32 < (a0.length : Int))))) 11 z (congrArg vB (orT l)) ?_))))
   exact nl (At.join () z (.cons z (.cons z .nil)))
  ·refine ug z z (wY (ym z) z (ug z z (wY (Y.len_s ty9 z) z (ug z z (wY (Y.gtr_i z z) z (wY (Y.pick (b := false) z z) z (WL.ren (v' := vB ((decide (a0 = [])) || (decide (32 < (a0.length : Int))))) 11 z (congrArg vB (orF l)) ?_)))))))
   exact nl (At.join () z (.cons z (.cons z .nil)))
 ·rintro _ _ rfl
  refine (show WL _ _ _ _ _ [(0, vs a0), (11, vB ((decide (a0 = [])) || (decide (32 < (a0.length : Int)))))] _ from ?_)
  refine nl (th ?_)
  rcases cnd h with ⟨m, h⟩ | ⟨m, h⟩
  ·refine WC.condT' z m (sq (rg (wY (ya z) z (nl (th (rt (At.thenR ?_)))))))
   obtain rfl := some1 h
   have W : Stp [] (Lg.O0 (fun _ => False)) w (Lg.O0 (fun _ => False)) w := (sr_ _ _ _)
   exact At.res (.inl z) z (.tmp z .nil) ⟨z, (se_ W z z)⟩
  ·refine WC.condF' z m (sk (th (sq (sq (rg (wY (ym z) z (WL.s2b (O := (Lg.O0 (fun _ => False))) ty9 ty51 ty5 z z ?_)))))))
   intro e T d J K
   refine wY (Y.len ty51 z K) z (wY (ym z) z (nl (th (WC.block ?_))))
   obtain ⟨U, h, L⟩ := flow1 h
   obtain ⟨V, h⟩ := loop_some h
   refine WC.joinB 0 (σ := Unit) (fun x w' => U = .go () ∧ d = w') (fun x => []) ?_ ?_
   ·refine WC.loop (σ := Int) (fun x k w' => loopN k (label_isValue_lp1 a0) x = some U ∧ d = w') (fun x => [(13, e), (14, vi (a0.length : Int)), (15, vi x)]) 0 V (.cons z (.cons z (.cons z .nil))) ⟨h, z⟩ ?_
    rintro j V _ ⟨h, rfl⟩
    obtain ⟨an, aE, rfl, h, o⟩ := rnd1 h
    unfold label_isValue_lp1 at h
    try dsimp only at h
    refine (show WC _ _ _ _ [(13, e), (14, vi (a0.length : Int)), (15, vi j)] _ from ?_)
    refine sq (rg (wY (Y.lss_i z z) z (nl (th (sq ?_)))))
    rcases cnd h with ⟨t, h⟩ | ⟨t, h⟩
    ·refine WC.condT' z t (sk (th (sq (WC.block (sq (rg ?_))))))
     obtain ⟨ao, Z, h⟩ := bnd h
     obtain ⟨aF, aA, aC, aD, aa, ab, ac, C, Q, ad⟩ := Sl.at2 K Z
     obtain rfl := Q
     replace C : CellsAt _ _ _ [vb ao] := C
     have S := CAt.frs C ad
     refine wY (Y.indexAddr ty51 ty5 z aa z ab ac) z (wY (yl ty5 z z S.at_) z (wY (ya z) z (nl (th ?_))))
     obtain ⟨ap, h, M⟩ := flow1 h
     refine WC.join (σ := Unit) (fun x w' => ap = .go () ∧ d = w') (fun x => [(13, e), (14, vi (a0.length : Int)), (15, vi j)]) ?_ ?_
     ·refine WC.block (sq ?_)
      obtain ⟨aq, h, ae⟩ := bnd h
      refine WC.join (σ := Bool) (fun x w' => x = aq ∧ d = w') (fun x => [(13, e), (14, vi (a0.length : Int)), (15, vi j), (19, vB x)]) ?_ ?_
      ·refine sq (rg (wY (ym z) z (wY (Y.lss_b (b := 33) z z) z ?_)))
       obtain ⟨ar, af, h⟩ := lt1 h
       refine WL.yE (ya z) (congrArg vB af.symm) z (nl (th ?_))
       rcases cnd h with ⟨D, h⟩ | ⟨D, h⟩
       ·refine WC.condT' z D (sk ?_)
        exact At.join (σ := Bool) ar ⟨some1 h, z⟩ (.cons z (.cons z (.cons z (.cons z .nil))))
       ·refine WC.condF' z D (sq (rg (wY (ym z) z (wY (Y.gtr_b (b := 126) z z) z ?_))))
        obtain ⟨au, ah, h⟩ := lt1 h
        refine WL.yE (ya z) (congrArg vB ah.symm) z (nl (th ?_))
        rcases cnd h with ⟨F, h⟩ | ⟨F, h⟩
        ·refine WC.condT' z F (sk ?_)
         exact At.join (σ := Bool) au ⟨some1 h, z⟩ (.cons z (.cons z (.cons z (.cons z .nil))))
        ·refine WC.condF' z F (sq (rg (wY (ym z) z (wY (Y.eql_b (b := 61) z z) z ?_))))
         obtain ⟨av, ai, h⟩ := lt1 h
         refine WL.yE (ya z) (congrArg vB ai.symm) z (nl (th ?_))
         rcases cnd h with ⟨G, h⟩ | ⟨G, h⟩
         ·refine WC.condT' z G (sk ?_)
          exact At.join (σ := Bool) av ⟨some1 h, z⟩ (.cons z (.cons z (.cons z (.cons z .nil))))
         ·refine WC.condF' z G (sq (rg (wY (ym z) z (wY (Y.eql_b (b := 59) z z) z ?_))))
          obtain ⟨ax, aj, h⟩ := lt1 h
          refine WL.yE (ya z) (congrArg vB aj.symm) z (nl (th ?_))
          rcases cnd h with ⟨H, h⟩ | ⟨H, h⟩
          ·refine WC.condT' z H (sk ?_)
           exact At.join (σ := Bool) ax ⟨some1 h, z⟩ (.cons z (.cons z (.cons z (.cons z .nil))))
          ·refine WC.condF' z H (rg (wY (ym z) z (wY (Y.eql_b (b := 44) z z) z ?_)))
           obtain ⟨ay, ak, h⟩ := lt1 h
           refine WL.yE (ya z) (congrArg vB ak.symm) z (nl ?_)
           exact At.join (σ := Bool) ay ⟨some1 h, z⟩ (.cons z (.cons z (.cons z (.cons z .nil))))
      ·rintro az _ ⟨rfl, rfl⟩
       replace h := ae
       try dsimp only at h
       refine (show At _ _ _ [(13, e), (14, vi (a0.length : Int)), (15, vi j), (19, vB az)] _ from ?_)
       refine th ?_
       rcases cnd h with ⟨I, h⟩ | ⟨I, h⟩
       ·refine WC.condT' z I (sq (rg (wY (ya z) z (nl (th (rt (At.inBlockR ?_)))))))
        have h := outs1 h M
        refine At.joinR (At.inBlockR (At.thenR (At.loopR ?_)))
        have h := outr1 h o L
        refine At.joinBR (At.inBlockR (At.thenR ?_))
        obtain rfl := some1 h
        have al : Stp [] (Lg.O0 (fun _ => False)) w T d := (su_ J z)
        exact At.res (.inl z) z (.tmp z .nil) ⟨z, (se_ al z z)⟩
       ·refine WC.condF' z I (sk (At.inBlock ?_))
        exact At.join (σ := Unit) () ⟨go2 h, z⟩ (.cons z (.cons z (.cons z .nil)))
     ·rintro _ _ ⟨rfl, rfl⟩
      replace h := flowK_go M
      refine (show At _ _ _ [(13, e), (14, vi (a0.length : Int)), (15, vi j)] _ from ?_)
      refine At.inBlock (th (rg (wY (Y.add_i z z) z (wY (ym z) z (nl ?_)))))
      exact At.round (w64 (j + 1)) an (Nat.lt_succ_self _) ⟨next1 h o, z⟩ (.cons z (.cons z (.cons z .nil)))
    ·refine WC.condF' z t (WC.exit (At.thenX (At.loopX ?_)))
     exact At.hitB (σ := Unit) () ⟨brk1 h o, z⟩ .nil
   ·rintro _ _ ⟨rfl, rfl⟩
    replace h := flowK_go L
    refine (show At _ _ _ [] _ from ?_)
    refine At.inBlockHit (th (sq (rg (wY (ya z) z (nl (th (rt ?_)))))))
    obtain rfl := some1 h
    have am : Stp [] (Lg.O0 (fun _ => False)) w T d := (su_ J z)
    exact At.res (.inl z) z (.tmp z .nil) ⟨z, (se_ am z z)⟩
theorem c_label_Check {A : Nat → Prop} {a0 : List UInt8} {a1 : List api_Pair} {v1 : Value} {w : World} (hs1 : Sl rep_api_Pair w A v1 a1) {r0 : Int} (h : label_Check a0 a1 = some r0) : Rets Tryz.prog 32 [vs a0, v1] w (fun v w' => v = vi r0 ∧ Ext w w') := by
 unfold label_Check at h
 refine Rets.enter Tryz.func32 z z ?_
 have a7 : Sl rep_api_Pair w (imm (Lg.O0 A)) v1 a1 := (Sl.start hs1)
 refine (show WC _ _ _ _ [(0, vs a0), (1, v1)] _ from ?_)
 refine sq (rg (wY (ya z) z (nl (th (sq (sq (rg (wY (ym z) z ?_))))))))
 obtain ⟨cm, a8, h⟩ := bnd h
 refine WL.call (vals := [vs a0]) kok63 z z (c_label_isName a8) ?_
 rintro cb M ⟨rfl, a9⟩
 obtain ⟨Z, bM, bO, l⟩ := adoptE (Lg.O0 A) (fun k => 1) a9
 refine wY (Y.not z) z (nl (th ?_))
 rcases cnd h with ⟨ac, h⟩ | ⟨ac, h⟩
 ·refine WC.condT' z ac (sq (rg (wY (ya z) z (nl (th (rt (At.thenR ?_)))))))
  obtain rfl := some1 h
  have ba : Stp [] (Lg.O0 A) w Z M := (su_ l z)
  exact At.res (.inl z) z (.tmp z .nil) ⟨z, (se_ ba z z)⟩
 ·refine WC.condF' z ac (sk (th (sq (sq (rg (wY (ym z) z ?_))))))
  have ad := a7.i l z z
  refine wY (Y.len ty32 z ad) z (wY (Y.gtr_i z z) z (nl (th ?_)))
  rcases cnd h with ⟨ae, h⟩ | ⟨ae, h⟩
  ·refine WC.condT' z ae (sq (rg (wY (ya z) z (nl (th (rt (At.thenR ?_)))))))
   obtain rfl := some1 h
   have bb : Stp [] (Lg.O0 A) w Z M := (su_ l z)
   exact At.res (.inl z) z (.tmp z .nil) ⟨z, (se_ bb z z)⟩
  ·refine WC.condF' z ae (sk (th (sq (sq (rg (wY (ym z) z (wY (Y.len ty32 z ad) z (wY (ym z) z (nl ?_)))))))))
   refine th (WC.block ?_)
   obtain ⟨a3, h, af⟩ := flow1 h
   obtain ⟨a4, h⟩ := loop_some h
   refine WC.joinB 0 (σ := Own) (fun x w' => a3 = .go () ∧ Stp [11] Z M x w') (fun x => []) ?_ ?_
   ·refine WC.loop (σ := (Int × Own)) (fun x k w' => loopN k (label_Check_lp1 a1) x.1 = some a3 ∧ Stp [11] Z M x.2 w') (fun x => [(1, v1), (13, v1), (14, vi (a1.length : Int)), (15, vi x.1)]) (0, Z) a4 (.cons z (.cons z (.cons z (.cons z .nil)))) ⟨h, (sr_ _ _ _)⟩ ?_
    rintro ⟨G, a5⟩ a4 cc ⟨h, m⟩
    obtain ⟨bP, cn, rfl, h, Q⟩ := rnd1 h
    unfold label_Check_lp1 at h
    try dsimp only at h m
    refine (show WC _ _ _ _ [(1, v1), (13, v1), (14, vi (a1.length : Int)), (15, vi G)] _ from ?_)
    refine sq (rg (wY (Y.lss_i z z) z (nl (th (sq ?_)))))
    rcases cnd h with ⟨ah, h⟩ | ⟨ah, h⟩
    ·refine WC.condT' z ah (sk (th (sq (WC.block (sq (rg (wY (ym z) z ?_)))))))
     obtain ⟨C, bc, h⟩ := bnd h
     have ap := ad.i m z z
     obtain ⟨co, b4, b5, cd, bd, bf, bg, ai, aD, bh⟩ := Sl.at2 ap bc
     obtain ⟨_, _, rfl, rfl, rfl⟩ := aD
     replace ai : CellsAt _ _ _ [vs C.Key, vs C.Val] := ai
     have aE := CAt.imm ai bh
     refine wY (Y.indexAddr ty32 ty67 z bd z bf bg) z (wY (yL ty67 z z aE.at_ z) z (WL.alloc (O := a5) 11 [vs [], vs []] ty67 z z ?_))
     intro e bQ ce D bi
     refine wY (ya z) z (WL.store (v := ag [vs C.Key, vs C.Val]) (cells' := [vs C.Key, vs C.Val]) ty67 z z bi z (le_ z) z z ?_)
     intro cf F aj
     refine nl (th (sq (sq (rg (wY (yf fo67_0 z) z (wY (yl ty9 z z (aj.cell 0 _ z)) z ?_))))))
     obtain ⟨cq, bj, h⟩ := bnd h
     refine WL.call (vals := [vs C.Key]) kok63 z z (c_label_isName bj) ?_
     rintro cg bk ⟨rfl, bl⟩
     obtain ⟨aq, bR, bS, o⟩ := adoptE bQ (fun k => 1) bl
     refine wY (Y.not z) z (wY (ym z) z ?_)
     obtain ⟨bT, h, bm⟩ := bnd h
     refine WL.cut 5 (σ := (Bool × Own)) (fun x w' => x.1 = bT ∧ Stp [] aq bk x.2 w') (fun x => [(1, v1), (5, vi G), (6, pt e 0), (13, v1), (14, vi (a1.length : Int)), (15, vi G), (29, vB x.1)]) ?_ ?_
     ·rcases cnd h with ⟨ak, h⟩ | ⟨ak, h⟩
      ·refine WL.ren 24 z (congrArg vB ak) (WL.gS z z z z (WL.gS z z z z (WL.gS z z z z (WL.gS z z z z (wY (Y.pick (b := true) z z) z ?_)))))
       exact nl (At.join (σ := (Bool × Own)) (true, aq) ⟨some1 h, (sr_ _ _ _)⟩ (.cons z (.cons z (.cons z (.cons z (.cons z (.cons z (.cons z .nil))))))))
      ·refine WL.ren 24 z (congrArg vB ak) (ug z z (wY (yf fo67_1 z) z (ug z z ?_)))
       have bn := aj.st o z
       refine wY (yl ty9 z z (bn.cell 1 _ z)) z (ug z z ?_)
       obtain ⟨bU, bo, h⟩ := bnd h
       refine WL.call (vals := [vs C.Val]) kok64 z z (c_label_isValue bo) ?_
       rintro ch ci ⟨rfl, bp⟩
       obtain ⟨bW, bX, bY, aF⟩ := adoptE aq (fun k => 1) bp
       refine ug z z (wY (Y.not z) z (wY (Y.pick (b := false) z z) z ?_))
       exact nl (At.join (σ := (Bool × Own)) ((!bU), bW) ⟨some1 h, (su_ aF z)⟩ (.cons z (.cons z (.cons z (.cons z (.cons z (.cons z (.cons z .nil))))))))
     ·rintro ⟨bZ, K⟩ H ⟨rfl, t⟩
      replace h := bm
      try dsimp only at h t
      refine (show WL _ _ _ _ _ [(1, v1), (5, vi G), (6, pt e 0), (13, v1), (14, vi (a1.length : Int)), (15, vi G), (29, vB bZ)] _ from ?_)
      refine nl (th ?_)
      rcases cnd h with ⟨al, h⟩ | ⟨al, h⟩
      ·refine WC.condT' z al (sq (rg (wY (ya z) z (nl (th (rt (At.thenR (At.inBlockR (At.thenR ?_)))))))))
       refine At.loopR ?_
       have h := outr1 h Q af
       refine At.joinBR (At.inBlockR (At.thenR ?_))
       obtain rfl := some1 h
       have bq : Stp [11] (Lg.O0 A) w K H := (tr_ (su_ l z) (tr_ (su_ m z) (tr_ (su_ D z) (tr_ (su_ F z) (tr_ (su_ o z) (su_ t z))))))
       exact At.res (.inl z) z (.tmp z .nil) ⟨z, (se_ bq z z)⟩
      ·refine WC.condF' z al (sk (th (sq (rg (wY (ym z) z (wY (ym z) z ?_))))))
       obtain ⟨ar, br, h⟩ := bnd h
       have bw := (((ap.i D z z).i F z z).i o z z).i t z z
       obtain ⟨L, bx, au⟩ := Sl.slice (ρ := [(30, v1), (31, vi G)]) (x := (.tmp 30)) (lo := none) (hi := (some (.tmp 31))) ty32 ty67 rfl rfl rfl bw br
       refine wY (Y.sub (.cons z (.cons z .nil)) (bx _ _)) z (wY (Y.mkfunc (fv := []) (cv := [pt e 0]) z z) z ?_)
       obtain ⟨bz, h, aG⟩ := bnd h
       refine WL.callJ (vals := [L, Value.func (.func 66) (List.toArray []) (List.toArray [pt e 0])]) (σ := (Bool × Own)) (fun x w' => x.1 = bz ∧ Stp [] K H x.2 w') (fun x => vB x.1) kok65 z z ?_ ?_
       ·refine Rets.enter Tryz.func65 z z ?_
        refine (show WC _ _ _ _ [(0, L), (1, Value.func (.func 66) (List.toArray []) (List.toArray [pt e 0]))] _ from ?_)
        refine sq (rg (wY (ya z) z (nl (th (sq (rg (wY (ym z) z (wY (ym z) z ?_))))))))
        obtain ⟨bA, h, aH⟩ := bnd h
        refine WL.callJ (vals := [L, Value.func (.func 66) (List.toArray []) (List.toArray [pt e 0])]) (σ := (Int × Own)) (fun x w' => x.1 = bA ∧ Stp [] K H x.2 w') (fun x => vi x.1) kok108 z z ?_ ?_
        ·refine Rets.enter Tryz.func108 z z ?_
         refine (show WC _ _ _ _ [(0, L), (1, Value.func (.func 66) (List.toArray []) (List.toArray [pt e 0]))] _ from ?_)
         refine sq (rg (wY (ya z) z (nl (th (sq (sq (rg (wY (ym z) z (wY (Y.len ty32 z au) z ?_)))))))))
         refine wY (ym z) z (nl (th (WC.block ?_)))
         obtain ⟨av, h, ao⟩ := flow1 h
         obtain ⟨ax, h⟩ := loop_some h
         refine WC.joinB 0 (σ := Own) (fun x w' => av = .go () ∧ Stp [] K H x w') (fun x => []) ?_ ?_
         ·refine WC.loop (σ := (Int × Own)) (fun x k w' => loopN k (label_Check_lp2 C ar) x.1 = some av ∧ Stp [] K H x.2 w') (fun x => [(0, L), (1, Value.func (.func 66) (List.toArray []) (List.toArray [pt e 0])), (7, vi (ar.length : Int)), (8, vi x.1)]) (0, K) ax (.cons z (.cons z (.cons z (.cons z .nil)))) ⟨h, (sr_ _ _ _)⟩ ?_
          rintro ⟨am, an⟩ ax aI ⟨h, d⟩
          obtain ⟨bB, cj, rfl, h, S⟩ := rnd1 h
          unfold label_Check_lp2 at h
          try dsimp only at h d
          refine (show WC _ _ _ _ [(0, L), (1, Value.func (.func 66) (List.toArray []) (List.toArray [pt e 0])), (7, vi (ar.length : Int)), (8, vi am)] _ from ?_)
          refine sq (rg (wY (Y.lss_i z z) z (nl (th (sq ?_)))))
          rcases cnd h with ⟨T, h⟩ | ⟨T, h⟩
          ·refine WC.condT' z T (sk (th (sq (WC.block (sq (rg (wY (ym z) z (wY (ya z) z (nl ?_)))))))))
           refine th (sq (rg (wY (ym z) z (wY (ym z) z (wY (ym z) z ?_)))))
           obtain ⟨j, aJ, h⟩ := bnd h
           have aK := au.i d z z
           obtain ⟨ck, b0, b1, b6, aL, aM, aN, U, ay, aO⟩ := Sl.at2 aK aJ
           obtain ⟨_, _, rfl, rfl, rfl⟩ := ay
           replace U : CellsAt _ _ _ [vs j.Key, vs j.Val] := U
           have az := CAt.imm U aO
           refine wY (Y.indexAddr ty32 ty67 z aL z aM aN) z (wY (yL ty67 z z az.at_ z) z ?_)
           obtain ⟨bC, h, aP⟩ := bnd h
           refine WL.callV (fv := []) (cv := [pt e 0]) (vals := [ag [vs j.Key, vs j.Val]]) (σ := (Bool × Own)) (fun x w' => x.1 = bC ∧ Stp [] an aI x.2 w') (fun x => vB x.1) kok66 z z z ?_ ?_
           ·refine Rets.enter Tryz.func66 z z ?_
            refine (show WC _ _ _ _ [(0, ag [vs j.Key, vs j.Val]), (1, pt e 0)] _ from ?_)
            refine sq (rg (WL.box (O := an) 12 [vs j.Key, vs j.Val] z z z ?_))
            intro cl bD b7 aa aQ
            refine wY (ya z) z (nl (th (sq (rg (wY (yf fo67_0 z) z (wY (yl ty9 z z (aQ.cell 0 _ z)) z (wY (yf fo67_0 z) z ?_)))))))
            have aU := (((aj.st o z).st t z).st d z).st aa z
            refine wY (yl ty9 z z (aU.cell 0 _ z)) z (wY (Y.eql_s z z) z ?_)
            obtain ⟨bE, aW, h⟩ := lt1 h
            refine WL.yE (ya z) (congrArg vB aW.symm) z (nl (th (rt ?_)))
            exact At.res (.inl z) z (.tmp z .nil) ⟨(bE, bD), ⟨some1 h, (su_ aa z)⟩, z⟩
           ·rintro ⟨bF, aA⟩ b8 ⟨rfl, I⟩
            replace h := aP
            try dsimp only at h I
            refine (show WL _ _ _ _ _ ((16, vB bF) :: _) _ from ?_)
            refine nl (th ?_)
            rcases cnd h with ⟨V, h⟩ | ⟨V, h⟩
            ·refine WC.condT' z V (sq (rg (wY (ym z) z (wY (ya z) z (nl (th (rt (At.inBlockR (At.thenR ?_)))))))))
             refine At.loopR ?_
             have h := outr1 h S ao
             refine At.joinBR (At.inBlockR (At.thenR ?_))
             exact At.res (.inl z) z (.tmp z .nil) ⟨(am, aA), ⟨some1 h, (tr_ (su_ d z) (su_ I z))⟩, z⟩
            ·refine WC.condF' z V (sk (At.inBlock (th (rg (wY (Y.add_i z z) z (wY (ym z) z (nl ?_)))))))
             exact At.round (w64 (am + 1), aA) bB (Nat.lt_succ_self _) ⟨next1 h S, (tr_ (su_ d z) (su_ I z))⟩ (.cons z (.cons z (.cons z (.cons z .nil))))
          ·refine WC.condF' z T (WC.exit (At.thenX (At.loopX ?_)))
           exact At.hitB (σ := Own) an ⟨brk1 h S, (su_ d z)⟩ .nil
         ·rintro bG b9 ⟨rfl, aC⟩
          replace h := flowK_go ao
          refine (show At _ _ _ [] _ from ?_)
          refine At.inBlockHit (th (sq (rg (wY (ya z) z (nl (th (rt ?_)))))))
          exact At.res (.inl z) z (.tmp z .nil) ⟨((-1), bG), ⟨some1 h, (su_ aC z)⟩, z⟩
        ·rintro ⟨bH, bI⟩ ca ⟨rfl, ab⟩
         replace h := aH
         try dsimp only at h ab
         refine (show WL _ _ _ _ _ ((7, vi bH) :: _) _ from ?_)
         refine wY (Y.geq_i z z) z ?_
         obtain ⟨bJ, aX, h⟩ := lt1 h
         refine WL.yE (ya z) (congrArg vB aX.symm) z (nl (th (rt ?_)))
         exact At.res (.inl z) z (.tmp z .nil) ⟨(bJ, bI), ⟨some1 h, (su_ ab z)⟩, z⟩
       ·rintro ⟨b2, a6⟩ bK ⟨rfl, J⟩
        replace h := aG
        try dsimp only at h J
        refine (show WL _ _ _ _ _ ((34, vB b2) :: _) _ from ?_)
        refine nl (th ?_)
        rcases cnd h with ⟨W, h⟩ | ⟨W, h⟩
        ·refine WC.condT' z W (sq (rg (wY (ya z) z (nl (th (rt (At.inBlockR (At.thenR (At.loopR ?_)))))))))
         have h := outr1 h Q af
         refine At.joinBR (At.inBlockR (At.thenR ?_))
         obtain rfl := some1 h
         have aY : Stp [11] (Lg.O0 A) w a6 bK := (tr_ (su_ l z) (tr_ (su_ m z) (tr_ (su_ D z) (tr_ (su_ F z) (tr_ (su_ o z) (tr_ (su_ t z) (su_ J z)))))))
         exact At.res (.inl z) z (.tmp z .nil) ⟨z, (se_ aY z z)⟩
        ·refine WC.condF' z W (sk (At.inBlock (th (rg (wY (Y.add_i z z) z (wY (ym z) z (nl ?_)))))))
         exact At.round (w64 (G + 1), a6) bP (Nat.lt_succ_self _) ⟨next1 h Q, (tr_ (su_ m z) (tr_ (su_ D z) (tr_ (su_ F z) (tr_ (su_ o z) (tr_ (su_ t z) (su_ J z))))))⟩ (.cons z (.cons z (.cons z (.cons z .nil))))
    ·refine WC.condF' z ah (WC.exit (At.thenX (At.loopX ?_)))
     exact At.hitB (σ := Own) a5 ⟨brk1 h Q, (su_ m z)⟩ .nil
   ·rintro b3 bL ⟨rfl, aZ⟩
    replace h := flowK_go af
    refine (show At _ _ _ [] _ from ?_)
    refine At.inBlockHit (th (sq (rg (wY (ya z) z (nl (th (rt ?_)))))))
    obtain rfl := some1 h
    have a2 : Stp [11] (Lg.O0 A) w b3 bL := (tr_ (su_ l z) (su_ aZ z))
    exact At.res (.inl z) z (.tmp z .nil) ⟨z, (se_ a2 z z)⟩
theorem c_point_kinds {A : Nat → Prop} {v0_1 : Value} {v0_13 : Value} {v0_15 : Value} {a0 : api_Point} {w : World} (hs0_1 : Sl rep_api_Pair w A v0_1 a0.Attrs) (hs0_13 : Sl Rep.u w A v0_13 a0.Hist.Pos.Counts) (hs0_15 : Sl Rep.u w A v0_15 a0.Hist.Neg.Counts) {r0 : Bool} (h : point_kinds a0 = some r0) : Rets Tryz.prog 33 [ag (cp a0 v0_1 v0_13 v0_15)] w (fun v w' => v = vB r0 ∧ Ext w w') := by
 unfold point_kinds at h
 refine Rets.enter Tryz.func33 z z ?_
 have H : Sl rep_api_Pair w (imm (Lg.O0 A)) v0_1 a0.Attrs := (Sl.start hs0_1)
 have I : Sl Rep.u w (imm (Lg.O0 A)) v0_13 a0.Hist.Pos.Counts := (Sl.start hs0_13)
 have J : Sl Rep.u w (imm (Lg.O0 A)) v0_15 a0.Hist.Neg.Counts := (Sl.start hs0_15)
 refine (show WC _ _ _ _ [(0, ag (cp a0 v0_1 v0_13 v0_15))] _ from ?_)
 refine sq (rg ?_)
 have K := h
 obtain ⟨ae, af, ah, rfl⟩ := H.shape
 have h := K
 have L := h
 obtain ⟨ai, aj, ak, rfl⟩ := I.shape
 have h := L
 have M := h
 obtain ⟨al, am, an, rfl⟩ := J.shape
 have h := M
 refine WL.box (O := (Lg.O0 A)) 11 (cp a0 (vl ae af ah) (vl ai aj ak) (vl al am an)) z z z ?_
 intro G F d e j
 refine wY (ya z) z (nl (th (sq (sq (rg (wY (yf fo40_2 z) z (wY (yl ty3 z z (j.cell 2 _ z)) z (nl (th ?_)))))))))
 refine WC.block (sq (rg (wY (Y.eql_i z z) z ?_)))
 obtain ⟨ax, Q, h⟩ := lt1 h
 refine WL.yE (ya z) (congrArg vB Q.symm) z (nl (th ?_))
 rcases cnd h with ⟨l, h⟩ | ⟨l, h⟩
 ·refine WC.condT' z l (sq (rg (wY (yf fo40_3 z) z (wY (yl ty3 z z (j.cell 3 _ z)) z (wY (Y.eql_i z z) z ?_)))))
  obtain ⟨ay, S, h⟩ := lt1 h
  refine WL.yE (ya z) (congrArg vB S.symm) z (nl (th (rt (At.inBlockR (At.thenR ?_)))))
  obtain rfl := some1 h
  have T : Stp [] (Lg.O0 A) w F d := (su_ e z)
  exact At.res (.inl z) z (.tmp z .nil) ⟨z, (se_ T z z)⟩
 ·refine WC.condF' z l (sq ?_)
  obtain ⟨ao, h, U⟩ := bnd h
  refine WC.join (σ := Bool) (fun x w' => x = ao ∧ d = w') (fun x => [(1, pt G 0), (10, vB x)]) ?_ ?_
  ·refine sq (rg (wY (Y.eql_i z z) z ?_))
   obtain ⟨ap, V, h⟩ := lt1 h
   refine WL.yE (ya z) (congrArg vB V.symm) z (nl (th ?_))
   rcases cnd h with ⟨m, h⟩ | ⟨m, h⟩
   ·refine WC.condT' z m (sk ?_)
    exact At.join (σ := Bool) ap ⟨some1 h, z⟩ (.cons z (.cons z .nil))
   ·refine WC.condF' z m (sq (rg (wY (Y.eql_i z z) z ?_)))
    obtain ⟨aq, W, h⟩ := lt1 h
    refine WL.yE (ya z) (congrArg vB W.symm) z (nl (th ?_))
    rcases cnd h with ⟨o, h⟩ | ⟨o, h⟩
    ·refine WC.condT' z o (sk ?_)
     exact At.join (σ := Bool) aq ⟨some1 h, z⟩ (.cons z (.cons z .nil))
    ·refine WC.condF' z o (sq (rg (wY (Y.eql_i z z) z ?_)))
     obtain ⟨ar, Z, h⟩ := lt1 h
     refine WL.yE (ya z) (congrArg vB Z.symm) z (nl (th ?_))
     rcases cnd h with ⟨t, h⟩ | ⟨t, h⟩
     ·refine WC.condT' z t (sk ?_)
      exact At.join (σ := Bool) ar ⟨some1 h, z⟩ (.cons z (.cons z .nil))
     ·refine WC.condF' z t (rg (wY (Y.eql_i z z) z ?_))
      obtain ⟨au, aa, h⟩ := lt1 h
      refine WL.yE (ya z) (congrArg vB aa.symm) z (nl ?_)
      exact At.join (σ := Bool) au ⟨some1 h, z⟩ (.cons z (.cons z .nil))
  ·rintro av _ ⟨rfl, rfl⟩
   replace h := U
   try dsimp only at h
   refine (show At _ _ _ [(1, pt G 0), (10, vB av)] _ from ?_)
   refine th ?_
   rcases cnd h with ⟨C, h⟩ | ⟨C, h⟩
   ·refine WC.condT' z C (sq (rg (wY (yf fo40_3 z) z (wY (yl ty3 z z (j.cell 3 _ z)) z (wY (Y.eql_i z z) z (wY (ym z) z ?_))))))
    refine WL.cut 4 (σ := Unit) (fun _ w' => d = w') (fun _ => [(22, vB ((decide (a0.Temp = 1)) || (decide (a0.Temp = 2))))]) ?_ ?_
    ·refine WL.part 18 z (fun D => ?_) (fun D => ?_)
     ·refine WL.gS z z z z (WL.gS z z z z (WL.gS z z z z (wY (Y.pick (b := true) z z) z (WL.ren (v' := vB ((decide (a0.Temp = 1)) || (decide (a0.Temp = 2)))) 22 z (congrArg vB (orT D)) ?_))))
      exact nl (At.join () z (.cons z .nil))
     ·refine ug z z (wY (yf fo40_3 z) z (ug z z (wY (yl ty3 z z (j.cell 3 _ z)) z (ug z z (wY (Y.eql_i z z) z (wY (Y.pick (b := false) z z) z (WL.ren (v' := vB ((decide (a0.Temp = 1)) || (decide (a0.Temp = 2)))) 22 z (congrArg vB (orF D)) ?_)))))))
      exact nl (At.join () z (.cons z .nil))
    ·rintro _ _ rfl
     refine (show WL _ _ _ _ _ [(22, vB ((decide (a0.Temp = 1)) || (decide (a0.Temp = 2))))] _ from ?_)
     obtain ⟨az, ab, h⟩ := lt1 h
     refine WL.yE (ya z) (congrArg vB ab.symm) z (nl (th (rt (At.inBlockR (At.thenR ?_)))))
     obtain rfl := some1 h
     have ac : Stp [] (Lg.O0 A) w F d := (su_ e z)
     exact At.res (.inl z) z (.tmp z .nil) ⟨z, (se_ ac z z)⟩
   ·refine WC.condF' z C (sk (At.inBlock (th (sq (rg (wY (ya z) z (nl (th (rt ?_)))))))))
    obtain rfl := some1 h
    have ad : Stp [] (Lg.O0 A) w F d := (su_ e z)
    exact At.res (.inl z) z (.tmp z .nil) ⟨z, (se_ ad z z)⟩
theorem c_point_sum {A : Nat → Prop} {v0_1 : Value} {v0_13 : Value} {v0_15 : Value} {a0 : api_Point} {w : World} (hs0_1 : Sl rep_api_Pair w A v0_1 a0.Attrs) (hs0_13 : Sl Rep.u w A v0_13 a0.Hist.Pos.Counts) (hs0_15 : Sl Rep.u w A v0_15 a0.Hist.Neg.Counts) {r0 : Bool} (h : point_sum a0 = some r0) : Rets Tryz.prog 34 [ag (cp a0 v0_1 v0_13 v0_15)] w (fun v w' => v = vB r0 ∧ Ext w w') := by
 unfold point_sum at h
 refine Rets.enter Tryz.func34 z z ?_
 have m : Sl rep_api_Pair w (imm (Lg.O0 A)) v0_1 a0.Attrs := (Sl.start hs0_1)
 have o : Sl Rep.u w (imm (Lg.O0 A)) v0_13 a0.Hist.Pos.Counts := (Sl.start hs0_13)
 have t : Sl Rep.u w (imm (Lg.O0 A)) v0_15 a0.Hist.Neg.Counts := (Sl.start hs0_15)
 refine (show WC _ _ _ _ [(0, ag (cp a0 v0_1 v0_13 v0_15))] _ from ?_)
 refine sq (rg ?_)
 have C := h
 obtain ⟨I, J, K, rfl⟩ := m.shape
 have h := C
 have D := h
 obtain ⟨L, M, Q, rfl⟩ := o.shape
 have h := D
 have F := h
 obtain ⟨S, T, U, rfl⟩ := t.shape
 have h := F
 refine WL.box (O := (Lg.O0 A)) 11 (cp a0 (vl I J K) (vl L M Q) (vl S T U)) z z z ?_
 intro W V e l j
 refine wY (ya z) z (nl (th (sq (rg (wY (yf fo40_2 z) z (wY (yl ty3 z z (j.cell 2 _ z)) z (wY (Y.eql_i z z) z (wY (ym z) z ?_))))))))
 refine WL.cut 4 (σ := Unit) (fun _ w' => e = w') (fun _ => [(10, vB ((decide (a0.Kind = 1)) || (decide (a0.Kind = 2))))]) ?_ ?_
 ·refine WL.part 6 z (fun d => ?_) (fun d => ?_)
  ·refine WL.gS z z z z (WL.gS z z z z (WL.gS z z z z (wY (Y.pick (b := true) z z) z (WL.ren (v' := vB ((decide (a0.Kind = 1)) || (decide (a0.Kind = 2)))) 10 z (congrArg vB (orT d)) ?_))))
   exact nl (At.join () z (.cons z .nil))
  ·refine ug z z (wY (yf fo40_2 z) z (ug z z (wY (yl ty3 z z (j.cell 2 _ z)) z (ug z z (wY (Y.eql_i z z) z (wY (Y.pick (b := false) z z) z (WL.ren (v' := vB ((decide (a0.Kind = 1)) || (decide (a0.Kind = 2)))) 10 z (congrArg vB (orF d)) ?_)))))))
   exact nl (At.join () z (.cons z .nil))
 ·rintro _ _ rfl
  refine (show WL _ _ _ _ _ [(10, vB ((decide (a0.Kind = 1)) || (decide (a0.Kind = 2))))] _ from ?_)
  obtain ⟨Z, G, h⟩ := lt1 h
  refine WL.yE (ya z) (congrArg vB G.symm) z (nl (th (rt ?_)))
  obtain rfl := some1 h
  have H : Stp [] (Lg.O0 A) w V e := (su_ l z)
  exact At.res (.inl z) z (.tmp z .nil) ⟨z, (se_ H z z)⟩
theorem c_point_times {A : Nat → Prop} {v0_1 : Value} {v0_13 : Value} {v0_15 : Value} {a0 : api_Point} {w : World} (hs0_1 : Sl rep_api_Pair w A v0_1 a0.Attrs) (hs0_13 : Sl Rep.u w A v0_13 a0.Hist.Pos.Counts) (hs0_15 : Sl Rep.u w A v0_15 a0.Hist.Neg.Counts) {r0 : Bool} (h : point_times a0 = some r0) : Rets Tryz.prog 35 [ag (cp a0 v0_1 v0_13 v0_15)] w (fun v w' => v = vB r0 ∧ Ext w w') := by
 unfold point_times at h
 refine Rets.enter Tryz.func35 z z ?_
 have D : Sl rep_api_Pair w (imm (Lg.O0 A)) v0_1 a0.Attrs := (Sl.start hs0_1)
 have F : Sl Rep.u w (imm (Lg.O0 A)) v0_13 a0.Hist.Pos.Counts := (Sl.start hs0_13)
 have G : Sl Rep.u w (imm (Lg.O0 A)) v0_15 a0.Hist.Neg.Counts := (Sl.start hs0_15)
 refine (show WC _ _ _ _ [(0, ag (cp a0 v0_1 v0_13 v0_15))] _ from ?_)
 refine sq (rg ?_)
 have H := h
 obtain ⟨T, U, V, rfl⟩ := D.shape
 have h := H
 have I := h
 obtain ⟨W, Z, aa, rfl⟩ := F.shape
 have h := I
 have J := h
 obtain ⟨ab, ac, ad, rfl⟩ := G.shape
 have h := J
 refine WL.box (O := (Lg.O0 A)) 11 (cp a0 (vl T U V) (vl W Z aa) (vl ab ac ad)) z z z ?_
 intro C t e j d
 refine wY (ya z) z (nl (th (sq (sq (rg (wY (yf fo40_5 z) z (wY (yl ty3 z z (d.cell 5 _ z)) z (wY (Y.lss_i z z) z (wY (ym z) z ?_)))))))))
 refine WL.cut 4 (σ := Unit) (fun _ w' => e = w') (fun _ => [(1, pt C 0), (10, vB ((decide (a0.Start < 0)) || (decide (4503599627370496 < a0.Time))))]) ?_ ?_
 ·refine WL.part 6 z (fun l => ?_) (fun l => ?_)
  ·refine WL.gS z z z z (WL.gS z z z z (WL.gS z z z z (wY (Y.pick (b := true) z z) z (WL.ren (v' := vB ((decide (a0.Start < 0)) || (decide (4503599627370496 < a0.Time)))) 10 z (congrArg vB (orT l)) ?_))))
   exact nl (At.join () z (.cons z (.cons z .nil)))
  ·refine ug z z (wY (yf fo40_6 z) z (ug z z (wY (yl ty3 z z (d.cell 6 _ z)) z (ug z z (wY (Y.gtr_i z z) z (wY (Y.pick (b := false) z z) z (WL.ren (v' := vB ((decide (a0.Start < 0)) || (decide (4503599627370496 < a0.Time)))) 10 z (congrArg vB (orF l)) ?_)))))))
   exact nl (At.join () z (.cons z (.cons z .nil)))
 ·rintro _ _ rfl
  refine (show WL _ _ _ _ _ [(1, pt C 0), (10, vB ((decide (a0.Start < 0)) || (decide (4503599627370496 < a0.Time))))] _ from ?_)
  refine nl (th ?_)
  rcases cnd h with ⟨m, h⟩ | ⟨m, h⟩
  ·refine WC.condT' z m (sq (rg (wY (ya z) z (nl (th (rt (At.thenR ?_)))))))
   obtain rfl := some1 h
   have K : Stp [] (Lg.O0 A) w t e := (su_ j z)
   exact At.res (.inl z) z (.tmp z .nil) ⟨z, (se_ K z z)⟩
  ·refine WC.condF' z m (sk (th (sq (sq (rg (wY (yf fo40_2 z) z (wY (yl ty3 z z (d.cell 2 _ z)) z (wY (Y.eql_i z z) z (nl ?_)))))))))
   refine th ?_
   rcases cnd h with ⟨o, h⟩ | ⟨o, h⟩
   ·refine WC.condT' z o (sq (rg (wY (yf fo40_5 z) z (wY (yl ty3 z z (d.cell 5 _ z)) z (wY (yf fo40_6 z) z (wY (yl ty3 z z (d.cell 6 _ z)) z (wY (Y.eql_i z z) z ?_)))))))
    obtain ⟨ae, L, h⟩ := lt1 h
    refine WL.yE (ya z) (congrArg vB L.symm) z (nl (th (rt (At.thenR ?_))))
    obtain rfl := some1 h
    have M : Stp [] (Lg.O0 A) w t e := (su_ j z)
    exact At.res (.inl z) z (.tmp z .nil) ⟨z, (se_ M z z)⟩
   ·refine WC.condF' z o (sk (th (sq (rg (wY (yf fo40_5 z) z (wY (yl ty3 z z (d.cell 5 _ z)) z (wY (yf fo40_6 z) z (wY (yl ty3 z z (d.cell 6 _ z)) z (wY (Y.lss_i z z) z ?_)))))))))
    obtain ⟨af, Q, h⟩ := lt1 h
    refine WL.yE (ya z) (congrArg vB Q.symm) z (nl (th (rt ?_)))
    obtain rfl := some1 h
    have S : Stp [] (Lg.O0 A) w t e := (su_ j z)
    exact At.res (.inl z) z (.tmp z .nil) ⟨z, (se_ S z z)⟩
theorem c_point_bare {A : Nat → Prop} {v0_3 : Value} {v0_5 : Value} {a0 : api_Hist} {w : World} (hs0_3 : Sl Rep.u w A v0_3 a0.Pos.Counts) (hs0_5 : Sl Rep.u w A v0_5 a0.Neg.Counts) {r0 : Bool} (h : point_bare a0 = some r0) : Rets Tryz.prog 67 [ag (hl a0 v0_3 v0_5)] w (fun v w' => v = vB r0 ∧ Ext w w') := by
 unfold point_bare at h
 refine Rets.enter Tryz.func67 z z ?_
 have D : Sl Rep.u w (imm (Lg.O0 A)) v0_3 a0.Pos.Counts := (Sl.start hs0_3)
 have F : Sl Rep.u w (imm (Lg.O0 A)) v0_5 a0.Neg.Counts := (Sl.start hs0_5)
 refine (show WC _ _ _ _ [(0, ag (hl a0 v0_3 v0_5))] _ from ?_)
 refine sq (rg ?_)
 have G := h
 obtain ⟨M, Q, S, rfl⟩ := D.shape
 have h := G
 have H := h
 obtain ⟨T, U, V, rfl⟩ := F.shape
 have h := H
 refine WL.box (O := (Lg.O0 A)) 11 (hl a0 (vl M Q S) (vl T U V)) z z z ?_
 intro j W e l d
 refine wY (ya z) z (nl (th (sq (rg (wY (yf fo38_0 z) z (wY (yl ty3 z z (d.cell 0 _ z)) z (wY (Y.eql_i z z) z (wY (ym z) z ?_))))))))
 refine WL.cut 4 (σ := Unit) (fun _ w' => e = w') (fun _ => [(1, pt j 0), (10, vB ((decide (a0.Scale = 0)) && (decide (a0.Zero = 0))))]) ?_ ?_
 ·refine WL.part 6 z (fun m => ?_) (fun m => ?_)
  ·refine ug z z (wY (yf fo38_1 z) z (ug z z (wY (yl ty33 z z (d.cell 1 _ z)) z (ug z z (wY (Y.eql_u (b := 0) z z) z (wY (Y.pick (b := true) z z) z (WL.ren (v' := vB ((decide (a0.Scale = 0)) && (decide (a0.Zero = 0)))) 10 z (congrArg vB (andT m)) ?_)))))))
   exact nl (At.join () z (.cons z (.cons z .nil)))
  ·refine WL.gS z z z z (WL.gS z z z z (WL.gS z z z z (wY (Y.pick (b := false) z z) z (WL.ren (v' := vB ((decide (a0.Scale = 0)) && (decide (a0.Zero = 0)))) 10 z (congrArg vB (andF m)) ?_))))
   exact nl (At.join () z (.cons z (.cons z .nil)))
 ·rintro _ _ rfl
  refine (show WL _ _ _ _ _ [(1, pt j 0), (10, vB ((decide (a0.Scale = 0)) && (decide (a0.Zero = 0))))] _ from ?_)
  refine wY (ym z) z ?_
  refine WL.cut 5 (σ := Unit) (fun _ w' => e = w') (fun _ => [(1, pt j 0), (16, vB (((decide (a0.Scale = 0)) && (decide (a0.Zero = 0))) && (decide (a0.Pos.Offset = 0))))]) ?_ ?_
  ·refine WL.part 11 z (fun o => ?_) (fun o => ?_)
   ·refine ug z z (wY (yf fo38_2 z) z (ug z z (wY (yf fo36_0 z) z (ug z z (wY (yl ty3 z z (d.cell 2 _ z)) z (ug z z (wY (Y.eql_i z z) z (wY (Y.pick (b := true) z z) z (WL.ren (v' := vB (((decide (a0.Scale = 0)) && (decide (a0.Zero = 0))) && (decide (a0.Pos.Offset = 0)))) 16 z (congrArg vB (andT o)) ?_)))))))))
    exact nl (At.join () z (.cons z (.cons z .nil)))
   ·refine WL.gS z z z z (WL.gS z z z z (WL.gS z z z z (WL.gS z z z z (wY (Y.pick (b := false) z z) z (WL.ren (v' := vB (((decide (a0.Scale = 0)) && (decide (a0.Zero = 0))) && (decide (a0.Pos.Offset = 0)))) 16 z (congrArg vB (andF o)) ?_)))))
    exact nl (At.join () z (.cons z (.cons z .nil)))
  ·rintro _ _ rfl
   refine (show WL _ _ _ _ _ [(1, pt j 0), (16, vB (((decide (a0.Scale = 0)) && (decide (a0.Zero = 0))) && (decide (a0.Pos.Offset = 0))))] _ from ?_)
   refine wY (ym z) z ?_
   refine WL.cut 5 (σ := Unit) (fun _ w' => e = w') (fun _ => [(1, pt j 0), (22, vB ((((decide (a0.Scale = 0)) && (decide (a0.Zero = 0))) && (decide (a0.Pos.Offset = 0))) && (decide (a0.Neg.Offset = 0))))]) ?_ ?_
   ·refine WL.part 17 z (fun t => ?_) (fun t => ?_)
    ·refine ug z z (wY (yf fo38_3 z) z (ug z z (wY (yf fo36_0 z) z (ug z z (wY (yl ty3 z z (d.cell 4 _ z)) z (ug z z (wY (Y.eql_i z z) z (wY (Y.pick (b := true) z z) z (WL.ren (v' := vB ((((decide (a0.Scale = 0)) && (decide (a0.Zero = 0))) && (decide (a0.Pos.Offset = 0))) && (decide (a0.Neg.Offset = 0)))) 22 z (congrArg vB (andT t)) ?_)))))))))
     exact nl (At.join () z (.cons z (.cons z .nil)))
    ·refine WL.gS z z z z (WL.gS z z z z (WL.gS z z z z (WL.gS z z z z (wY (Y.pick (b := false) z z) z (WL.ren (v' := vB ((((decide (a0.Scale = 0)) && (decide (a0.Zero = 0))) && (decide (a0.Pos.Offset = 0))) && (decide (a0.Neg.Offset = 0)))) 22 z (congrArg vB (andF t)) ?_)))))
     exact nl (At.join () z (.cons z (.cons z .nil)))
   ·rintro _ _ rfl
    refine (show WL _ _ _ _ _ [(1, pt j 0), (22, vB ((((decide (a0.Scale = 0)) && (decide (a0.Zero = 0))) && (decide (a0.Pos.Offset = 0))) && (decide (a0.Neg.Offset = 0))))] _ from ?_)
    refine wY (ym z) z ?_
    refine WL.cut 11 (σ := Unit) (fun _ w' => e = w') (fun _ => [(34, vB (((((decide (a0.Scale = 0)) && (decide (a0.Zero = 0))) && (decide (a0.Pos.Offset = 0))) && (decide (a0.Neg.Offset = 0))) && (decide (w64 ((a0.Pos.Counts.length : Int) + (a0.Neg.Counts.length : Int)) = 0))))]) ?_ ?_
    ·refine WL.part 23 z (fun C => ?_) (fun C => ?_)
     ·refine ug z z (wY (yf fo38_2 z) z (ug z z (wY (yf fo36_1 z) z (ug z z (wY (yl ty34 z z (d.cell 3 _ z)) z (ug z z ?_))))))
      have I := D.i l z z
      refine wY (Y.len ty34 z I) z (ug z z (wY (yf fo38_3 z) z (ug z z (wY (yf fo36_1 z) z (ug z z (wY (yl ty34 z z (d.cell 5 _ z)) z (ug z z ?_)))))))
      have J := F.i l z z
      refine wY (Y.len ty34 z J) z (ug z z (wY (Y.add_i z z) z (ug z z (wY (Y.eql_i z z) z (wY (Y.pick (b := true) z z) z (WL.ren (v' := vB (((((decide (a0.Scale = 0)) && (decide (a0.Zero = 0))) && (decide (a0.Pos.Offset = 0))) && (decide (a0.Neg.Offset = 0))) && (decide (w64 ((a0.Pos.Counts.length : Int) + (a0.Neg.Counts.length : Int)) = 0)))) 34 z (congrArg vB (andT C)) ?_))))))
      exact nl (At.join () z (.cons z .nil))
     ·refine WL.gS z z z z (WL.gS z z z z (WL.gS z z z z (WL.gS z z z z (WL.gS z z z z (WL.gS z z z z (WL.gS z z z z (WL.gS z z z z (WL.gS z z z z (WL.gS z z z z ?_)))))))))
      refine wY (Y.pick (b := false) z z) z (WL.ren (v' := vB (((((decide (a0.Scale = 0)) && (decide (a0.Zero = 0))) && (decide (a0.Pos.Offset = 0))) && (decide (a0.Neg.Offset = 0))) && (decide (w64 ((a0.Pos.Counts.length : Int) + (a0.Neg.Counts.length : Int)) = 0)))) 34 z (congrArg vB (andF C)) ?_)
      exact nl (At.join () z (.cons z .nil))
    ·rintro _ _ rfl
     refine (show WL _ _ _ _ _ [(34, vB (((((decide (a0.Scale = 0)) && (decide (a0.Zero = 0))) && (decide (a0.Pos.Offset = 0))) && (decide (a0.Neg.Offset = 0))) && (decide (w64 ((a0.Pos.Counts.length : Int) + (a0.Neg.Counts.length : Int)) = 0))))] _ from ?_)
     obtain ⟨Z, K, h⟩ := lt1 h
     refine WL.yE (ya z) (congrArg vB K.symm) z (nl (th (rt ?_)))
     obtain rfl := some1 h
     have L : Stp [] (Lg.O0 A) w W e := (su_ l z)
     exact At.res (.inl z) z (.tmp z .nil) ⟨z, (se_ L z z)⟩
theorem c_point_own {A : Nat → Prop} {v0_1 : Value} {v0_13 : Value} {v0_15 : Value} {a0 : api_Point} {w : World} (hs0_1 : Sl rep_api_Pair w A v0_1 a0.Attrs) (hs0_13 : Sl Rep.u w A v0_13 a0.Hist.Pos.Counts) (hs0_15 : Sl Rep.u w A v0_15 a0.Hist.Neg.Counts) {r0 : Bool} (h : point_own a0 = some r0) : Rets Tryz.prog 36 [ag (cp a0 v0_1 v0_13 v0_15)] w (fun v w' => v = vB r0 ∧ Ext w w') := by
 unfold point_own at h
 refine Rets.enter Tryz.func36 z z ?_
 have an : Sl rep_api_Pair w (imm (Lg.O0 A)) v0_1 a0.Attrs := (Sl.start hs0_1)
 have ac : Sl Rep.u w (imm (Lg.O0 A)) v0_13 a0.Hist.Pos.Counts := (Sl.start hs0_13)
 have ad : Sl Rep.u w (imm (Lg.O0 A)) v0_15 a0.Hist.Neg.Counts := (Sl.start hs0_15)
 refine (show WC _ _ _ _ [(0, ag (cp a0 v0_1 v0_13 v0_15))] _ from ?_)
 refine sq (rg ?_)
 have ao := h
 obtain ⟨aO, aP, aQ, rfl⟩ := an.shape
 have h := ao
 have ap := h
 obtain ⟨ae, af, ah, rfl⟩ := ac.shape
 have h := ap
 have aq := h
 obtain ⟨ai, aj, ak, rfl⟩ := ad.shape
 have h := aq
 refine WL.box (O := (Lg.O0 A)) 11 (cp a0 (vl aO aP aQ) (vl ae af ah) (vl ai aj ak)) z z z ?_
 intro m t e d l
 refine wY (ya z) z (nl (th (sq (rg (wY (yf fo40_2 z) z (wY (yl ty3 z z (l.cell 2 _ z)) z (wY (Y.eql_i z z) z (wY (ym z) z ?_))))))))
 refine WL.cut 4 (σ := Unit) (fun _ w' => e = w') (fun _ => [(1, pt m 0), (11, vB ((decide (a0.Kind = 2)) || (decide (a0.Kind = 3))))]) ?_ ?_
 ·refine WL.part 7 z (fun D => ?_) (fun D => ?_)
  ·refine WL.gS z z z z (WL.gS z z z z (WL.gS z z z z (wY (Y.pick (b := true) z z) z (WL.ren (v' := vB ((decide (a0.Kind = 2)) || (decide (a0.Kind = 3)))) 11 z (congrArg vB (orT D)) ?_))))
   exact nl (At.join () z (.cons z (.cons z .nil)))
  ·refine ug z z (wY (yf fo40_2 z) z (ug z z (wY (yl ty3 z z (l.cell 2 _ z)) z (ug z z (wY (Y.eql_i z z) z (wY (Y.pick (b := false) z z) z (WL.ren (v' := vB ((decide (a0.Kind = 2)) || (decide (a0.Kind = 3)))) 11 z (congrArg vB (orF D)) ?_)))))))
   exact nl (At.join () z (.cons z (.cons z .nil)))
 ·rintro _ _ rfl
  refine (show WL _ _ _ _ _ [(1, pt m 0), (11, vB ((decide (a0.Kind = 2)) || (decide (a0.Kind = 3))))] _ from ?_)
  refine wY (ym z) z ?_
  refine WL.cut 4 (σ := Unit) (fun _ w' => e = w') (fun _ => [(1, pt m 0), (16, vB (((decide (a0.Kind = 2)) || (decide (a0.Kind = 3))) || (decide (a0.Kind = 5))))]) ?_ ?_
  ·refine WL.part 12 z (fun F => ?_) (fun F => ?_)
   ·refine WL.gS z z z z (WL.gS z z z z (WL.gS z z z z (wY (Y.pick (b := true) z z) z (WL.ren (v' := vB (((decide (a0.Kind = 2)) || (decide (a0.Kind = 3))) || (decide (a0.Kind = 5)))) 16 z (congrArg vB (orT F)) ?_))))
    exact nl (At.join () z (.cons z (.cons z .nil)))
   ·refine ug z z (wY (yf fo40_2 z) z (ug z z (wY (yl ty3 z z (l.cell 2 _ z)) z (ug z z (wY (Y.eql_i z z) z (wY (Y.pick (b := false) z z) z (WL.ren (v' := vB (((decide (a0.Kind = 2)) || (decide (a0.Kind = 3))) || (decide (a0.Kind = 5)))) 16 z (congrArg vB (orF F)) ?_)))))))
    exact nl (At.join () z (.cons z (.cons z .nil)))
  ·rintro _ _ rfl
   refine (show WL _ _ _ _ _ [(1, pt m 0), (16, vB (((decide (a0.Kind = 2)) || (decide (a0.Kind = 3))) || (decide (a0.Kind = 5))))] _ from ?_)
   obtain ⟨j, G, h⟩ := lt1 h
   refine WL.yE (ya z) (congrArg vB G.symm) z (nl (th (sq (WC.block (sq (sq (rg (wY (yf fo40_2 z) z (wY (yl ty3 z z (l.cell 2 _ z)) z ?_)))))))))
   refine wY (Y.neq_i z z) z (wY (ym z) z ?_)
   refine WL.cut 4 (σ := Unit) (fun _ w' => e = w') (fun _ => [(1, pt m 0), (3, vB j), (25, vB ((!decide (a0.Kind = 1)) && (!decide (a0.Int_ = 0))))]) ?_ ?_
   ·refine WL.part 21 z (fun H => ?_) (fun H => ?_)
    ·refine ug z z (wY (yf fo40_7 z) z (ug z z (wY (yl ty3 z z (l.cell 7 _ z)) z (ug z z (wY (Y.neq_i z z) z (wY (Y.pick (b := true) z z) z (WL.ren (v' := vB ((!decide (a0.Kind = 1)) && (!decide (a0.Int_ = 0)))) 25 z (congrArg vB (andT H)) ?_)))))))
     exact nl (At.join () z (.cons z (.cons z (.cons z .nil))))
    ·refine WL.gS z z z z (WL.gS z z z z (WL.gS z z z z (wY (Y.pick (b := false) z z) z (WL.ren (v' := vB ((!decide (a0.Kind = 1)) && (!decide (a0.Int_ = 0)))) 25 z (congrArg vB (andF H)) ?_))))
     exact nl (At.join () z (.cons z (.cons z (.cons z .nil))))
   ·rintro _ _ rfl
    refine (show WL _ _ _ _ _ [(1, pt m 0), (3, vB j), (25, vB ((!decide (a0.Kind = 1)) && (!decide (a0.Int_ = 0))))] _ from ?_)
    obtain ⟨a1, ar, h⟩ := lt1 h
    refine WL.yE (ya z) (congrArg vB ar.symm) z (nl (th ?_))
    rcases cnd h with ⟨I, h⟩ | ⟨I, h⟩
    ·refine WC.condT' z I (sk (th ?_))
     rcases cnd h with ⟨J, h⟩ | ⟨J, h⟩
     ·refine WC.condT' z J (sq (rg (wY (ya z) z (nl (th (rt (At.inBlockR (At.thenR ?_))))))))
      obtain rfl := some1 h
      have au : Stp [] (Lg.O0 A) w t e := (su_ d z)
      exact At.res (.inl z) z (.tmp z .nil) ⟨z, (se_ au z z)⟩
     ·refine WC.condF' z J (sk (At.inBlock (th (sq (rg (wY (ya z) z (nl (th (rt ?_)))))))))
      obtain rfl := some1 h
      have av : Stp [] (Lg.O0 A) w t e := (su_ d z)
      exact At.res (.inl z) z (.tmp z .nil) ⟨z, (se_ av z z)⟩
    ·refine WC.condF' z I (sq (rg (wY (ym z) z (wY (Y.not z) z (wY (ym z) z ?_)))))
     refine WL.cut 4 (σ := Unit) (fun _ w' => e = w') (fun _ => [(1, pt m 0), (32, vB ((!j) && (!decide (a0.Re = 0))))]) ?_ ?_
     ·refine WL.part 28 z (fun K => ?_) (fun K => ?_)
      ·refine ug z z (wY (yf fo40_8 z) z (ug z z (wY (yl ty33 z z (l.cell 8 _ z)) z (ug z z (wY (Y.neq_u (b := 0) z z) z (wY (Y.pick (b := true) z z) z (WL.ren (v' := vB ((!j) && (!decide (a0.Re = 0)))) 32 z (congrArg vB (andT K)) ?_)))))))
       exact nl (At.join () z (.cons z (.cons z .nil)))
      ·refine WL.gS z z z z (WL.gS z z z z (WL.gS z z z z (wY (Y.pick (b := false) z z) z (WL.ren (v' := vB ((!j) && (!decide (a0.Re = 0)))) 32 z (congrArg vB (andF K)) ?_))))
       exact nl (At.join () z (.cons z (.cons z .nil)))
     ·rintro _ _ rfl
      refine (show WL _ _ _ _ _ [(1, pt m 0), (32, vB ((!j) && (!decide (a0.Re = 0))))] _ from ?_)
      obtain ⟨a2, ax, h⟩ := lt1 h
      refine WL.yE (ya z) (congrArg vB ax.symm) z (nl (th ?_))
      rcases cnd h with ⟨L, h⟩ | ⟨L, h⟩
      ·refine WC.condT' z L (sk (th ?_))
       rcases cnd h with ⟨M, h⟩ | ⟨M, h⟩
       ·refine WC.condT' z M (sq (rg (wY (ya z) z (nl (th (rt (At.inBlockR (At.thenR ?_))))))))
        obtain rfl := some1 h
        have ay : Stp [] (Lg.O0 A) w t e := (su_ d z)
        exact At.res (.inl z) z (.tmp z .nil) ⟨z, (se_ ay z z)⟩
       ·refine WC.condF' z M (sk (At.inBlock (th (sq (rg (wY (ya z) z (nl (th (rt ?_)))))))))
        obtain rfl := some1 h
        have az : Stp [] (Lg.O0 A) w t e := (su_ d z)
        exact At.res (.inl z) z (.tmp z .nil) ⟨z, (se_ az z z)⟩
      ·refine WC.condF' z L (sq (rg (wY (yf fo40_2 z) z (wY (yl ty3 z z (l.cell 2 _ z)) z (wY (Y.neq_i z z) z (wY (ym z) z ?_))))))
       refine WL.cut 4 (σ := Unit) (fun _ w' => e = w') (fun _ => [(1, pt m 0), (40, vB ((!decide (a0.Kind = 5)) && (!decide (a0.Im = 0))))]) ?_ ?_
       ·refine WL.part 36 z (fun Q => ?_) (fun Q => ?_)
        ·refine ug z z (wY (yf fo40_9 z) z (ug z z (wY (yl ty33 z z (l.cell 9 _ z)) z (ug z z (wY (Y.neq_u (b := 0) z z) z (wY (Y.pick (b := true) z z) z (WL.ren (v' := vB ((!decide (a0.Kind = 5)) && (!decide (a0.Im = 0)))) 40 z (congrArg vB (andT Q)) ?_)))))))
         exact nl (At.join () z (.cons z (.cons z .nil)))
        ·refine WL.gS z z z z (WL.gS z z z z (WL.gS z z z z (wY (Y.pick (b := false) z z) z (WL.ren (v' := vB ((!decide (a0.Kind = 5)) && (!decide (a0.Im = 0)))) 40 z (congrArg vB (andF Q)) ?_))))
         exact nl (At.join () z (.cons z (.cons z .nil)))
       ·rintro _ _ rfl
        refine (show WL _ _ _ _ _ [(1, pt m 0), (40, vB ((!decide (a0.Kind = 5)) && (!decide (a0.Im = 0))))] _ from ?_)
        obtain ⟨a3, aA, h⟩ := lt1 h
        refine WL.yE (ya z) (congrArg vB aA.symm) z (nl (th ?_))
        rcases cnd h with ⟨S, h⟩ | ⟨S, h⟩
        ·refine WC.condT' z S (sk (th ?_))
         rcases cnd h with ⟨T, h⟩ | ⟨T, h⟩
         ·refine WC.condT' z T (sq (rg (wY (ya z) z (nl (th (rt (At.inBlockR (At.thenR ?_))))))))
          obtain rfl := some1 h
          have aC : Stp [] (Lg.O0 A) w t e := (su_ d z)
          exact At.res (.inl z) z (.tmp z .nil) ⟨z, (se_ aC z z)⟩
         ·refine WC.condF' z T (sk (At.inBlock (th (sq (rg (wY (ya z) z (nl (th (rt ?_)))))))))
          obtain rfl := some1 h
          have aD : Stp [] (Lg.O0 A) w t e := (su_ d z)
          exact At.res (.inl z) z (.tmp z .nil) ⟨z, (se_ aD z z)⟩
        ·refine WC.condF' z S (sq (rg (wY (yf fo40_2 z) z (wY (yl ty3 z z (l.cell 2 _ z)) z (wY (Y.neq_i z z) z (wY (ym z) z ?_))))))
         obtain ⟨aR, h, aE⟩ := bnd h
         refine WL.cut 5 (σ := (Bool × Own)) (fun x w' => x.1 = aR ∧ Stp [] t e x.2 w') (fun x => [(1, pt m 0), (49, vB x.1)]) ?_ ?_
         ·rcases cnd h with ⟨U, h⟩ | ⟨U, h⟩
          ·refine WL.ren 44 z (congrArg vB U) (ug z z (wY (yf fo40_10 z) z (ug z z (wY (yL ty38 z z (l.cells 10 (hl a0.Hist (vl ae af ah) (vl ai aj ak)) z) z) z (ug z z ?_)))))
           have aF := ac.i d z z
           have aG := ad.i d z z
           obtain ⟨aS, aH, h⟩ := bnd h
           refine WL.call (vals := [ag (hl a0.Hist (vl ae af ah) (vl ai aj ak))]) kok67 z z (c_point_bare (A := fun _ => True) (a0 := a0.Hist) (Sl.all aF) (Sl.all aG) aH) ?_
           rintro aY aZ ⟨rfl, aI⟩
           obtain ⟨aT, aU, aW, am⟩ := adoptE t (fun k => 1) aI
           refine ug z z (wY (Y.not z) z (wY (Y.pick (b := true) z z) z ?_))
           exact nl (At.join (σ := (Bool × Own)) ((!aS), aT) ⟨some1 h, (su_ am z)⟩ (.cons z (.cons z .nil)))
          ·refine WL.ren 44 z (congrArg vB U) (WL.gS z z z z (WL.gS z z z z (WL.gS z z z z (WL.gS z z z z (wY (Y.pick (b := false) z z) z ?_)))))
           exact nl (At.join (σ := (Bool × Own)) (false, t) ⟨some1 h, (sr_ _ _ _)⟩ (.cons z (.cons z .nil)))
         ·rintro ⟨aX, ab⟩ C ⟨rfl, o⟩
          replace h := aE
          try dsimp only at h o
          refine (show WL _ _ _ _ _ [(1, pt m 0), (49, vB aX)] _ from ?_)
          refine wY (ya z) z (nl (th ?_))
          rcases cnd h with ⟨V, h⟩ | ⟨V, h⟩
          ·refine WC.condT' z V (sk (th ?_))
           rcases cnd h with ⟨W, h⟩ | ⟨W, h⟩
           ·refine WC.condT' z W (sq (rg (wY (ya z) z (nl (th (rt (At.inBlockR (At.thenR ?_))))))))
            obtain rfl := some1 h
            have aJ : Stp [] (Lg.O0 A) w ab C := (tr_ (su_ d z) (su_ o z))
            exact At.res (.inl z) z (.tmp z .nil) ⟨z, (se_ aJ z z)⟩
           ·refine WC.condF' z W (sk (At.inBlock (th (sq (rg (wY (ya z) z (nl (th (rt ?_)))))))))
            obtain rfl := some1 h
            have aK : Stp [] (Lg.O0 A) w ab C := (tr_ (su_ d z) (su_ o z))
            exact At.res (.inl z) z (.tmp z .nil) ⟨z, (se_ aK z z)⟩
          ·refine WC.condF' z V (rg (wY (yf fo40_11 z) z ?_))
           have al := l.st o z
           refine wY (yl ty3 z z (al.cell 16 _ z)) z (wY (Y.lss_i z z) z (wY (ym z) z ?_))
           refine WL.cut 4 (σ := Unit) (fun _ w' => C = w') (fun _ => [(57, vB ((decide (a0.Flags < 0)) || (decide (31 < a0.Flags))))]) ?_ ?_
           ·refine WL.part 53 z (fun Z => ?_) (fun Z => ?_)
            ·refine WL.gS z z z z (WL.gS z z z z (WL.gS z z z z (wY (Y.pick (b := true) z z) z (WL.ren (v' := vB ((decide (a0.Flags < 0)) || (decide (31 < a0.Flags)))) 57 z (congrArg vB (orT Z)) ?_))))
             exact nl (At.join () z (.cons z .nil))
            ·refine ug z z (wY (yf fo40_11 z) z (ug z z (wY (yl ty3 z z (al.cell 16 _ z)) z (ug z z (wY (Y.gtr_i z z) z (wY (Y.pick (b := false) z z) z (WL.ren (v' := vB ((decide (a0.Flags < 0)) || (decide (31 < a0.Flags)))) 57 z (congrArg vB (orF Z)) ?_)))))))
             exact nl (At.join () z (.cons z .nil))
           ·rintro _ _ rfl
            refine (show WL _ _ _ _ _ [(57, vB ((decide (a0.Flags < 0)) || (decide (31 < a0.Flags))))] _ from ?_)
            obtain ⟨a4, aL, h⟩ := lt1 h
            refine WL.yE (ya z) (congrArg vB aL.symm) z (nl (th ?_))
            rcases cnd h with ⟨aa, h⟩ | ⟨aa, h⟩
            ·refine WC.condT' z aa (sq (rg (wY (ya z) z (nl (th (rt (At.inBlockR (At.thenR ?_))))))))
             obtain rfl := some1 h
             have aM : Stp [] (Lg.O0 A) w ab C := (tr_ (su_ d z) (su_ o z))
             exact At.res (.inl z) z (.tmp z .nil) ⟨z, (se_ aM z z)⟩
            ·refine WC.condF' z aa (sk (At.inBlock (th (sq (rg (wY (ya z) z (nl (th (rt ?_)))))))))
             obtain rfl := some1 h
             have aN : Stp [] (Lg.O0 A) w ab C := (tr_ (su_ d z) (su_ o z))
             exact At.res (.inl z) z (.tmp z .nil) ⟨z, (se_ aN z z)⟩
theorem c_num_Finite {a0 : UInt64} {w : World} {r0 : Bool} (h : num_Finite a0 = some r0) : Rets Tryz.prog 37 [vu a0] w (fun v w' => v = vB r0 ∧ Ext w w') := by
 unfold num_Finite at h
 refine Rets.enter Tryz.func37 z z ?_
 refine (show WC _ _ _ _ [(0, vu a0)] _ from ?_)
 refine sq (rg (wY (ya z) z (nl (th (sq (rg (wY (ym z) z (wY (Y.and_u (b := 9218868437227405312) z z) z (wY (Y.neq_u (b := 9218868437227405312) z z) z ?_)))))))))
 obtain ⟨j, d, h⟩ := lt1 h
 refine WL.yE (ya z) (congrArg vB d.symm) z (nl (th (rt ?_)))
 obtain rfl := some1 h
 have e : Stp [] (Lg.O0 (fun _ => False)) w (Lg.O0 (fun _ => False)) w := (sr_ _ _ _)
 exact At.res (.inl z) z (.tmp z .nil) ⟨z, (se_ e z z)⟩
theorem c_num_of {a0 : UInt64} {w : World} : Rets Tryz.prog 68 [vu a0] w (fun v w' => v = .float .f64 a0.toNat ∧ Ext w w') := by
  refine Rets.enter Tryz.func68 z z ?_
  refine (show WC _ _ _ _ [(0, vu a0)] _ from ?_)
  refine sq (rg (wY (ya (v := .float .f64 0) z) z (nl (th ?_))))
  refine sq (rg ?_)
  refine wY (ym z) z (wY (Y.ffrom xfrom_109 z) z ?_)
  refine wY (ya z) z (nl (th (rt ?_)))
  exact At.res (.inl z) z (.tmp z .nil) ⟨z, Ext.refl w⟩
theorem c_num_Less {a0 : UInt64} {a1 : UInt64} {w : World} {r0 : Bool} (h : num_Less a0 a1 = some r0) : Rets Tryz.prog 38 [vu a0, vu a1] w (fun v w' => v = vB r0 ∧ Ext w w') := by
  unfold num_Less at h
  obtain rfl := some1 h
  refine Rets.enter Tryz.func38 z z ?_
  refine (show WC _ _ _ _ [(0, vu a0), (1, vu a1)] _ from ?_)
  refine sq (rg (wY (ya (v := .bool false) z) z (nl (th ?_))))
  refine sq (rg ?_)
  refine wY (ym z) z (WL.call (vals := [vu a0]) kok68 z z (c_num_of) ?_)
  rintro H I ⟨rfl, j⟩
  obtain ⟨F, o, t, d⟩ := adoptE (Lg.O0 (fun _ => False)) (fun k => 1) j
  refine wY (ym z) z (WL.call (vals := [vu a1]) kok68 z z (c_num_of) ?_)
  rintro J l ⟨rfl, m⟩
  obtain ⟨G, C, D, e⟩ := adoptE F (fun k => 1) m
  refine wY (Y.fless z z) z ?_
  refine wY (ya z) z (nl (th (rt ?_)))
  have hs : Stp [] (Lg.O0 (fun _ => False)) w G l := (tr_ (su_ d z) (su_ e z))
  exact At.res (.inl z) z (.tmp z .nil) ⟨z, se_ hs z z⟩
theorem c_hist_sides {A : Nat → Prop} {v0_3 : Value} {v0_5 : Value} {a0 : api_Hist} {w : World} (hs0_3 : Sl Rep.u w A v0_3 a0.Pos.Counts) (hs0_5 : Sl Rep.u w A v0_5 a0.Neg.Counts) {r0 : List api_Side} (h : hist_sides a0 = some r0) : Rets Tryz.prog 69 [ag (hl a0 v0_3 v0_5)] w (fun v w' => ∃ (J : List Value), v = Value.agg (List.toArray J) ∧ Ext w w' ∧ Rows' rep_api_Side w' (fun k => A k ∨ w.heap.size ≤ k) J r0 ∧ r0.length = 2) := by
 unfold hist_sides at h
 refine Rets.enter Tryz.func69 z z ?_
 have F : Sl Rep.u w (imm (Lg.O0 A)) v0_3 a0.Pos.Counts := (Sl.start hs0_3)
 have G : Sl Rep.u w (imm (Lg.O0 A)) v0_5 a0.Neg.Counts := (Sl.start hs0_5)
 refine (show WC _ _ _ _ [(0, ag (hl a0 v0_3 v0_5))] _ from ?_)
 refine sq (rg ?_)
 have L := h
 obtain ⟨l, m, o, rfl⟩ := F.shape
 have h := L
 have M := h
 obtain ⟨d, e, j, rfl⟩ := G.shape
 have h := M
 refine WL.box (O := (Lg.O0 A)) 11 (hl a0 (vl l m o) (vl d e j)) z z z ?_
 intro ah ad ae C Q
 refine WL.alloc (O := ad) 12 [vi 0, sn, vi 0, sn] ty94 z z ?_
 intro ai K af t S
 refine nl (th (sq (rg (wY (yf fo38_2 z) z ?_))))
 have H := Q.st t z
 refine wY (yL ty36 z z (H.cells 2 [vi a0.Pos.Offset, (vl l m o)] z) z) z (wY (yf fo38_3 z) z (wY (yL ty36 z z (H.cells 4 [vi a0.Neg.Offset, (vl d e j)] z) z) z (wY (yb (vals := [(0, ag [vi a0.Pos.Offset, (vl l m o)]), (1, ag [vi a0.Neg.Offset, (vl d e j)])]) (cells := [vi a0.Pos.Offset, (vl l m o), vi a0.Neg.Offset, (vl d e j)]) (fe_ z) (by kernel_rfl)) z (WL.store (v := ag [vi a0.Pos.Offset, (vl l m o), vi a0.Neg.Offset, (vl d e j)]) (cells' := [vi a0.Pos.Offset, (vl l m o), vi a0.Neg.Offset, (vl d e j)]) ty94 z z S z (le_ z) z z ?_))))
 intro T D U
 refine nl (th (rt ?_))
 obtain rfl := some1 h
 have I : Stp [12] (Lg.O0 A) w K T := (tr_ (su_ C z) (tr_ (su_ t z) (su_ D z)))
 have Z := ((F.i C z z).i t z z).i D z z
 have ac := ((G.i C z z).i t z z).i D z z
 exact At.res (.inl z) z (.cell z (U.runAg 0 [vi a0.Pos.Offset, (vl l m o), vi a0.Neg.Offset, (vl d e j)] ty94 z z z) .nil) ⟨[vi a0.Pos.Offset, (vl l m o), vi a0.Neg.Offset, (vl d e j)], z, (se_ I z z), (Rows'.outI (O' := K) (R := rep_api_Side) ⟨[vi a0.Pos.Offset, (vl l m o)], [vi a0.Neg.Offset, (vl d e j)], z, ⟨[vi a0.Pos.Offset], [(vl l m o)], z, z, ⟨_, z, Z⟩⟩, ⟨[vi a0.Neg.Offset, (vl d e j)], [], z, ⟨[vi a0.Neg.Offset], [(vl d e j)], z, z, ⟨_, z, ac⟩⟩, z⟩⟩ I low0 O0_A), z⟩
theorem c_hist_check {A : Nat → Prop} {v0_1 : Value} {a0 : api_Side} {w : World} (hs0_1 : Sl Rep.u w A v0_1 a0.Counts) {r0 : Int} (h : hist_check a0 = some r0) : Rets Tryz.prog 70 [ag [vi a0.Offset, v0_1]] w (fun v w' => v = vi r0 ∧ Ext w w') := by
 unfold hist_check at h
 refine Rets.enter Tryz.func70 z z ?_
 have Q : Sl Rep.u w (imm (Lg.O0 A)) v0_1 a0.Counts := (Sl.start hs0_1)
 refine (show WC _ _ _ _ [(0, ag [vi a0.Offset, v0_1])] _ from ?_)
 refine sq (rg ?_)
 have aa := h
 obtain ⟨aA, aC, aD, rfl⟩ := Q.shape
 have h := aa
 refine WL.box (O := (Lg.O0 A)) 11 [vi a0.Offset, (vl aA aC aD)] z z z ?_
 intro M m e j l
 refine wY (ya z) z (nl (th (sq (rg (wY (yf fo36_1 z) z (wY (yl ty34 z z (l.cell 1 _ z)) z ?_))))))
 have o := Q.i j z z
 refine wY (Y.len ty34 z o) z ?_
 obtain ⟨d, S, h⟩ := lt1 h
 refine WL.yE (ya z) (congrArg vi S.symm) z (nl (th (sq (WC.block (sq (rg (wY (ym z) z (wY (Y.gtr_i z z) z ?_))))))))
 obtain ⟨aN, ab, h⟩ := lt1 h
 refine WL.yE (ya z) (congrArg vB ab.symm) z (nl (th ?_))
 rcases cnd h with ⟨t, h⟩ | ⟨t, h⟩
 ·refine WC.condT' z t (sq (rg (wY (ya z) z (nl (th (rt (At.inBlockR (At.thenR ?_))))))))
  obtain rfl := some1 h
  have ac : Stp [] (Lg.O0 A) w m e := (su_ j z)
  exact At.res (.inl z) z (.tmp z .nil) ⟨z, (se_ ac z z)⟩
 ·refine WC.condF' z t (sq (rg (wY (ym z) z (wY (Y.eql_i z z) z (wY (ym z) z ?_)))))
  refine WL.cut 4 (σ := Unit) (fun _ w' => e = w') (fun _ => [(1, pt M 0), (3, vi d), (17, vB ((decide (d = 0)) && (!decide (a0.Offset = 0))))]) ?_ ?_
  ·refine WL.part 13 z (fun C => ?_) (fun C => ?_)
   ·refine ug z z (wY (yf fo36_0 z) z (ug z z (wY (yl ty3 z z (l.cell 0 _ z)) z (ug z z (wY (Y.neq_i z z) z (wY (Y.pick (b := true) z z) z (WL.ren (v' := vB ((decide (d = 0)) && (!decide (a0.Offset = 0)))) 17 z (congrArg vB (andT C)) ?_)))))))
    exact nl (At.join () z (.cons z (.cons z (.cons z .nil))))
   ·refine WL.gS z z z z (WL.gS z z z z (WL.gS z z z z (wY (Y.pick (b := false) z z) z (WL.ren (v' := vB ((decide (d = 0)) && (!decide (a0.Offset = 0)))) 17 z (congrArg vB (andF C)) ?_))))
    exact nl (At.join () z (.cons z (.cons z (.cons z .nil))))
  ·rintro _ _ rfl
   refine (show WL _ _ _ _ _ [(1, pt M 0), (3, vi d), (17, vB ((decide (d = 0)) && (!decide (a0.Offset = 0))))] _ from ?_)
   obtain ⟨aO, ad, h⟩ := lt1 h
   refine WL.yE (ya z) (congrArg vB ad.symm) z (nl (th ?_))
   rcases cnd h with ⟨D, h⟩ | ⟨D, h⟩
   ·refine WC.condT' z D (sq (rg (wY (ya z) z (nl (th (rt (At.inBlockR (At.thenR ?_))))))))
    obtain rfl := some1 h
    have ae : Stp [] (Lg.O0 A) w m e := (su_ j z)
    exact At.res (.inl z) z (.tmp z .nil) ⟨z, (se_ ae z z)⟩
   ·refine WC.condF' z D (sq (rg (wY (ym z) z (wY (Y.eql_i z z) z ?_))))
    obtain ⟨aP, af, h⟩ := lt1 h
    refine WL.yE (ya z) (congrArg vB af.symm) z (nl (th ?_))
    rcases cnd h with ⟨F, h⟩ | ⟨F, h⟩
    ·refine WC.condT' z F (sq (rg (wY (ya z) z (nl (th (rt (At.inBlockR (At.thenR ?_))))))))
     obtain rfl := some1 h
     have ah : Stp [] (Lg.O0 A) w m e := (su_ j z)
     exact At.res (.inl z) z (.tmp z .nil) ⟨z, (se_ ah z z)⟩
    ·refine WC.condF' z F (sq (rg (wY (yf fo36_1 z) z (wY (yl ty34 z z (l.cell 1 _ z)) z ?_))))
     obtain ⟨aE, ai, h⟩ := bnd h
     obtain ⟨aQ, aH, aI, aL, aj, ak, al, G, T, am⟩ := Sl.at2 o ai
     obtain rfl := T
     replace G : CellsAt _ _ _ [vu aE] := G
     have U := CAt.imm G am
     refine wY (Y.indexAddr ty34 ty33 z aj z ak al) z (wY (yl ty33 z z U.at_) z (wY (Y.eql_u (b := 0) z z) z (wY (ym z) z ?_)))
     obtain ⟨aF, h, an⟩ := bnd h
     refine WL.cut 8 (σ := Bool) (fun x w' => x = aF ∧ e = w') (fun x => [(1, pt M 0), (3, vi d), (35, vB x)]) ?_ ?_
     ·rcases cnd h with ⟨H, h⟩ | ⟨H, h⟩
      ·refine WL.ren 27 z (congrArg vB H) (WL.gS z z z z (WL.gS z z z z (WL.gS z z z z (WL.gS z z z z (WL.gS z z z z (WL.gS z z z z (WL.gS z z z z (wY (Y.pick (b := true) z z) z ?_))))))))
       exact nl (At.join (σ := Bool) true ⟨some1 h, z⟩ (.cons z (.cons z (.cons z .nil))))
      ·refine WL.ren 27 z (congrArg vB H) (ug z z (wY (yf fo36_1 z) z (ug z z (wY (yl ty34 z z (l.cell 1 _ z)) z (ug z z (wY (ym z) z (ug z z (wY (Y.sub_i z z) z (ug z z ?_)))))))))
       obtain ⟨Z, ao, h⟩ := bnd h
       obtain ⟨aR, aJ, aK, aM, ap, aq, ar, I, V, au⟩ := Sl.at2 o ao
       obtain rfl := V
       replace I : CellsAt _ _ _ [vu Z] := I
       have W := CAt.imm I au
       refine wY (Y.indexAddr ty34 ty33 z ap z aq ar) z (ug z z (wY (yl ty33 z z W.at_) z (ug z z (wY (Y.eql_u (b := 0) z z) z (wY (Y.pick (b := false) z z) z ?_)))))
       exact nl (At.join (σ := Bool) (decide (Z = 0)) ⟨some1 h, z⟩ (.cons z (.cons z (.cons z .nil))))
     ·rintro aG _ ⟨rfl, rfl⟩
      replace h := an
      try dsimp only at h
      refine (show WL _ _ _ _ _ [(1, pt M 0), (3, vi d), (35, vB aG)] _ from ?_)
      refine wY (ya z) z (nl (th ?_))
      rcases cnd h with ⟨J, h⟩ | ⟨J, h⟩
      ·refine WC.condT' z J (sq (rg (wY (ya z) z (nl (th (rt (At.inBlockR (At.thenR ?_))))))))
       obtain rfl := some1 h
       have av : Stp [] (Lg.O0 A) w m e := (su_ j z)
       exact At.res (.inl z) z (.tmp z .nil) ⟨z, (se_ av z z)⟩
      ·refine WC.condF' z J (sq (rg (wY (yf fo36_0 z) z (wY (yl ty3 z z (l.cell 0 _ z)) z (wY (Y.lss_i z z) z (wY (ym z) z ?_))))))
       refine WL.cut 7 (σ := Unit) (fun _ w' => e = w') (fun _ => [(47, vB ((decide (a0.Offset < (-1073741824))) || (decide (w64 (1073741824 - (w64 (d - 1))) < a0.Offset))))]) ?_ ?_
       ·refine WL.part 40 z (fun K => ?_) (fun K => ?_)
        ·refine WL.gS z z z z (WL.gS z z z z (WL.gS z z z z (WL.gS z z z z (WL.gS z z z z (WL.gS z z z z (wY (Y.pick (b := true) z z) z (WL.ren (v' := vB ((decide (a0.Offset < (-1073741824))) || (decide (w64 (1073741824 - (w64 (d - 1))) < a0.Offset)))) 47 z (congrArg vB (orT K)) ?_)))))))
         exact nl (At.join () z (.cons z .nil))
        ·refine ug z z (wY (yf fo36_0 z) z (ug z z (wY (yl ty3 z z (l.cell 0 _ z)) z (ug z z (wY (ym z) z (ug z z (wY (Y.sub_i z z) z (ug z z (wY (Y.sub_i z z) z ?_)))))))))
         refine ug z z (wY (Y.gtr_i z z) z (wY (Y.pick (b := false) z z) z (WL.ren (v' := vB ((decide (a0.Offset < (-1073741824))) || (decide (w64 (1073741824 - (w64 (d - 1))) < a0.Offset)))) 47 z (congrArg vB (orF K)) ?_)))
         exact nl (At.join () z (.cons z .nil))
       ·rintro _ _ rfl
        refine (show WL _ _ _ _ _ [(47, vB ((decide (a0.Offset < (-1073741824))) || (decide (w64 (1073741824 - (w64 (d - 1))) < a0.Offset))))] _ from ?_)
        obtain ⟨aS, ax, h⟩ := lt1 h
        refine WL.yE (ya z) (congrArg vB ax.symm) z (nl (th ?_))
        rcases cnd h with ⟨L, h⟩ | ⟨L, h⟩
        ·refine WC.condT' z L (sq (rg (wY (ya z) z (nl (th (rt (At.inBlockR (At.thenR ?_))))))))
         obtain rfl := some1 h
         have ay : Stp [] (Lg.O0 A) w m e := (su_ j z)
         exact At.res (.inl z) z (.tmp z .nil) ⟨z, (se_ ay z z)⟩
        ·refine WC.condF' z L (sk (At.inBlock (th (sq (rg (wY (ya z) z (nl (th (rt ?_)))))))))
         obtain rfl := some1 h
         have az : Stp [] (Lg.O0 A) w m e := (su_ j z)
         exact At.res (.inl z) z (.tmp z .nil) ⟨z, (se_ az z z)⟩
theorem c_hist_Total {A : Nat → Prop} {v0_3 : Value} {v0_5 : Value} {a0 : api_Hist} {w : World} (hs0_3 : Sl Rep.u w A v0_3 a0.Pos.Counts) (hs0_5 : Sl Rep.u w A v0_5 a0.Neg.Counts) {r0 : UInt64} {r1 : Bool} (h : hist_Total a0 = some (r0, r1)) : Rets Tryz.prog 71 [ag (hl a0 v0_3 v0_5)] w (fun v w' => v = tp [vu r0, vB r1] ∧ Ext w w') := by
 unfold hist_Total at h
 refine Rets.enter Tryz.func71 z z ?_
 have an : Sl Rep.u w (imm (Lg.O0 A)) v0_3 a0.Pos.Counts := (Sl.start hs0_3)
 have ao : Sl Rep.u w (imm (Lg.O0 A)) v0_5 a0.Neg.Counts := (Sl.start hs0_5)
 refine (show WC _ _ _ _ [(0, ag (hl a0 v0_3 v0_5))] _ from ?_)
 refine sq (rg ?_)
 have a4 := h
 obtain ⟨ap, aq, ar, rfl⟩ := an.shape
 have h := a4
 have a5 := h
 obtain ⟨au, av, ax, rfl⟩ := ao.shape
 have h := a5
 refine WL.box (O := (Lg.O0 A)) 11 (hl a0 (vl ap aq ar) (vl au av ax)) z z z ?_
 intro bK ay bD j az
 refine wY (ya (v := vu 0) z) z (wY (ya z) z (nl (th (sq (rg (wY (yf fo38_1 z) z (wY (yl ty33 z z (az.cell 1 _ z)) z (wY (ya z) z (wY (ya (v := vu 0) z) z ?_)))))))))
 refine nl (th (sq (sq (rg (wY (yL ty38 z z (az.cells 0 (hl a0 (vl ap aq ar) (vl au av ax)) z) z) z ?_)))))
 have a6 := an.i j z z
 have a7 := ao.i j z z
 obtain ⟨bo, a8, h⟩ := bnd h
 refine WL.call (vals := [ag (hl a0 (vl ap aq ar) (vl au av ax))]) kok69 z z (c_hist_sides (A := imm ay) (a0 := a0) a6 a7 a8) ?_
 rintro bE Q ⟨d, rfl, a9, bp, bq⟩
 obtain ⟨V, aA, aC, W⟩ := adoptE ay (fun k => 1) a9
 have ba := Rows'.adoptI (O := ay) bp (fun _ hk => hk) (fun _ _ => Nat.le_refl _) aA aC
 refine wY (ym z) z (nl (th ?_))
 obtain ⟨br, h, bb⟩ := bnd h
 refine WC.join (σ := (UInt64 × UInt64 × Own)) (fun x w' => (x.1, x.2.1) = br ∧ Stp [12] V Q x.2.2 w') (fun x => [(4, vu x.1), (5, vu x.2.1)]) ?_ ?_
 ·refine WC.block ?_
  obtain ⟨aX, h, bc⟩ := flow1 h
  obtain ⟨aY, h⟩ := loop_some h
  refine WC.joinB 0 (σ := (UInt64 × UInt64 × Own)) (fun x w' => aX = .go (x.1, x.2.1) ∧ Stp [12] V Q x.2.2 w') (fun x => [(4, vu x.1), (5, vu x.2.1)]) ?_ ?_
  ·refine WC.loop (σ := (UInt64 × UInt64 × Int × Own)) (fun x k w' => loopN k (hist_Total_lp1 bo) (x.1, x.2.1, x.2.2.1) = some aX ∧ Stp [12] V Q x.2.2.2 w') (fun x => [(4, vu x.1), (5, vu x.2.1), (14, Value.agg (List.toArray d)), (15, vi x.2.2.1)]) (a0.Zero, 0, 0, V) aY (.cons z (.cons z (.cons z (.cons z .nil)))) ⟨h, (sr_ _ _ _)⟩ ?_
   rintro ⟨t, m, e, aD⟩ aY bd ⟨h, l⟩
   obtain ⟨bs, bL, rfl, h, aE⟩ := rnd1 h
   unfold hist_Total_lp1 at h
   try dsimp only at h l
   refine (show WC _ _ _ _ [(4, vu t), (5, vu m), (14, Value.agg (List.toArray d)), (15, vi e)] _ from ?_)
   refine sq (rg (wY (Y.lss_i z z) z (nl (th (sq ?_)))))
   rcases cnd h with ⟨S, h⟩ | ⟨S, h⟩
   ·refine WC.condT' z S (sk (th (sq (WC.block (sq (rg ?_))))))
    have bf := Rows'.i ba l z z
    obtain ⟨o, aF, h⟩ := bnd h
    obtain ⟨bF, C, aN⟩ := arrAt (R := rep_api_Side) (w := bd) (A := imm aD) (cells := d) bf aF
    obtain ⟨_, _, rfl, rfl, ⟨bt, rfl, bg⟩⟩ := aN
    replace C : _ = [vi o.Offset, bt] := C
    refine wY (Y.indexArrAg ty94 ty36 z z C aF bq) z (WL.alloc (O := aD) 12 [vi 0, sn] ty36 z z ?_)
    intro bM bu bG Z bh
    have aG := bg.i Z z z
    have bi := h
    obtain ⟨aa, ab, ac, rfl⟩ := aG.shape
    have h := bi
    refine WL.store (v := ag [vi o.Offset, (vl aa ab ac)]) (cells' := [vi o.Offset, (vl aa ab ac)]) ty36 z z bh z (le_ z) z z ?_
    intro T ad bj
    refine nl (th (sq (rg (wY (yf fo36_1 z) z (wY (yl ty34 z z (bj.cell 1 _ z)) z ?_)))))
    have aH := aG.i ad z z
    refine wY (Y.len ty34 z aH) z (wY (ym z) z (nl (th ?_)))
    obtain ⟨bw, h, bk⟩ := bnd h
    refine WC.join (σ := (UInt64 × UInt64)) (fun x w' => (x.1, x.2) = bw ∧ T = w') (fun x => [(4, vu x.1), (5, vu x.2), (14, Value.agg (List.toArray d)), (15, vi e)]) ?_ ?_
    ·refine WC.block ?_
     obtain ⟨aZ, h, bl⟩ := flow1 h
     obtain ⟨a1, h⟩ := loop_some h
     refine WC.joinB 2 (σ := (UInt64 × UInt64)) (fun x w' => aZ = .go (x.1, x.2) ∧ T = w') (fun x => [(4, vu x.1), (5, vu x.2), (14, Value.agg (List.toArray d)), (15, vi e)]) ?_ ?_
     ·refine WC.loop (σ := (UInt64 × UInt64 × Int)) (fun x k w' => loopN k (hist_Total_lp2 o) (x.1, x.2.1, x.2.2) = some aZ ∧ T = w') (fun x => [(4, vu x.1), (5, vu x.2.1), (14, Value.agg (List.toArray d)), (15, vi e), (19, (vl aa ab ac)), (20, vi (o.Counts.length : Int)), (21, vi x.2.2)]) (t, m, 0) a1 (.cons z (.cons z (.cons z (.cons z (.cons z (.cons z (.cons z .nil))))))) ⟨h, z⟩ ?_
      rintro ⟨ae, I, a2⟩ a1 _ ⟨h, rfl⟩
      obtain ⟨bx, bH, rfl, h, af⟩ := rnd1 h
      unfold hist_Total_lp2 at h
      try dsimp only at h
      refine (show WC _ _ _ _ [(4, vu ae), (5, vu I), (14, Value.agg (List.toArray d)), (15, vi e), (19, (vl aa ab ac)), (20, vi (o.Counts.length : Int)), (21, vi a2)] _ from ?_)
      refine sq (rg (wY (Y.lss_i z z) z (nl (th (sq ?_)))))
      rcases cnd h with ⟨D, h⟩ | ⟨D, h⟩
      ·refine WC.condT' z D (sk (th (sq (WC.block (sq (rg ?_))))))
       obtain ⟨bm, aO, h⟩ := bnd h
       obtain ⟨bI, bz, bA, bC, aP, aQ, aR, F, aI, aS⟩ := Sl.at2 aH aO
       obtain rfl := aI
       replace F : CellsAt _ _ _ [vu bm] := F
       have aJ := CAt.imm F aS
       refine wY (Y.indexAddr ty34 ty33 z aP z aQ aR) z (wY (yl ty33 z z aJ.at_) z (wY (ya z) z (nl (th (sq (rg (wY (ya (v := vu 0) z) z (nl (th ?_)))))))))
       refine sq (rg (wY (ym z) z (wY (ym z) z (wY (Y.add64 (c := 0) x64_110 (by decide) z z z) z (wY (ym z) z (wY (yx z z) z (wY (yx z z) z ?_)))))))
       obtain ⟨aK, al, h⟩ := lt1 h
       refine WL.yE (ya z) (congrArg vu al.symm) z ?_
       obtain ⟨bn, J, h⟩ := lt1 h
       refine WL.yE (ya z) (congrArg vu J.symm) z (nl (th (rg (wY (ym z) z (wY (ym z) z (wY (Y.or_u z z) z ?_))))))
       obtain ⟨am, U, h⟩ := lt1 h
       refine WL.yE (ya z) (congrArg vu U.symm) z (nl (At.inBlock (th (rg (wY (Y.add_i z z) z (wY (ym z) z (nl ?_)))))))
       exact At.round (aK, am, w64 (a2 + 1)) bx (Nat.lt_succ_self _) ⟨next1 h af, z⟩ (.cons z (.cons z (.cons z (.cons z (.cons z (.cons z (.cons z .nil)))))))
      ·refine WC.condF' z D (WC.exit (At.thenX (At.loopX ?_)))
       exact At.hitB (σ := (UInt64 × UInt64)) (ae, I) ⟨brk1 h af, z⟩ (.cons z (.cons z (.cons z (.cons z .nil))))
     ·rintro ⟨ah, K⟩ _ ⟨rfl, rfl⟩
      replace h := flowK_go bl
      try dsimp only at h
      refine (show At _ _ _ [(4, vu ah), (5, vu K), (14, Value.agg (List.toArray d)), (15, vi e)] _ from ?_)
      refine At.inBlockHit ?_
      exact At.join (σ := (UInt64 × UInt64)) (ah, K) ⟨some1 h, z⟩ (.cons z (.cons z (.cons z (.cons z .nil))))
    ·rintro ⟨ai, L⟩ _ ⟨rfl, rfl⟩
     replace h := bk
     try dsimp only at h
     refine (show At _ _ _ [(4, vu ai), (5, vu L), (14, Value.agg (List.toArray d)), (15, vi e)] _ from ?_)
     refine At.inBlock (th (rg (wY (Y.add_i z z) z (wY (ym z) z (nl ?_)))))
     exact At.round (ai, L, w64 (e + 1), bu) bs (Nat.lt_succ_self _) ⟨next1 h aE, (tr_ (su_ l z) (tr_ (su_ Z z) (su_ ad z)))⟩ (.cons z (.cons z (.cons z (.cons z .nil))))
   ·refine WC.condF' z S (WC.exit (At.thenX (At.loopX ?_)))
    exact At.hitB (σ := (UInt64 × UInt64 × Own)) (t, m, aD) ⟨brk1 h aE, (su_ l z)⟩ (.cons z (.cons z .nil))
  ·rintro ⟨aj, M, bB⟩ bJ ⟨rfl, ak⟩
   replace h := flowK_go bc
   try dsimp only at h ak
   refine (show At _ _ _ [(4, vu aj), (5, vu M)] _ from ?_)
   refine At.inBlockHit ?_
   exact At.join (σ := (UInt64 × UInt64 × Own)) (aj, M, bB) ⟨some1 h, (su_ ak z)⟩ (.cons z (.cons z .nil))
 ·rintro ⟨aT, aL, a3⟩ aM ⟨rfl, G⟩
  replace h := bb
  try dsimp only at h G
  refine (show At _ _ _ [(4, vu aT), (5, vu aL)] _ from ?_)
  refine th (sq (sq (rg (wY (ym z) z (wY (Y.neq_u (b := 0) z z) z (nl (th ?_)))))))
  rcases cnd h with ⟨H, h⟩ | ⟨H, h⟩
  ·refine WC.condT' z H (sq (rg (wY (ya (v := vu 0) z) z (wY (ya z) z (nl (th (rt (At.thenR ?_))))))))
   obtain ⟨rfl, rfl⟩ := tup2 h
   have aU : Stp [12] (Lg.O0 A) w a3 aM := (tr_ (su_ j z) (tr_ (su_ W z) (su_ G z)))
   exact At.res (.inl z) z (.tmp z (.tmp z .nil)) ⟨z, (se_ aU z z)⟩
  ·refine WC.condF' z H (sk (th (sq (rg (wY (ym z) z (wY (ya z) z (wY (ya z) z (nl (th ?_)))))))))
   refine rt ?_
   obtain ⟨rfl, rfl⟩ := tup2 h
   have aW : Stp [12] (Lg.O0 A) w a3 aM := (tr_ (su_ j z) (tr_ (su_ W z) (su_ G z)))
   exact At.res (.inl z) z (.tmp z (.tmp z .nil)) ⟨z, (se_ aW z z)⟩
theorem c_hist_Check {A : Nat → Prop} {v0_3 : Value} {v0_5 : Value} {a0 : api_Hist} {w : World} (hs0_3 : Sl Rep.u w A v0_3 a0.Pos.Counts) (hs0_5 : Sl Rep.u w A v0_5 a0.Neg.Counts) {r0 : Int} (h : hist_Check a0 = some r0) : Rets Tryz.prog 39 [ag (hl a0 v0_3 v0_5)] w (fun v w' => v = vi r0 ∧ Ext w w') := by
 unfold hist_Check at h
 refine Rets.enter Tryz.func39 z z ?_
 have aj : Sl Rep.u w (imm (Lg.O0 A)) v0_3 a0.Pos.Counts := (Sl.start hs0_3)
 have ak : Sl Rep.u w (imm (Lg.O0 A)) v0_5 a0.Neg.Counts := (Sl.start hs0_5)
 refine (show WC _ _ _ _ [(0, ag (hl a0 v0_3 v0_5))] _ from ?_)
 refine sq (rg ?_)
 have aL := h
 obtain ⟨H, I, J, rfl⟩ := aj.shape
 have h := aL
 have aM := h
 obtain ⟨K, L, M, rfl⟩ := ak.shape
 have h := aM
 refine WL.box (O := (Lg.O0 A)) 11 (hl a0 (vl H I J) (vl K L M)) z z z ?_
 intro m ab al d t
 refine wY (ya z) z (nl (th (sq (sq (rg (wY (yf fo38_0 z) z (wY (yl ty3 z z (t.cell 0 _ z)) z (wY (Y.lss_i z z) z (wY (ym z) z ?_)))))))))
 refine WL.cut 4 (σ := Unit) (fun _ w' => al = w') (fun _ => [(1, pt m 0), (15, vB ((decide (a0.Scale < (-10))) || (decide (20 < a0.Scale))))]) ?_ ?_
 ·refine WL.part 11 z (fun S => ?_) (fun S => ?_)
  ·refine WL.gS z z z z (WL.gS z z z z (WL.gS z z z z (wY (Y.pick (b := true) z z) z (WL.ren (v' := vB ((decide (a0.Scale < (-10))) || (decide (20 < a0.Scale)))) 15 z (congrArg vB (orT S)) ?_))))
   exact nl (At.join () z (.cons z (.cons z .nil)))
  ·refine ug z z (wY (yf fo38_0 z) z (ug z z (wY (yl ty3 z z (t.cell 0 _ z)) z (ug z z (wY (Y.gtr_i z z) z (wY (Y.pick (b := false) z z) z (WL.ren (v' := vB ((decide (a0.Scale < (-10))) || (decide (20 < a0.Scale)))) 15 z (congrArg vB (orF S)) ?_)))))))
   exact nl (At.join () z (.cons z (.cons z .nil)))
 ·rintro _ _ rfl
  refine (show WL _ _ _ _ _ [(1, pt m 0), (15, vB ((decide (a0.Scale < (-10))) || (decide (20 < a0.Scale))))] _ from ?_)
  refine nl (th ?_)
  rcases cnd h with ⟨T, h⟩ | ⟨T, h⟩
  ·refine WC.condT' z T (sq (rg (wY (ya z) z (nl (th (rt (At.thenR ?_)))))))
   obtain rfl := some1 h
   have aN : Stp [] (Lg.O0 A) w ab al := (su_ d z)
   exact At.res (.inl z) z (.tmp z .nil) ⟨z, (se_ aN z z)⟩
  ·refine WC.condF' z T (sk (th (sq (sq (rg (wY (yL ty38 z z (t.cells 0 (hl a0 (vl H I J) (vl K L M)) z) z) z ?_))))))
   have am := aj.i d z z
   have an := ak.i d z z
   obtain ⟨bb, aO, h⟩ := bnd h
   refine WL.call (vals := [ag (hl a0 (vl H I J) (vl K L M))]) kok69 z z (c_hist_sides (A := imm ab) (a0 := a0) am an aO) ?_
   rintro bo U ⟨V, rfl, aP, bc, bd⟩
   obtain ⟨ac, ao, ap, e⟩ := adoptE ab (fun k => 1) aP
   have aQ := Rows'.adoptI (O := ab) bc (fun _ hk => hk) (fun _ _ => Nat.le_refl _) ao ap
   refine wY (ym z) z (nl (th ?_))
   obtain ⟨bf, h, aq⟩ := flow1 h
   refine WC.join (σ := Own) (fun x w' => bf = .go () ∧ Stp [12] ac U x w') (fun x => [(1, pt m 0)]) ?_ ?_
   ·refine WC.block ?_
    obtain ⟨aH, h, ar⟩ := flow1 h
    obtain ⟨aI, h⟩ := loop_some h
    refine WC.joinB 0 (σ := Own) (fun x w' => aH = .go () ∧ Stp [12] ac U x w') (fun x => [(1, pt m 0)]) ?_ ?_
    ·refine WC.loop (σ := (Int × Own)) (fun x k w' => loopN k (hist_Check_lp1 bb) x.1 = some aH ∧ Stp [12] ac U x.2 w') (fun x => [(1, pt m 0), (17, Value.agg (List.toArray V)), (18, vi x.1)]) (0, ac) aI (.cons z (.cons z (.cons z .nil))) ⟨h, (sr_ _ _ _)⟩ ?_
     rintro ⟨aJ, au⟩ aI aR ⟨h, j⟩
     obtain ⟨bg, bz, rfl, h, W⟩ := rnd1 h
     unfold hist_Check_lp1 at h
     try dsimp only at h j
     refine (show WC _ _ _ _ [(1, pt m 0), (17, Value.agg (List.toArray V)), (18, vi aJ)] _ from ?_)
     refine sq (rg (wY (Y.lss_i z z) z (nl (th (sq ?_)))))
     rcases cnd h with ⟨Z, h⟩ | ⟨Z, h⟩
     ·refine WC.condT' z Z (sk (th (sq (WC.block (sq (rg ?_))))))
      have aS := Rows'.i aQ j z z
      obtain ⟨o, av, h⟩ := bnd h
      obtain ⟨bp, C, az⟩ := arrAt (R := rep_api_Side) (w := aR) (A := imm au) (cells := V) aS av
      obtain ⟨_, _, rfl, rfl, ⟨bh, rfl, aT⟩⟩ := az
      replace C : _ = [vi o.Offset, bh] := C
      refine wY (Y.indexArrAg ty94 ty36 z z C av bd) z (WL.alloc (O := au) 12 [vi 0, sn] ty36 z z ?_)
      intro bA bi bq D aU
      have ax := aT.i D z z
      have aW := h
      obtain ⟨ad, ae, af, rfl⟩ := ax.shape
      have h := aW
      refine WL.store (v := ag [vi o.Offset, (vl ad ae af)]) (cells' := [vi o.Offset, (vl ad ae af)]) ty36 z z aU z (le_ z) z z ?_
      intro br F aX
      refine nl (th (sq (rg (wY (yL ty36 z z (aX.cells 0 [vi o.Offset, (vl ad ae af)] z) z) z ?_))))
      have aY := ax.i F z z
      obtain ⟨bB, aZ, h⟩ := bnd h
      refine WL.call (vals := [ag [vi o.Offset, (vl ad ae af)]]) kok70 z z (c_hist_check (A := fun _ => True) (a0 := o) (Sl.all aY) aZ) ?_
      rintro bs a1 ⟨rfl, a2⟩
      obtain ⟨aK, bj, bk, ah⟩ := adoptE bi (fun k => 1) a2
      refine wY (ya z) z (nl (th (sq (rg (wY (ym z) z (wY (Y.neq_i z z) z (nl (th ?_))))))))
      rcases cnd h with ⟨aa, h⟩ | ⟨aa, h⟩
      ·refine WC.condT' z aa (sq (rg (wY (ym z) z (wY (ya z) z (nl (th (rt (At.inBlockR (At.thenR ?_)))))))))
       refine At.loopR ?_
       have h := outr1 h W ar
       refine At.joinBR (At.inBlockR ?_)
       have h := outs1 h aq
       refine At.joinR (At.thenR ?_)
       obtain rfl := some1 h
       have a3 : Stp [12] (Lg.O0 A) w aK a1 := (tr_ (su_ d z) (tr_ (su_ e z) (tr_ (su_ j z) (tr_ (su_ D z) (tr_ (su_ F z) (su_ ah z))))))
       exact At.res (.inl z) z (.tmp z .nil) ⟨z, (se_ a3 z z)⟩
      ·refine WC.condF' z aa (sk (At.inBlock (th (rg (wY (Y.add_i z z) z (wY (ym z) z (nl ?_)))))))
       exact At.round (w64 (aJ + 1), aK) bg (Nat.lt_succ_self _) ⟨next1 h W, (tr_ (su_ j z) (tr_ (su_ D z) (tr_ (su_ F z) (su_ ah z))))⟩ (.cons z (.cons z (.cons z .nil)))
     ·refine WC.condF' z Z (WC.exit (At.thenX (At.loopX ?_)))
      exact At.hitB (σ := Own) au ⟨brk1 h W, (su_ j z)⟩ (.cons z .nil)
    ·rintro bl bt ⟨rfl, aA⟩
     replace h := flowK_go ar
     refine (show At _ _ _ [(1, pt m 0)] _ from ?_)
     refine At.inBlockHit ?_
     exact At.join (σ := Own) bl ⟨go2 h, (su_ aA z)⟩ (.cons z .nil)
   ·rintro bm bu ⟨rfl, l⟩
    replace h := flowK_go aq
    refine (show At _ _ _ [(1, pt m 0)] _ from ?_)
    refine th (sq (sq (rg ?_)))
    have a5 := (t.st e z).st l z
    refine wY (yL ty38 z z (a5.cells 0 (hl a0 (vl H I J) (vl K L M)) z) z) z ?_
    have a7 := (am.i e z z).i l z z
    have aC := (an.i e z z).i l z z
    obtain ⟨⟨bw, bx⟩, aD, h⟩ := bnd h
    refine WL.call (vals := [ag (hl a0 (vl H I J) (vl K L M))]) kok71 z z (c_hist_Total (A := fun _ => True) (a0 := a0) (Sl.all a7) (Sl.all aC) aD) ?_
    rintro bn ai ⟨rfl, aE⟩
    obtain ⟨ay, a9, ba, Q⟩ := adoptE bm (fun k => 1) aE
    refine wY (ym z) z (wY (yx z z) z (wY (yx z z) z (wY (ya z) z (wY (ya z) z (nl (th (sq (rg (wY (ym z) z ?_)))))))))
    refine wY (Y.not z) z (nl (th ?_))
    rcases cnd h with ⟨G, h⟩ | ⟨G, h⟩
    ·refine WC.condT' z G (sq (rg (wY (ya z) z (nl (th (rt (At.thenR ?_)))))))
     obtain rfl := some1 h
     have aF : Stp [12] (Lg.O0 A) w ay ai := (tr_ (su_ d z) (tr_ (su_ e z) (tr_ (su_ l z) (su_ Q z))))
     exact At.res (.inl z) z (.tmp z .nil) ⟨z, (se_ aF z z)⟩
    ·refine WC.condF' z G (sk (th (sq (rg (wY (ya z) z (nl (th (rt ?_))))))))
     obtain rfl := some1 h
     have aG : Stp [12] (Lg.O0 A) w ay ai := (tr_ (su_ d z) (tr_ (su_ e z) (tr_ (su_ l z) (su_ Q z))))
     exact At.res (.inl z) z (.tmp z .nil) ⟨z, (se_ aG z z)⟩
theorem c_point_Check {A : Nat → Prop} {v0_1 : Value} {v0_13 : Value} {v0_15 : Value} {a0 : api_Point} {w : World} (hs0_1 : Sl rep_api_Pair w A v0_1 a0.Attrs) (hs0_13 : Sl Rep.u w A v0_13 a0.Hist.Pos.Counts) (hs0_15 : Sl Rep.u w A v0_15 a0.Hist.Neg.Counts) {r0 : Int} (h : point_Check a0 = some r0) : Rets Tryz.prog 17 [ag (cp a0 v0_1 v0_13 v0_15)] w (fun v w' => v = vi r0 ∧ Ext w w') := by
 unfold point_Check at h
 refine Rets.enter Tryz.func17 z z ?_
 have aH : Sl rep_api_Pair w (imm (Lg.O0 A)) v0_1 a0.Attrs := (Sl.start hs0_1)
 have aI : Sl Rep.u w (imm (Lg.O0 A)) v0_13 a0.Hist.Pos.Counts := (Sl.start hs0_13)
 have aJ : Sl Rep.u w (imm (Lg.O0 A)) v0_15 a0.Hist.Neg.Counts := (Sl.start hs0_15)
 refine (show WC _ _ _ _ [(0, ag (cp a0 v0_1 v0_13 v0_15))] _ from ?_)
 refine sq (rg ?_)
 have bu := h
 obtain ⟨L, M, Q, rfl⟩ := aH.shape
 have h := bu
 have bw := h
 obtain ⟨F, G, H, rfl⟩ := aI.shape
 have h := bw
 have bx := h
 obtain ⟨I, J, K, rfl⟩ := aJ.shape
 have h := bx
 refine WL.box (O := (Lg.O0 A)) 11 (cp a0 (vl L M Q) (vl F G H) (vl I J K)) z z z ?_
 intro D cq cL j ap
 refine wY (ya z) z (nl (th (sq (sq (rg (wY (yf fo40_0 z) z (wY (yl ty9 z z (ap.cell 0 _ z)) z (wY (yf fo40_1 z) z (wY (yl ty32 z z (ap.cell 1 _ z)) z ?_)))))))))
 have aK := aH.i j z z
 obtain ⟨cX, bz, h⟩ := bnd h
 refine WL.call (vals := [vs a0.Name, (vl L M Q)]) kok32 z z (c_label_Check (A := fun _ => True) (Sl.all aK) bz) ?_
 rintro cM bA ⟨rfl, bB⟩
 obtain ⟨bq, cr, cs, e⟩ := adoptE cq (fun k => 1) bB
 refine wY (ya z) z (nl (th (sq (rg (wY (ym z) z (wY (Y.neq_i z z) z (nl (th ?_))))))))
 rcases cnd h with ⟨aq, h⟩ | ⟨aq, h⟩
 ·refine WC.condT' z aq (sq (rg (wY (ym z) z (wY (ya z) z (nl (th (rt (At.thenR ?_))))))))
  obtain rfl := some1 h
  have bC : Stp [] (Lg.O0 A) w bq bA := (tr_ (su_ j z) (su_ e z))
  exact At.res (.inl z) z (.tmp z .nil) ⟨z, (se_ bC z z)⟩
 ·refine WC.condF' z aq (sk (th (sq (WC.block (sq (rg ?_))))))
  have ar := ap.st e z
  refine wY (yL ty40 z z (ar.cells 0 (cp a0 (vl L M Q) (vl F G H) (vl I J K)) z) z) z ?_
  have V := aK.i e z z
  have W := (aI.i j z z).i e z z
  have Z := (aJ.i j z z).i e z z
  obtain ⟨cY, bF, h⟩ := bnd h
  refine WL.call (vals := [ag (cp a0 (vl L M Q) (vl F G H) (vl I J K))]) kok33 z z (c_point_kinds (A := fun _ => True) (a0 := a0) (Sl.all V) (Sl.all W) (Sl.all Z) bF) ?_
  rintro cN au ⟨rfl, bG⟩
  obtain ⟨an, ct, cu, d⟩ := adoptE bq (fun k => 1) bG
  refine wY (Y.not z) z ?_
  obtain ⟨cZ, bH, h⟩ := lt1 h
  refine WL.yE (ya z) (congrArg vB bH.symm) z (nl (th ?_))
  rcases cnd h with ⟨av, h⟩ | ⟨av, h⟩
  ·refine WC.condT' z av (sq (rg (wY (ya z) z (nl (th (rt (At.inBlockR (At.thenR ?_))))))))
   obtain rfl := some1 h
   have bI : Stp [] (Lg.O0 A) w an au := (tr_ (su_ j z) (tr_ (su_ e z) (su_ d z)))
   exact At.res (.inl z) z (.tmp z .nil) ⟨z, (se_ bI z z)⟩
  ·refine WC.condF' z av (sq ?_)
   obtain ⟨cw, h, bJ⟩ := bnd h
   refine WC.join (σ := (Bool × Own)) (fun x w' => x.1 = cw ∧ Stp [] an au x.2 w') (fun x => [(1, pt D 0), (16, vB x.1)]) ?_ ?_
   ·refine sq (rg (wY (yf fo40_4 z) z ?_))
    have ax := ar.st d z
    refine wY (yl ty4 z z (ax.cell 4 _ z)) z (wY (ym z) z ?_)
    obtain ⟨cx, h, bK⟩ := bnd h
    refine WL.cut 4 (σ := (Bool × Own)) (fun x w' => x.1 = cx ∧ Stp [] an au x.2 w') (fun x => [(1, pt D 0), (23, vB x.1)]) ?_ ?_
    ·rcases cnd h with ⟨ay, h⟩ | ⟨ay, h⟩
     ·refine WL.ren 19 z (congrArg vB ay) (ug z z (wY (yL ty40 z z (ax.cells 0 (cp a0 (vl L M Q) (vl F G H) (vl I J K)) z) z) z (ug z z ?_)))
      have bL := V.i d z z
      have bM := W.i d z z
      have bO := Z.i d z z
      obtain ⟨cy, bP, h⟩ := bnd h
      refine WL.call (vals := [ag (cp a0 (vl L M Q) (vl F G H) (vl I J K))]) kok34 z z (c_point_sum (A := fun _ => True) (a0 := a0) (Sl.all bL) (Sl.all bM) (Sl.all bO) bP) ?_
      rintro cO cP ⟨rfl, bQ⟩
      obtain ⟨cz, cA, cC, aQ⟩ := adoptE an (fun k => 1) bQ
      refine ug z z (wY (Y.not z) z (wY (Y.pick (b := true) z z) z ?_))
      exact nl (At.join (σ := (Bool × Own)) ((!cy), cz) ⟨some1 h, (su_ aQ z)⟩ (.cons z (.cons z .nil)))
     ·refine WL.ren 19 z (congrArg vB ay) (WL.gS z z z z (WL.gS z z z z (WL.gS z z z z (wY (Y.pick (b := false) z z) z ?_))))
      exact nl (At.join (σ := (Bool × Own)) (false, an) ⟨some1 h, (sr_ _ _ _)⟩ (.cons z (.cons z .nil)))
    ·rintro ⟨br, bs⟩ cQ ⟨rfl, C⟩
     replace h := bK
     try dsimp only at h C
     refine (show WL _ _ _ _ _ [(1, pt D 0), (23, vB br)] _ from ?_)
     refine wY (ya z) z (nl (th ?_))
     rcases cnd h with ⟨az, h⟩ | ⟨az, h⟩
     ·refine WC.condT' z az (sk ?_)
      exact At.join (σ := (Bool × Own)) (br, bs) ⟨some1 h, (su_ C z)⟩ (.cons z (.cons z .nil))
     ·refine WC.condF' z az (rg ?_)
      have bR := ax.st C z
      refine wY (yL ty40 z z (bR.cells 0 (cp a0 (vl L M Q) (vl F G H) (vl I J K)) z) z) z ?_
      have bT := (V.i d z z).i C z z
      have bW := (W.i d z z).i C z z
      have bY := (Z.i d z z).i C z z
      obtain ⟨c0, bZ, h⟩ := bnd h
      refine WL.call (vals := [ag (cp a0 (vl L M Q) (vl F G H) (vl I J K))]) kok35 z z (c_point_times (A := fun _ => True) (a0 := a0) (Sl.all bT) (Sl.all bW) (Sl.all bY) bZ) ?_
      rintro cR cS ⟨rfl, b0⟩
      obtain ⟨b1, cf, cg, aL⟩ := adoptE bs (fun k => 1) b0
      refine wY (Y.not z) z ?_
      obtain ⟨b2, aR, h⟩ := lt1 h
      refine WL.yE (ya z) (congrArg vB aR.symm) z (nl ?_)
      exact At.join (σ := (Bool × Own)) (b2, b1) ⟨some1 h, (tr_ (su_ C z) (su_ aL z))⟩ (.cons z (.cons z .nil))
   ·rintro ⟨cD, bt⟩ b3 ⟨rfl, l⟩
    replace h := bJ
    try dsimp only at h l
    refine (show At _ _ _ [(1, pt D 0), (16, vB cD)] _ from ?_)
    refine th ?_
    rcases cnd h with ⟨aa, h⟩ | ⟨aa, h⟩
    ·refine WC.condT' z aa (sq (rg (wY (ya z) z (nl (th (rt (At.inBlockR (At.thenR ?_))))))))
     obtain rfl := some1 h
     have aS : Stp [] (Lg.O0 A) w bt b3 := (tr_ (su_ j z) (tr_ (su_ e z) (tr_ (su_ d z) (su_ l z))))
     exact At.res (.inl z) z (.tmp z .nil) ⟨z, (se_ aS z z)⟩
    ·refine WC.condF' z aa (sq (rg ?_))
     have aC := (ar.st d z).st l z
     refine wY (yL ty40 z z (aC.cells 0 (cp a0 (vl L M Q) (vl F G H) (vl I J K)) z) z) z ?_
     have aW := (V.i d z z).i l z z
     have aD := (W.i d z z).i l z z
     have aE := (Z.i d z z).i l z z
     obtain ⟨cT, aZ, h⟩ := bnd h
     refine WL.call (vals := [ag (cp a0 (vl L M Q) (vl F G H) (vl I J K))]) kok36 z z (c_point_own (A := fun _ => True) (a0 := a0) (Sl.all aW) (Sl.all aD) (Sl.all aE) aZ) ?_
     rintro cE ab ⟨rfl, a1⟩
     obtain ⟨ac, ch, ci, m⟩ := adoptE bt (fun k => 1) a1
     refine wY (Y.not z) z ?_
     obtain ⟨cU, a2, h⟩ := lt1 h
     refine WL.yE (ya z) (congrArg vB a2.symm) z (nl (th ?_))
     rcases cnd h with ⟨ad, h⟩ | ⟨ad, h⟩
     ·refine WC.condT' z ad (sq (rg (wY (ya z) z (nl (th (rt (At.inBlockR (At.thenR ?_))))))))
      obtain rfl := some1 h
      have a3 : Stp [] (Lg.O0 A) w ac ab := (tr_ (su_ j z) (tr_ (su_ e z) (tr_ (su_ d z) (tr_ (su_ l z) (su_ m z)))))
      exact At.res (.inl z) z (.tmp z .nil) ⟨z, (se_ a3 z z)⟩
     ·refine WC.condF' z ad (sq (rg (wY (yf fo40_4 z) z ?_)))
      have T := aC.st m z
      refine wY (yl ty4 z z (T.cell 4 _ z)) z (wY (ym z) z ?_)
      refine WL.cut 4 (σ := Unit) (fun _ w' => ab = w') (fun _ => [(1, pt D 0), (38, vB (a0.Mono && (decide (a0.Kind = 2))))]) ?_ ?_
      ·refine WL.part 34 z (fun ae => ?_) (fun ae => ?_)
       ·refine ug z z (wY (yf fo40_2 z) z (ug z z (wY (yl ty3 z z (T.cell 2 _ z)) z (ug z z (wY (Y.eql_i z z) z (wY (Y.pick (b := true) z z) z (WL.ren (v' := vB (a0.Mono && (decide (a0.Kind = 2)))) 38 z (congrArg vB (andT ae)) ?_)))))))
        exact nl (At.join () z (.cons z (.cons z .nil)))
       ·refine WL.gS z z z z (WL.gS z z z z (WL.gS z z z z (wY (Y.pick (b := false) z z) z (WL.ren (v' := vB (a0.Mono && (decide (a0.Kind = 2)))) 38 z (congrArg vB (andF ae)) ?_))))
        exact nl (At.join () z (.cons z (.cons z .nil)))
      ·rintro _ _ rfl
       refine (show WL _ _ _ _ _ [(1, pt D 0), (38, vB (a0.Mono && (decide (a0.Kind = 2))))] _ from ?_)
       refine wY (ym z) z ?_
       obtain ⟨b4, h, a4⟩ := bnd h
       refine WL.cut 5 (σ := (Bool × Own)) (fun x w' => x.1 = b4 ∧ Stp [] ac ab x.2 w') (fun x => [(1, pt D 0), (44, vB x.1)]) ?_ ?_
       ·rcases cnd h with ⟨af, h⟩ | ⟨af, h⟩
        ·refine WL.ren 39 z (congrArg vB af) (ug z z (wY (yf fo40_8 z) z (ug z z (wY (yl ty33 z z (T.cell 8 _ z)) z (ug z z ?_)))))
         obtain ⟨b5, a5, h⟩ := bnd h
         refine WL.call (vals := [vu a0.Re]) kok37 z z (c_num_Finite a5) ?_
         rintro cF cG ⟨rfl, a6⟩
         obtain ⟨b6, cj, ck, aM⟩ := adoptE ac (fun k => 1) a6
         refine ug z z (wY (Y.not z) z (wY (Y.pick (b := true) z z) z ?_))
         exact nl (At.join (σ := (Bool × Own)) ((!b5), b6) ⟨some1 h, (su_ aM z)⟩ (.cons z (.cons z .nil)))
        ·refine WL.ren 39 z (congrArg vB af) (WL.gS z z z z (WL.gS z z z z (WL.gS z z z z (WL.gS z z z z (wY (Y.pick (b := false) z z) z ?_)))))
         exact nl (At.join (σ := (Bool × Own)) (false, ac) ⟨some1 h, (sr_ _ _ _)⟩ (.cons z (.cons z .nil)))
       ·rintro ⟨b7, S⟩ ah ⟨rfl, o⟩
        replace h := a4
        try dsimp only at h o
        refine (show WL _ _ _ _ _ [(1, pt D 0), (44, vB b7)] _ from ?_)
        refine wY (ya z) z (nl (th ?_))
        rcases cnd h with ⟨ai, h⟩ | ⟨ai, h⟩
        ·refine WC.condT' z ai (sq (rg (wY (ya z) z (nl (th (rt (At.inBlockR (At.thenR ?_))))))))
         obtain rfl := some1 h
         have a7 : Stp [] (Lg.O0 A) w S ah := (tr_ (su_ j z) (tr_ (su_ e z) (tr_ (su_ d z) (tr_ (su_ l z) (tr_ (su_ m z) (su_ o z))))))
         exact At.res (.inl z) z (.tmp z .nil) ⟨z, (se_ a7 z z)⟩
        ·refine WC.condF' z ai (sq (rg (wY (yf fo40_4 z) z ?_)))
         have U := T.st o z
         refine wY (yl ty4 z z (U.cell 4 _ z)) z (wY (ym z) z ?_)
         obtain ⟨b8, h, a8⟩ := bnd h
         refine WL.cut 9 (σ := (Bool × Own)) (fun x w' => x.1 = b8 ∧ Stp [] S ah x.2 w') (fun x => [(1, pt D 0), (57, vB x.1)]) ?_ ?_
         ·rcases cnd h with ⟨aj, h⟩ | ⟨aj, h⟩
          ·refine WL.ren 48 z (congrArg vB aj) (ug z z (wY (yf fo40_7 z) z (ug z z (wY (yl ty3 z z (U.cell 7 _ z)) z (ug z z (wY (Y.lss_i z z) z (ug z z (wY (ym z) z ?_))))))))
           obtain ⟨b9, h, a9⟩ := bnd h
           refine WL.cut 4 (σ := (Bool × Own)) (fun x w' => x.1 = b9 ∧ Stp [] S ah x.2 w') (fun x => [(1, pt D 0), (48, vB true), (56, vB x.1)]) ?_ ?_
           ·rcases cnd h with ⟨ak, h⟩ | ⟨ak, h⟩
            ·refine WL.ren 52 z (congrArg vB ak) (WL.gS z z z z (WL.gS z z z z (WL.gS z z z z (ug z z (wY (Y.pick (b := true) z z) z ?_)))))
             exact nl (At.join (σ := (Bool × Own)) (true, S) ⟨some1 h, (sr_ _ _ _)⟩ (.cons z (.cons z (.cons z .nil))))
            ·refine WL.ren 52 z (congrArg vB ak) (ug z z (wY (yf fo40_8 z) z (ug z z (wY (yl ty33 z z (U.cell 8 _ z)) z (ug z z ?_)))))
             obtain ⟨ca, ba, h⟩ := bnd h
             refine WL.call (vals := [vu a0.Re, vu 0]) kok38 z z (c_num_Less ba) ?_
             rintro cH cI ⟨rfl, bb⟩
             obtain ⟨cb, cl, cm, aN⟩ := adoptE S (fun k => 1) bb
             refine ug z z (wY (Y.pick (b := false) z z) z ?_)
             exact nl (At.join (σ := (Bool × Own)) (ca, cb) ⟨some1 h, (su_ aN z)⟩ (.cons z (.cons z (.cons z .nil))))
           ·rintro ⟨aO, cc⟩ cJ ⟨rfl, ao⟩
            replace h := a9
            try dsimp only at h ao
            refine (show WL _ _ _ _ _ [(1, pt D 0), (48, vB true), (56, vB aO)] _ from ?_)
            refine wY (Y.pick (b := true) z z) z ?_
            exact nl (At.join (σ := (Bool × Own)) (aO, cc) ⟨some1 h, (su_ ao z)⟩ (.cons z (.cons z .nil)))
          ·refine WL.ren 48 z (congrArg vB aj) (WL.gS z z z z (WL.gS z z z z (WL.gS z z z z (WL.gS z z z z (WL.gS z z z z (WL.gS z z z z (WL.gS z z z z (WL.gS z z z z (wY (Y.pick (b := false) z z) z ?_)))))))))
           exact nl (At.join (σ := (Bool × Own)) (false, S) ⟨some1 h, (sr_ _ _ _)⟩ (.cons z (.cons z .nil)))
         ·rintro ⟨cd, aA⟩ aF ⟨rfl, t⟩
          replace h := a8
          try dsimp only at h t
          refine (show WL _ _ _ _ _ [(1, pt D 0), (57, vB cd)] _ from ?_)
          refine wY (ya z) z (nl (th ?_))
          rcases cnd h with ⟨al, h⟩ | ⟨al, h⟩
          ·refine WC.condT' z al (sq (rg (wY (ya z) z (nl (th (rt (At.inBlockR (At.thenR ?_))))))))
           obtain rfl := some1 h
           have bc : Stp [] (Lg.O0 A) w aA aF := (tr_ (su_ j z) (tr_ (su_ e z) (tr_ (su_ d z) (tr_ (su_ l z) (tr_ (su_ m z) (tr_ (su_ o z) (su_ t z)))))))
           exact At.res (.inl z) z (.tmp z .nil) ⟨z, (se_ bc z z)⟩
          ·refine WC.condF' z al (sq (rg (wY (yf fo40_2 z) z ?_)))
           have aG := U.st t z
           refine wY (yl ty3 z z (aG.cell 2 _ z)) z (wY (Y.eql_i z z) z ?_)
           obtain ⟨cV, bd, h⟩ := lt1 h
           refine WL.yE (ya z) (congrArg vB bd.symm) z (nl (th ?_))
           rcases cnd h with ⟨am, h⟩ | ⟨am, h⟩
           ·refine WC.condT' z am (sq (rg (wY (yf fo40_10 z) z (wY (yL ty38 z z (aG.cells 10 (hl a0.Hist (vl F G H) (vl I J K)) z) z) z ?_))))
            have bh := ((aD.i m z z).i o z z).i t z z
            have bk := ((aE.i m z z).i o z z).i t z z
            obtain ⟨cW, bl, h⟩ := bnd h
            refine WL.call (vals := [ag (hl a0.Hist (vl F G H) (vl I J K))]) kok39 z z (c_hist_Check (A := fun _ => True) (a0 := a0.Hist) (Sl.all bh) (Sl.all bk) bl) ?_
            rintro cK bm ⟨rfl, bn⟩
            obtain ⟨ce, cn, co, aP⟩ := adoptE aA (fun k => 1) bn
            refine wY (ya z) z (nl (th (rt (At.inBlockR (At.thenR ?_)))))
            obtain rfl := some1 h
            have bo : Stp [] (Lg.O0 A) w ce bm := (tr_ (su_ j z) (tr_ (su_ e z) (tr_ (su_ d z) (tr_ (su_ l z) (tr_ (su_ m z) (tr_ (su_ o z) (tr_ (su_ t z) (su_ aP z))))))))
            exact At.res (.inl z) z (.tmp z .nil) ⟨z, (se_ bo z z)⟩
           ·refine WC.condF' z am (sk (At.inBlock (th (sq (rg (wY (ya z) z (nl (th (rt ?_)))))))))
            obtain rfl := some1 h
            have bp : Stp [] (Lg.O0 A) w aA aF := (tr_ (su_ j z) (tr_ (su_ e z) (tr_ (su_ d z) (tr_ (su_ l z) (tr_ (su_ m z) (tr_ (su_ o z) (su_ t z)))))))
            exact At.res (.inl z) z (.tmp z .nil) ⟨z, (se_ bp z z)⟩
theorem c_slices_Clone_api_Pair_api_Pair {A : Nat → Prop} {a0 : List api_Pair} {v0 : Value} {w : World} (hs0 : Sl rep_api_Pair w A v0 a0) {r0 : List api_Pair} (h : slices_Clone_api_Pair_api_Pair a0 = some r0) : Rets Tryz.prog 49 [v0] w (fun v w' => ∃ (l : Value), v = l ∧ Ext w w' ∧ RowF rep_api_Pair 67 w w' l r0) := by
  unfold slices_Clone_api_Pair_api_Pair at h
  refine Rets.enter Tryz.func49 z z ?_
  refine (show WC _ _ _ _ [(0, v0)] _ from ?_)
  refine sq (rg (wY (ya z) z (nl (th ?_))))
  refine sq (sq (rg ?_))
  refine wY (ym z) z ?_
  rcases hs0.nilOr with ⟨rfl, rfl⟩ | ⟨q, n, c, rfl⟩
  · refine wY (Y.slnil (p := none) (n := 0) (c := 0) ty32.u z z) z (nl (th ?_))
    refine WC.condT z (sq (rg (wY (ya z) z (nl (th (rt (At.thenR ?_)))))))
    have : r0 = [] := by simpa [app] using h.symm
    subst this
    exact At.res (.inl z) z (.tmp z .nil) ⟨_, z, Ext.refl w, RowF.nil⟩
  · refine wY (Y.slnil (p := some _) ty32.u z z) z (nl (th ?_))
    refine WC.condF z (sk (th ?_))
    refine sq (rg ?_)
    have hs := hs0
    refine WL.buildSlice (O := Lg.O0 A) (R := rep_api_Pair) (vals := []) 11 [] (xs := []) (by decide) ty32 ty67 (by decide) (by decide) (fe_ z) (by kernel_rfl) z z z ?_
    intro v F G d m
    refine wY (ym z) z ?_
    have o := (Sl.start hs).i d z z
    refine WL.append (by decide) ty32 ty67 z (by decide) z z m o.src h z ?_
    intro H C D j t
    refine wY (ya z) z (nl (th (rt ?_)))
    have e : Stp [11] (Lg.O0 A) w C D := (tr_ (su_ d z) j)
    exact At.res (.inl z) z (.tmp z .nil) ⟨_, z, se_ e z z, OwnSl.outF t e low0 z⟩
theorem c_cmp_isNaN_string {a0 : List UInt8} {w : World} {r0 : Bool} (h : cmp_isNaN_string a0 = some r0) : Rets Tryz.prog 161 [vs a0] w (fun v w' => v = vB r0 ∧ Ext w w') := by
 unfold cmp_isNaN_string at h
 refine Rets.enter Tryz.func161 z z ?_
 refine (show WC _ _ _ _ [(0, vs a0)] _ from ?_)
 refine sq (rg (wY (ya z) z (nl (th (sq (rg (wY (ym z) z (wY (ym z) z (wY (Y.neq_s z z) z ?_)))))))))
 obtain ⟨j, d, h⟩ := lt1 h
 refine WL.yE (ya z) (congrArg vB d.symm) z (nl (th (rt ?_)))
 obtain rfl := some1 h
 have e : Stp [] (Lg.O0 (fun _ => False)) w (Lg.O0 (fun _ => False)) w := (sr_ _ _ _)
 exact At.res (.inl z) z (.tmp z .nil) ⟨z, (se_ e z z)⟩
theorem c_cmp_Compare_string {a0 : List UInt8} {a1 : List UInt8} {w : World} {r0 : Int} (h : cmp_Compare_string a0 a1 = some r0) : Rets Tryz.prog 142 [vs a0, vs a1] w (fun v w' => v = vi r0 ∧ Ext w w') := by
 unfold cmp_Compare_string at h
 refine Rets.enter Tryz.func142 z z ?_
 refine (show WC _ _ _ _ [(0, vs a0), (1, vs a1)] _ from ?_)
 refine sq (rg (wY (ya z) z (nl (th (sq (rg (wY (ym z) z ?_)))))))
 obtain ⟨ad, F, h⟩ := bnd h
 refine WL.call (vals := [vs a0]) kok161 z z (c_cmp_isNaN_string F) ?_
 rintro aa ab ⟨rfl, G⟩
 obtain ⟨T, U, V, d⟩ := adoptE (Lg.O0 (fun _ => False)) (fun k => 1) G
 refine wY (ya z) z (nl (th (sq (rg (wY (ym z) z ?_)))))
 obtain ⟨ae, H, h⟩ := bnd h
 refine WL.call (vals := [vs a1]) kok161 z z (c_cmp_isNaN_string H) ?_
 rintro ac j ⟨rfl, I⟩
 obtain ⟨l, W, Z, e⟩ := adoptE T (fun k => 1) I
 refine wY (ya z) z (nl (th (sq (sq (rg (wY (ym z) z (nl (th ?_))))))))
 rcases cnd h with ⟨m, h⟩ | ⟨m, h⟩
 ·refine WC.condT' z m (sq (sq (rg (wY (ym z) z (nl (th ?_))))))
  rcases cnd h with ⟨o, h⟩ | ⟨o, h⟩
  ·refine WC.condT' z o (sq (rg (wY (ya z) z (nl (th (rt (At.thenR (At.thenR ?_))))))))
   obtain rfl := some1 h
   have J : Stp [] (Lg.O0 (fun _ => False)) w l j := (tr_ (su_ d z) (su_ e z))
   exact At.res (.inl z) z (.tmp z .nil) ⟨z, (se_ J z z)⟩
  ·refine WC.condF' z o (sk (th (sq (rg (wY (ya z) z (nl (th (rt (At.thenR ?_)))))))))
   obtain rfl := some1 h
   have K : Stp [] (Lg.O0 (fun _ => False)) w l j := (tr_ (su_ d z) (su_ e z))
   exact At.res (.inl z) z (.tmp z .nil) ⟨z, (se_ K z z)⟩
 ·refine WC.condF' z m (sk (th (sq (sq (rg (wY (ym z) z (nl (th ?_))))))))
  rcases cnd h with ⟨t, h⟩ | ⟨t, h⟩
  ·refine WC.condT' z t (sq (rg (wY (ya z) z (nl (th (rt (At.thenR ?_)))))))
   obtain rfl := some1 h
   have L : Stp [] (Lg.O0 (fun _ => False)) w l j := (tr_ (su_ d z) (su_ e z))
   exact At.res (.inl z) z (.tmp z .nil) ⟨z, (se_ L z z)⟩
  ·refine WC.condF' z t (sk (th (sq (sq (rg (wY (ym z) z (wY (ym z) z (wY (Y.lss_s z z) z (nl ?_)))))))))
   refine th ?_
   rcases cnd h with ⟨C, h⟩ | ⟨C, h⟩
   ·refine WC.condT' z C (sq (rg (wY (ya z) z (nl (th (rt (At.thenR ?_)))))))
    obtain rfl := some1 h
    have M : Stp [] (Lg.O0 (fun _ => False)) w l j := (tr_ (su_ d z) (su_ e z))
    exact At.res (.inl z) z (.tmp z .nil) ⟨z, (se_ M z z)⟩
   ·refine WC.condF' z C (sk (th (sq (sq (rg (wY (ym z) z (wY (ym z) z (wY (Y.gtr_s z z) z (nl ?_)))))))))
    refine th ?_
    rcases cnd h with ⟨D, h⟩ | ⟨D, h⟩
    ·refine WC.condT' z D (sq (rg (wY (ya z) z (nl (th (rt (At.thenR ?_)))))))
     obtain rfl := some1 h
     have Q : Stp [] (Lg.O0 (fun _ => False)) w l j := (tr_ (su_ d z) (su_ e z))
     exact At.res (.inl z) z (.tmp z .nil) ⟨z, (se_ Q z z)⟩
    ·refine WC.condF' z D (sk (th (sq (rg (wY (ya z) z (nl (th (rt ?_))))))))
     obtain rfl := some1 h
     have S : Stp [] (Lg.O0 (fun _ => False)) w l j := (tr_ (su_ d z) (su_ e z))
     exact At.res (.inl z) z (.tmp z .nil) ⟨z, (se_ S z z)⟩
theorem c_label_Sorted {A : Nat → Prop} {a0 : List api_Pair} {v0 : Value} {w : World} (hs0 : Sl rep_api_Pair w A v0 a0) {r0 : List api_Pair} (h : label_Sorted a0 = some r0) : Rets Tryz.prog 117 [v0] w (fun v w' => ∃ (u0 : Value), v = u0 ∧ Ext w w' ∧ RowF rep_api_Pair 67 w w' u0 r0) := by
 unfold label_Sorted at h
 refine Rets.enter Tryz.func117 z z ?_
 have fC : Sl rep_api_Pair w (imm (Lg.O0 A)) v0 a0 := (Sl.start hs0)
 refine (show WC _ _ _ _ [(0, v0)] _ from ?_)
 refine sq (rg (wY (ya z) z (nl (th (sq (rg (wY (ym z) z ?_)))))))
 obtain ⟨e, fD, h⟩ := bnd h
 refine WL.call (vals := [v0]) kok49 z z (c_slices_Clone_api_Pair_api_Pair (A := fun _ => True) (Sl.all fC) fD) ?_
 rintro d ae ⟨_, rfl, fF, g1⟩
 obtain ⟨av, g2, cg, dC⟩ := adoptE (Lg.O0 A) (fun k => if ob d = some k then 11 else 1) fF
 have ch : OwnSl 11 rep_api_Pair 67 av ae d e := RowF.adopt 11 flat_api_Pair g1 cg (fun k hk => if_pos hk)
 refine wY (ya z) z (nl (th (sq (rg (wY (ym z) z ?_)))))
 obtain ⟨g3, h, fG⟩ := bnd h
 refine WL.callJ (vals := [d, Value.func (.func 141) (List.toArray []) (List.toArray [])]) (σ := (List api_Pair × Own)) (fun x w' => x.1 = g3 ∧ Stp [11, 1001, 1002, 1003, 1004, 1005, 1006, 1007, 1008, 1009, 1010, 1011, 1012, 1013, 1014, 1015, 1016, 1017, 1018, 1019, 1020] av ae x.2 w' ∧ OwnSl 1022 rep_api_Pair 67 x.2 w' d x.1) (fun x => tp []) kok140 z z ?_ ?_
 ·refine Rets.enter Tryz.func140 z z ?_
  refine (show WC _ _ _ _ [(0, d), (1, Value.func (.func 141) (List.toArray []) (List.toArray []))] _ from ?_)
  refine rg (wY (ym z) z (wY (ym z) z (wY (Y.len ty32 z ch.src.sl) z (wY (ym z) z ?_))))
  obtain ⟨g4, h, fH⟩ := bnd h
  refine WL.callJ (vals := [d, vi (e.length : Int), Value.func (.func 141) (List.toArray []) (List.toArray [])]) (σ := (List api_Pair × Own)) (fun x w' => x.1 = g4 ∧ Stp [11, 1001, 1002, 1003, 1004, 1005, 1006, 1007, 1008, 1009, 1010, 1011, 1012, 1013, 1014, 1015, 1016, 1017, 1018, 1019] av ae x.2 w' ∧ OwnSl 1020 rep_api_Pair 67 x.2 w' d x.1) (fun x => tp []) kok160 z z ?_ ?_
  ·refine Rets.enter Tryz.func160 z z ?_
   refine (show WC _ _ _ _ [(0, d), (1, vi (e.length : Int)), (2, Value.func (.func 141) (List.toArray []) (List.toArray []))] _ from ?_)
   refine sq (rg (wY (ya z) z (nl (th (sq (rg (wY (ym z) z (wY (ya z) z (wY (ya z) z ?_)))))))))
   refine nl (th (sq ?_))
   obtain ⟨g5, h, fI⟩ := bnd h
   refine WC.join (σ := (List api_Pair × Int × Own)) (fun x w' => (x.1, x.2.1) = g5 ∧ Stp [11, 1001, 1002, 1003, 1004, 1005, 1006, 1007, 1008, 1009, 1010] av ae x.2.2 w' ∧ OwnSl 1011 rep_api_Pair 67 x.2.2 w' d x.1) (fun x => [(0, d), (1, vi (e.length : Int)), (2, Value.func (.func 141) (List.toArray []) (List.toArray [])), (6, vi 20), (7, vi x.2.1)]) ?_ ?_
   ·refine WC.block ?_
    obtain ⟨fx, h, fJ⟩ := flow1 h
    obtain ⟨fy, h⟩ := loop_some h
    refine WC.joinB 0 (σ := (List api_Pair × Int × Own)) (fun x w' => fx = .go (x.1, x.2.1) ∧ Stp [11, 1001, 1002, 1003, 1004, 1005, 1006, 1007, 1008, 1009] av ae x.2.2 w' ∧ OwnSl 1010 rep_api_Pair 67 x.2.2 w' d x.1) (fun x => [(0, d), (1, vi (e.length : Int)), (2, Value.func (.func 141) (List.toArray []) (List.toArray [])), (6, vi 20), (7, vi x.2.1)]) ?_ ?_
    ·obtain ⟨g6, dD, fK⟩ := OwnSl.rlb 1009 rfl ch
     refine WC.loop (σ := (List api_Pair × Int × Int × Own)) (fun x k w' => loopN k (label_Sorted_lp1 e) (x.1, x.2.1, x.2.2.1) = some fx ∧ Stp [11, 1001, 1002, 1003, 1004, 1005, 1006, 1007, 1008, 1009] av ae x.2.2.2 w' ∧ OwnSl 1009 rep_api_Pair 67 x.2.2.2 w' d x.1) (fun x => [(0, d), (1, vi (e.length : Int)), (2, Value.func (.func 141) (List.toArray []) (List.toArray [])), (6, vi 20), (7, vi x.2.1), (8, vi x.2.2.1)]) (e, 0, 20, g6) fy (.cons z (.cons z (.cons z (.cons z (.cons z (.cons z .nil)))))) ⟨h, (su_ dD z), fK⟩ ?_
     rintro ⟨a4, l, m, ci⟩ fy bp ⟨h, ay, bq⟩
     obtain ⟨g7, iW, rfl, h, cj⟩ := rnd1 h
     unfold label_Sorted_lp1 at h
     try dsimp only at h ay bq
     refine (show WC _ _ _ _ [(0, d), (1, vi (e.length : Int)), (2, Value.func (.func 141) (List.toArray []) (List.toArray [])), (6, vi 20), (7, vi l), (8, vi m)] _ from ?_)
     refine sq (sq (rg (wY (ym z) z (wY (ym z) z (wY (Y.leq_i z z) z (nl (th ?_)))))))
     rcases cnd h with ⟨br, h⟩ | ⟨br, h⟩
     ·refine WC.condT' z br (sk (th (WC.block (sq (rg (wY (ym z) z (wY (ym z) z (wY (ym z) z (wY (ym z) z ?_)))))))))
      obtain ⟨g8, h, fL⟩ := bnd h
      refine WL.callJ (vals := [d, vi l, vi m, Value.func (.func 141) (List.toArray []) (List.toArray [])]) (σ := (List api_Pair × Own)) (fun x w' => x.1 = g8 ∧ Stp [1001, 1002, 1003, 1004, 1005, 1006, 1007, 1009] ci bp x.2 w' ∧ OwnSl 1008 rep_api_Pair 67 x.2 w' d x.1) (fun x => tp []) kok168 z z ?_ ?_
      ·refine Rets.enter Tryz.func168 z z ?_
       refine (show WC _ _ _ _ [(0, d), (1, vi l), (2, vi m), (3, Value.func (.func 141) (List.toArray []) (List.toArray []))] _ from ?_)
       refine sq (rg (wY (ym z) z (wY (Y.add_i z z) z ?_)))
       obtain ⟨g9, fN, h⟩ := lt1 h
       refine WL.yE (ya z) (congrArg vi fN.symm) z (nl (th (WC.block ?_)))
       obtain ⟨fz, h, fO⟩ := flow1 h
       obtain ⟨fA, h⟩ := loop_some h
       refine WC.joinB 0 (σ := (List api_Pair × Own)) (fun x w' => fz = .go x.1 ∧ Stp [1001, 1002, 1003, 1004, 1005, 1006, 1009] ci bp x.2 w' ∧ OwnSl 1007 rep_api_Pair 67 x.2 w' d x.1) (fun x => []) ?_ ?_
       ·obtain ⟨ha, ck, dE⟩ := OwnSl.rlb 1006 rfl bq
        refine WC.loop (σ := (List api_Pair × Int × Own)) (fun x k w' => loopN k (label_Sorted_lp2 l m) (x.1, x.2.1) = some fz ∧ Stp [1001, 1002, 1003, 1004, 1005, 1006, 1009] ci bp x.2.2 w' ∧ OwnSl 1006 rep_api_Pair 67 x.2.2 w' d x.1) (fun x => [(0, d), (1, vi l), (2, vi m), (3, Value.func (.func 141) (List.toArray []) (List.toArray [])), (8, vi x.2.1)]) (a4, g9, ha) fA (.cons z (.cons z (.cons z (.cons z (.cons z .nil))))) ⟨h, (su_ ck z), dE⟩ ?_
        rintro ⟨a5, U, cl⟩ fA bs ⟨h, az, bt⟩
        obtain ⟨fP, ii, rfl, h, bB⟩ := rnd1 h
        unfold label_Sorted_lp2 at h
        try dsimp only at h az bt
        refine (show WC _ _ _ _ [(0, d), (1, vi l), (2, vi m), (3, Value.func (.func 141) (List.toArray []) (List.toArray [])), (8, vi U)] _ from ?_)
        refine sq (sq (rg (wY (ym z) z (wY (ym z) z (wY (Y.lss_i z z) z (nl (th ?_)))))))
        rcases cnd h with ⟨aA, h⟩ | ⟨aA, h⟩
        ·refine WC.condT' z aA (sk (th (sq (WC.block (sq (rg (wY (ym z) z (wY (ya z) z (nl ?_)))))))))
         refine th ?_
         obtain ⟨fQ, h, dF⟩ := bnd h
         refine WC.join (σ := (List api_Pair × Own)) (fun x w' => x.1 = fQ ∧ Stp [1001, 1002, 1003, 1004, 1006] cl bs x.2 w' ∧ OwnSl 1005 rep_api_Pair 67 x.2 w' d x.1) (fun x => [(0, d), (1, vi l), (2, vi m), (3, Value.func (.func 141) (List.toArray []) (List.toArray [])), (8, vi U)]) ?_ ?_
         ·refine WC.block ?_
          obtain ⟨cm, h, dG⟩ := flow1 h
          obtain ⟨cn, h⟩ := loop_some h
          refine WC.joinB 2 (σ := (List api_Pair × Own)) (fun x w' => cm = .go x.1 ∧ Stp [1001, 1006] cl bs x.2 w' ∧ OwnSl 1004 rep_api_Pair 67 x.2 w' d x.1) (fun x => [(0, d), (1, vi l), (2, vi m), (3, Value.func (.func 141) (List.toArray []) (List.toArray [])), (8, vi U)]) ?_ ?_
          ·obtain ⟨fR, co, dH⟩ := OwnSl.rlb 1001 rfl bt
           refine WC.loop (σ := (List api_Pair × Int × Own)) (fun x k w' => loopN k (label_Sorted_lp3 l) (x.1, x.2.1) = some cm ∧ Stp [1001, 1006] cl bs x.2.2 w' ∧ OwnSl 1001 rep_api_Pair 67 x.2.2 w' d x.1) (fun x => [(0, d), (1, vi l), (2, vi m), (3, Value.func (.func 141) (List.toArray []) (List.toArray [])), (8, vi U), (9, vi x.2.1)]) (a5, U, fR) cn (.cons z (.cons z (.cons z (.cons z (.cons z (.cons z .nil)))))) ⟨h, (su_ co z), dH⟩ ?_
           rintro ⟨b9, C, al⟩ cn hz ⟨h, am, ah⟩
           obtain ⟨fT, ij, rfl, h, bC⟩ := rnd1 h
           unfold label_Sorted_lp3 at h
           try dsimp only at h am ah
           refine (show WC _ _ _ _ [(0, d), (1, vi l), (2, vi m), (3, Value.func (.func 141) (List.toArray []) (List.toArray [])), (8, vi U), (9, vi C)] _ from ?_)
           refine sq (sq (WC.drawH [] [0, 1, 2, 3, 4, 5, 6, 7, 8, 9, 10, 11, 12, 13, 14, 15, 16] al 17 fmix z (by kernel_rfl) ?_))
           intro bD V
           refine WD.y 0 z (by kernel_rfl) (fun _ _ _ => ym z) z (WD.y 1 z (by kernel_rfl) (fun _ _ _ => ym z) z (WD.y 2 z (by kernel_rfl) (fun _ _ _ => Y.gtr_i z z) z (WD.y 3 z (by kernel_rfl) (fun _ _ _ => ym z) z ?_)))
           obtain ⟨fU, h, dI⟩ := bnd h
           refine WD.join (σ := (Bool × Own)) (f' := 0) [16, 15, 14, 13, 12, 11, 10, 9, 8, 7, 6, 5, 4, 3, 2, 1, 0] (fun x O' w' => x.1 = fU ∧ Stp [] al bD x.2 w' ∧ x.2 = O') (fun x => [(0, d), (1, vi l), (2, vi m), (3, Value.func (.func 141) (List.toArray []) (List.toArray [])), (8, vi U), (9, vi C), (34, vB x.1)]) (fun bE => ?_) ?_
           ·rcases cnd h with ⟨ac, h⟩ | ⟨ac, h⟩
            ·refine WD.ren 21 z (congrArg vB ac) (WD.gT 4 z (by kernel_rfl) z z (fun _ _ _ => ym z) z (WD.gT 5 z (by kernel_rfl) z z (fun _ _ _ => ym z) z (WD.gT 6 z (by kernel_rfl) z z (fun _ _ _ => ym z) z ?_)))
             obtain ⟨D, dJ, h⟩ := bnd h
             have ai := ah.st V z z z
             obtain ⟨ik, hc, hA, bF, dK, dL, aC, cq⟩ := OwnSl.at ai dJ
             obtain ⟨_, _, rfl, rfl, rfl⟩ := cq
             replace aC : CellsAt _ _ _ [vs D.Key, vs D.Val] := aC
             have cr := CAt.own ai bF aC
             refine WD.gT 7 z (by kernel_rfl) z z (fun _ _ _ => Y.indexAddr ty32 ty67 z bF z dK dL) z (WD.gT 8 z (by kernel_rfl) z z (fun hC il cs => have dM := cr.st cs z; yL ty67 z z dM.at_ z) z (WD.gT 9 z (by kernel_rfl) z z (fun _ _ _ => ym z) z (WD.gT 10 z (by kernel_rfl) z z (fun _ _ _ => ym z) z (WD.gT 11 z (by kernel_rfl) z z (fun _ _ _ => Y.sub_i z z) z ?_))))
             obtain ⟨F, dN, h⟩ := bnd h
             obtain ⟨im, hd, hD, bG, dO, dP, aD, ct⟩ := OwnSl.at ai dN
             obtain ⟨_, _, rfl, rfl, rfl⟩ := ct
             replace aD : CellsAt _ _ _ [vs F.Key, vs F.Val] := aD
             have cu := CAt.own ai bG aD
             refine WD.gT 12 z (by kernel_rfl) z z (fun _ _ _ => Y.indexAddr ty32 ty67 z bG z dO dP) z (WD.gT 13 z (by kernel_rfl) z z (fun hE io cw => have dQ := cu.st cw z; yL ty67 z z dQ.at_ z) z (WD.heavy 14 z (by kernel_rfl) (ug z z ?_)))
             obtain ⟨fV, h, dR⟩ := bnd h
             refine WL.callV (fv := []) (cv := []) (vals := [ag [vs D.Key, vs D.Val], ag [vs F.Key, vs F.Val]]) (σ := (Int × Own)) (fun x w' => x.1 = fV ∧ Stp [] al bD x.2 w') (fun x => vi x.1) kok141 z z z ?_ ?_
             ·refine Rets.enter Tryz.func141 z z ?_
              refine (show WC _ _ _ _ [(0, ag [vs D.Key, vs D.Val]), (1, ag [vs F.Key, vs F.Val])] _ from ?_)
              refine sq (rg (WL.box (O := al) 12 [vs D.Key, vs D.Val] z z z ?_))
              intro ip fY hF cx dS
              refine WL.box (O := fY) 13 [vs F.Key, vs F.Val] z z z ?_
              intro iq f0 hG a6 dT
              refine wY (ya z) z (nl (th (sq (rg (wY (yf fo67_0 z) z ?_)))))
              have dU := dS.st a6 z
              refine wY (yl ty9 z z (dU.cell 0 _ z)) z (wY (yf fo67_0 z) z (wY (yl ty9 z z (dT.cell 0 _ z)) z ?_))
              obtain ⟨f1, dV, h⟩ := bnd h
              refine WL.call (vals := [vs D.Key, vs F.Key]) kok142 z z (c_cmp_Compare_string dV) ?_
              rintro hH hI ⟨rfl, dW⟩
              obtain ⟨f2, gW, gX, cy⟩ := adoptE f0 (fun k => 1) dW
              refine wY (ya z) z (nl (th (rt ?_)))
              exact At.res (.inl z) z (.tmp z .nil) ⟨(f1, f2), ⟨some1 h, (tr_ (su_ cx z) (tr_ (su_ a6 z) (su_ cy z)))⟩, z⟩
             ·rintro ⟨cz, f3⟩ hJ ⟨rfl, an⟩
              replace h := dR
              try dsimp only at h an
              refine (show WL _ _ _ _ _ ((32, vi cz) :: _) _ from ?_)
              refine nl (At.dq (su_ an z) (WD.gT 15 z (by kernel_rfl) z z (fun _ _ _ => Y.lss_i z z) z (WD.y 16 z (by kernel_rfl) (fun _ _ _ => Y.pick (b := true) z z) z (WD.ren 21 z (congrArg vB ac.symm) ?_))))
              exact bE (decide (cz < 0), f3) _ _ _ ⟨some1 h, (su_ an z), z⟩ (.cons z (.cons z (.cons z (.cons z (.cons z (.cons z (.cons z .nil)))))))
            ·refine WD.ren 21 z (congrArg vB ac) (WD.gS 4 z (by kernel_rfl) z z z z (WD.gS 5 z (by kernel_rfl) z z z z (WD.gS 6 z (by kernel_rfl) z z z z (WD.gS 7 z (by kernel_rfl) z z z z (WD.gS 8 z (by kernel_rfl) z z z z (WD.gS 9 z (by kernel_rfl) z z z z (WD.gS 10 z (by kernel_rfl) z z z z (WD.gS 11 z (by kernel_rfl) z z z z (WD.gS 12 z (by kernel_rfl) z z z z ?_)))))))))
             refine WD.gS 13 z (by kernel_rfl) z z z z (WD.heavy 14 z (by kernel_rfl) (WL.gS z z z z (nl (At.dq (sr_ _ _ _) (WD.gS 15 z (by kernel_rfl) z z z z (WD.y 16 z (by kernel_rfl) (fun _ _ _ => Y.pick (b := false) z z) z (WD.ren 21 z (congrArg vB ac.symm) ?_)))))))
             exact bE (false, al) _ _ _ ⟨some1 h, (sr_ _ _ _), z⟩ (.cons z (.cons z (.cons z (.cons z (.cons z (.cons z (.cons z .nil)))))))
           ·rintro ⟨f4, bu⟩ _ hK ⟨rfl, W, rfl⟩
            replace h := dI
            try dsimp only at h W
            refine (show WD _ _ _ _ _ _ _ _ [(0, d), (1, vi l), (2, vi m), (3, Value.func (.func 141) (List.toArray []) (List.toArray [])), (8, vi U), (9, vi C), (34, vB f4)] _ _ from ?_)
            refine WD.done_ (by kernel_rfl) (th ?_)
            rcases cnd h with ⟨aE, h⟩ | ⟨aE, h⟩
            ·refine WC.condT' z aE (sk (th (sq (WC.block (WC.drawH [1001] [0, 1, 2, 3, 4, 5, 6, 7, 8, 9, 10, 11, 12, 13, 14, 15, 16] bu 18 fmix z (by kernel_rfl) ?_)))))
             intro dX a7
             refine WD.y 0 z (by kernel_rfl) (fun _ _ _ => ym z) z (WD.y 1 z (by kernel_rfl) (fun _ _ _ => ym z) z (WD.y 2 z (by kernel_rfl) (fun _ _ _ => ym z) z (WD.y 3 z (by kernel_rfl) (fun _ _ _ => ym z) z (WD.y 4 z (by kernel_rfl) (fun _ _ _ => Y.sub_i z z) z (WD.y 5 z (by kernel_rfl) (fun _ _ _ => ym z) z (WD.y 6 z (by kernel_rfl) (fun _ _ _ => ym z) z (WD.y 7 z (by kernel_rfl) (fun _ _ _ => Y.sub_i z z) z ?_)))))))
             obtain ⟨G, dY, h⟩ := bnd h
             have H := ((ah.st V z z z).st W z z z).st a7 z z z
             obtain ⟨ir, he, hL, bH, d1, d2, aF, cA⟩ := OwnSl.at H dY
             obtain ⟨_, _, rfl, rfl, rfl⟩ := cA
             replace aF : CellsAt _ _ _ [vs G.Key, vs G.Val] := aF
             have a8 := CAt.own H bH aF
             refine WD.y 8 z (by kernel_rfl) (fun _ _ _ => Y.indexAddr ty32 ty67 z bH z d1 d2) z (WD.y 10 z (by kernel_rfl) (fun _ _ _ => ym z) z (WD.y 11 z (by kernel_rfl) (fun _ _ _ => ym z) z ?_))
             obtain ⟨I, d3, h⟩ := bnd h
             obtain ⟨it, hf, hM, bI, d4, d5, aG, cC⟩ := OwnSl.at H d3
             obtain ⟨_, _, rfl, rfl, rfl⟩ := cC
             replace aG : CellsAt _ _ _ [vs I.Key, vs I.Val] := aG
             have a9 := CAt.own H bI aG
             refine WD.y 12 z (by kernel_rfl) (fun _ _ _ => Y.indexAddr ty32 ty67 z bI z d4 d5) z ?_
             obtain ⟨f5, h, d6⟩ := bnd h
             refine WD.join (σ := Unit) (f' := 4) [13, 12, 11, 10, 9, 8, 7, 6, 5, 4, 3, 2, 1, 0] (fun x O' w' => () = f5 ∧ dX = w' ∧ bu = O') (fun x => [(0, d), (1, vi l), (2, vi m), (3, Value.func (.func 141) (List.toArray []) (List.toArray [])), (8, vi U), (9, vi C), (37, d), (38, vi C), (39, d), (41, vi (w64 (C - 1))), (46, ag [vs G.Key, vs G.Val]), (50, ag [vs I.Key, vs I.Val])]) (fun bJ => ?_) ?_
             ·refine WD.heavy2 9 13 z z (by kernel_rfl) ?_ ?_
              ·refine wY (yL ty67 z z a8.at_ z) z (nl (At.dq (sr_ _ _ _) (WD.heavy 13 z (by kernel_rfl) (wY (yL ty67 z z a9.at_ z) z (nl (At.dq (sr_ _ _ _) (WD.perm _ [13, 12, 11, 10, 9, 8, 7, 6, 5, 4, 3, 2, 1, 0] (by kernel_rfl) ?_)))))))
               exact bJ () _ _ _ ⟨z, z, z⟩ (.cons z (.cons z (.cons z (.cons z (.cons z (.cons z (.cons z (.cons z (.cons z (.cons z (.cons z (.cons z .nil))))))))))))
              ·try simp only [Option.bind_assoc] at h
               try simp only [Option.bind_some] at h
               refine wY (yL ty67 z z a9.at_ z) z (nl (At.dq (sr_ _ _ _) (WD.heavy 9 z (by kernel_rfl) (wY (yL ty67 z z a8.at_ z) z (nl (At.dq (sr_ _ _ _) (WD.perm _ [13, 12, 11, 10, 9, 8, 7, 6, 5, 4, 3, 2, 1, 0] (by kernel_rfl) ?_)))))))
               exact bJ () _ _ _ ⟨z, z, z⟩ (.cons z (.cons z (.cons z (.cons z (.cons z (.cons z (.cons z (.cons z (.cons z (.cons z (.cons z (.cons z .nil))))))))))))
             ·rintro _ _ _ ⟨rfl, rfl, rfl⟩
              replace h := d6
              refine (show WD _ _ _ _ _ _ _ _ [(0, d), (1, vi l), (2, vi m), (3, Value.func (.func 141) (List.toArray []) (List.toArray [])), (8, vi U), (9, vi C), (37, d), (38, vi C), (39, d), (41, vi (w64 (C - 1))), (46, ag [vs G.Key, vs G.Val]), (50, ag [vs I.Key, vs I.Val])] _ _ from ?_)
              obtain ⟨cD, d7, h⟩ := bnd h
              obtain ⟨iu, hg, hN, aH, d8, d9, aI, cE⟩ := OwnSl.at H d7
              obtain ⟨_, _, rfl, rfl, rfl⟩ := cE
              replace aI : CellsAt _ _ _ [vs cD.Key, vs cD.Val] := aI
              have hh := CAt.own H aH aI
              refine WD.y 14 z (by kernel_rfl) (fun _ _ _ => Y.indexAddr ty32 ty67 z aH z d8 d9) z (WD.heavy 15 z (by kernel_rfl) ?_)
              obtain ⟨hO, cF, h⟩ := bnd h
              refine WL.storeOwn (R := rep_api_Pair) (u := G) (by decide) ty67 z z ⟨[vs G.Key], [vs G.Val], z, z, z⟩ H aH cF ?_
              intro hP ba aJ
              refine nl (At.dq (su_ ba z) ?_)
              obtain ⟨cG, ea, h⟩ := bnd h
              obtain ⟨iv, hj, hQ, aK, eb, ec, aL, cH⟩ := OwnSl.at aJ ea
              obtain ⟨_, _, rfl, rfl, rfl⟩ := cH
              replace aL : CellsAt _ _ _ [vs cG.Key, vs cG.Val] := aL
              have hm := CAt.own aJ aK aL
              refine WD.y 16 z (by kernel_rfl) (fun _ _ _ => Y.indexAddr ty32 ty67 z aK z eb ec) z (WD.phase [1001] [0, 1, 2, 3, 4, 5, 6, 7, 8, 9, 10, 11, 12, 13, 14, 15, 16, 17] (by kernel_rfl) (by kernel_rfl) (WD.heavy 17 z (by kernel_rfl) ?_))
              obtain ⟨ed, cI, h⟩ := bnd h
              refine WL.storeOwn (R := rep_api_Pair) (u := I) (by decide) ty67 z z ⟨[vs I.Key], [vs I.Val], z, z, z⟩ aJ aK cI ?_
              intro hR bb ee
              refine nl (At.dq (su_ bb z) (WD.done_ (by kernel_rfl) (At.inBlock (th (rg (wY (ym z) z (wY (Y.sub_i z z) z ?_)))))))
              obtain ⟨f6, ef, h⟩ := lt1 h
              refine WL.yE (ya z) (congrArg vi ef.symm) z (nl ?_)
              exact At.round (ed, f6, bu) fT (Nat.lt_succ_self _) ⟨next1 h bC, (tr_ (su_ am z) (tr_ (su_ V z) (tr_ (su_ W z) (tr_ (su_ a7 z) (tr_ (su_ ba z) (su_ bb z)))))), ee⟩ (.cons z (.cons z (.cons z (.cons z (.cons z (.cons z .nil))))))
            ·refine WC.condF' z aE (WC.exit (At.thenX (At.loopX ?_)))
             have eh := (ah.st V z z z).st W z z z
             obtain ⟨f7, cJ, ei⟩ := OwnSl.rlb 1004 rfl eh
             exact At.hitB (σ := (List api_Pair × Own)) (b9, f7) ⟨brk1 h bC, (tr_ (su_ am z) (tr_ (su_ V z) (tr_ (su_ W z) (su_ cJ z)))), ei⟩ (.cons z (.cons z (.cons z (.cons z (.cons z .nil)))))
          ·rintro ⟨ca, iw⟩ hS ⟨rfl, bc, bK⟩
           replace h := flowK_go dG
           try dsimp only at h bc bK
           refine (show At _ _ _ [(0, d), (1, vi l), (2, vi m), (3, Value.func (.func 141) (List.toArray []) (List.toArray [])), (8, vi U)] _ from ?_)
           refine At.inBlockHit ?_
           obtain ⟨f8, cK, ej⟩ := OwnSl.rlb 1005 rfl bK
           exact At.join (σ := (List api_Pair × Own)) (ca, f8) ⟨some1 h, (tr_ (su_ bc z) (su_ cK z)), ej⟩ (.cons z (.cons z (.cons z (.cons z (.cons z .nil)))))
         ·rintro ⟨cb, ix⟩ hT ⟨rfl, bd, bL⟩
          replace h := dF
          try dsimp only at h bd bL
          refine (show At _ _ _ [(0, d), (1, vi l), (2, vi m), (3, Value.func (.func 141) (List.toArray []) (List.toArray [])), (8, vi U)] _ from ?_)
          refine At.inBlock (th (rg (wY (ym z) z (wY (Y.add_i z z) z ?_))))
          obtain ⟨f9, ek, h⟩ := lt1 h
          refine WL.yE (ya z) (congrArg vi ek.symm) z (nl ?_)
          obtain ⟨ga, cL, em⟩ := OwnSl.rlb 1006 rfl bL
          exact At.round (cb, f9, ga) fP (Nat.lt_succ_self _) ⟨next1 h bB, (tr_ (su_ az z) (tr_ (su_ bd z) (su_ cL z))), em⟩ (.cons z (.cons z (.cons z (.cons z (.cons z .nil)))))
        ·refine WC.condF' z aA (WC.exit (At.thenX (At.loopX ?_)))
         obtain ⟨gb, cM, en⟩ := OwnSl.rlb 1007 rfl bt
         exact At.hitB (σ := (List api_Pair × Own)) (a5, gb) ⟨brk1 h bB, (tr_ (su_ az z) (su_ cM z)), en⟩ .nil
       ·rintro ⟨hn, iX⟩ iy ⟨rfl, bM, cN⟩
        replace h := flowK_go fO
        try dsimp only at h bM cN
        refine (show At _ _ _ [] _ from ?_)
        refine At.inBlockHit ?_
        obtain ⟨gc, cO, eo⟩ := OwnSl.rlb 1008 rfl cN
        exact At.res (.inr z) z .nil ⟨(hn, gc), ⟨some1 h, (tr_ (su_ bM z) (su_ cO z)), eo⟩, z⟩
      ·rintro ⟨cP, iY⟩ iz ⟨rfl, bO, cQ⟩
       replace h := fL
       try dsimp only at h bO cQ
       refine (show WL _ _ _ _ _ ((18, tp []) :: _) _ from ?_)
       refine nl (th (sq (rg (wY (ym z) z (wY (ya z) z (nl (th (rg (wY (ym z) z ?_)))))))))
       refine wY (ym z) z (wY (Y.add_i z z) z ?_)
       obtain ⟨gd, ep, h⟩ := lt1 h
       refine WL.yE (ya z) (congrArg vi ep.symm) z (nl (At.inBlock ?_))
       obtain ⟨ge, cR, er⟩ := OwnSl.rlb 1009 rfl cQ
       exact At.round (cP, m, gd, ge) g7 (Nat.lt_succ_self _) ⟨next1 h cj, (tr_ (su_ ay z) (tr_ (su_ bO z) (su_ cR z))), er⟩ (.cons z (.cons z (.cons z (.cons z (.cons z (.cons z .nil))))))
     ·refine WC.condF' z br (WC.exit (At.thenX (At.loopX ?_)))
      obtain ⟨gf, cS, es⟩ := OwnSl.rlb 1010 rfl bq
      exact At.hitB (σ := (List api_Pair × Int × Own)) (a4, l, gf) ⟨brk1 h cj, (tr_ (su_ ay z) (su_ cS z)), es⟩ (.cons z (.cons z (.cons z (.cons z (.cons z .nil)))))
    ·rintro ⟨cT, fB, iZ⟩ iA ⟨rfl, bP, cU⟩
     replace h := flowK_go fJ
     try dsimp only at h bP cU
     refine (show At _ _ _ [(0, d), (1, vi (e.length : Int)), (2, Value.func (.func 141) (List.toArray []) (List.toArray [])), (6, vi 20), (7, vi fB)] _ from ?_)
     refine At.inBlockHit ?_
     obtain ⟨gg, cV, et⟩ := OwnSl.rlb 1011 rfl cU
     exact At.join (σ := (List api_Pair × Int × Own)) (cT, fB, gg) ⟨some1 h, (tr_ (su_ bP z) (su_ cV z)), et⟩ (.cons z (.cons z (.cons z (.cons z (.cons z .nil)))))
   ·rintro ⟨cW, o, cX⟩ bw ⟨rfl, bQ, cY⟩
    replace h := fI
    try dsimp only at h bQ cY
    refine (show At _ _ _ [(0, d), (1, vi (e.length : Int)), (2, Value.func (.func 141) (List.toArray []) (List.toArray [])), (6, vi 20), (7, vi o)] _ from ?_)
    refine th (sq (rg (wY (ym z) z (wY (ym z) z (wY (ym z) z (wY (ym z) z ?_))))))
    obtain ⟨gh, h, eu⟩ := bnd h
    refine WL.callJ (vals := [d, vi o, vi (e.length : Int), Value.func (.func 141) (List.toArray []) (List.toArray [])]) (σ := (List api_Pair × Own)) (fun x w' => x.1 = gh ∧ Stp [1011, 1012, 1013, 1014, 1015, 1016, 1017, 1018] cX bw x.2 w' ∧ OwnSl 1019 rep_api_Pair 67 x.2 w' d x.1) (fun x => tp []) kok168 z z ?_ ?_
    ·refine Rets.enter Tryz.func168 z z ?_
     refine (show WC _ _ _ _ [(0, d), (1, vi o), (2, vi (e.length : Int)), (3, Value.func (.func 141) (List.toArray []) (List.toArray []))] _ from ?_)
     refine sq (rg (wY (ym z) z (wY (Y.add_i z z) z ?_)))
     obtain ⟨gi, ew, h⟩ := lt1 h
     refine WL.yE (ya z) (congrArg vi ew.symm) z (nl (th (WC.block ?_)))
     obtain ⟨cZ, h, ex⟩ := flow1 h
     obtain ⟨c0, h⟩ := loop_some h
     refine WC.joinB 0 (σ := (List api_Pair × Own)) (fun x w' => cZ = .go x.1 ∧ Stp [1011, 1012, 1013, 1014, 1015, 1016, 1017] cX bw x.2 w' ∧ OwnSl 1018 rep_api_Pair 67 x.2 w' d x.1) (fun x => []) ?_ ?_
     ·obtain ⟨gj, c1, ey⟩ := OwnSl.rlb 1017 rfl cY
      refine WC.loop (σ := (List api_Pair × Int × Own)) (fun x k w' => loopN k (label_Sorted_lp4 e o) (x.1, x.2.1) = some cZ ∧ Stp [1011, 1012, 1013, 1014, 1015, 1016, 1017] cX bw x.2.2 w' ∧ OwnSl 1017 rep_api_Pair 67 x.2.2 w' d x.1) (fun x => [(0, d), (1, vi o), (2, vi (e.length : Int)), (3, Value.func (.func 141) (List.toArray []) (List.toArray [])), (8, vi x.2.1)]) (cW, gi, gj) c0 (.cons z (.cons z (.cons z (.cons z (.cons z .nil))))) ⟨h, (su_ c1 z), ey⟩ ?_
      rintro ⟨ax, t, bx⟩ c0 aM ⟨h, ao, aN⟩
      obtain ⟨gk, iB, rfl, h, bR⟩ := rnd1 h
      unfold label_Sorted_lp4 at h
      try dsimp only at h ao aN
      refine (show WC _ _ _ _ [(0, d), (1, vi o), (2, vi (e.length : Int)), (3, Value.func (.func 141) (List.toArray []) (List.toArray [])), (8, vi t)] _ from ?_)
      refine sq (sq (rg (wY (ym z) z (wY (ym z) z (wY (Y.lss_i z z) z (nl (th ?_)))))))
      rcases cnd h with ⟨aO, h⟩ | ⟨aO, h⟩
      ·refine WC.condT' z aO (sk (th (sq (WC.block (sq (rg (wY (ym z) z (wY (ya z) z (nl ?_)))))))))
       refine th ?_
       obtain ⟨gl, h, ez⟩ := bnd h
       refine WC.join (σ := (List api_Pair × Own)) (fun x w' => x.1 = gl ∧ Stp [1012, 1013, 1014, 1015, 1017] bx aM x.2 w' ∧ OwnSl 1016 rep_api_Pair 67 x.2 w' d x.1) (fun x => [(0, d), (1, vi o), (2, vi (e.length : Int)), (3, Value.func (.func 141) (List.toArray []) (List.toArray [])), (8, vi t)]) ?_ ?_
       ·refine WC.block ?_
        obtain ⟨c2, h, eA⟩ := flow1 h
        obtain ⟨c3, h⟩ := loop_some h
        refine WC.joinB 2 (σ := (List api_Pair × Own)) (fun x w' => c2 = .go x.1 ∧ Stp [1012, 1017] bx aM x.2 w' ∧ OwnSl 1015 rep_api_Pair 67 x.2 w' d x.1) (fun x => [(0, d), (1, vi o), (2, vi (e.length : Int)), (3, Value.func (.func 141) (List.toArray []) (List.toArray [])), (8, vi t)]) ?_ ?_
        ·obtain ⟨gm, c4, eB⟩ := OwnSl.rlb 1012 rfl aN
         refine WC.loop (σ := (List api_Pair × Int × Own)) (fun x k w' => loopN k (label_Sorted_lp5 o) (x.1, x.2.1) = some c2 ∧ Stp [1012, 1017] bx aM x.2.2 w' ∧ OwnSl 1012 rep_api_Pair 67 x.2.2 w' d x.1) (fun x => [(0, d), (1, vi o), (2, vi (e.length : Int)), (3, Value.func (.func 141) (List.toArray []) (List.toArray [])), (8, vi t), (9, vi x.2.1)]) (ax, t, gm) c3 (.cons z (.cons z (.cons z (.cons z (.cons z (.cons z .nil)))))) ⟨h, (su_ c4 z), eB⟩ ?_
         rintro ⟨cc, J, ap⟩ c3 hU ⟨h, aq, aj⟩
         obtain ⟨gn, iC, rfl, h, bS⟩ := rnd1 h
         unfold label_Sorted_lp5 at h
         try dsimp only at h aq aj
         refine (show WC _ _ _ _ [(0, d), (1, vi o), (2, vi (e.length : Int)), (3, Value.func (.func 141) (List.toArray []) (List.toArray [])), (8, vi t), (9, vi J)] _ from ?_)
         refine sq (sq (WC.drawH [] [0, 1, 2, 3, 4, 5, 6, 7, 8, 9, 10, 11, 12, 13, 14, 15, 16] ap 17 fmix z (by kernel_rfl) ?_))
         intro bT Z
         refine WD.y 0 z (by kernel_rfl) (fun _ _ _ => ym z) z (WD.y 1 z (by kernel_rfl) (fun _ _ _ => ym z) z (WD.y 2 z (by kernel_rfl) (fun _ _ _ => Y.gtr_i z z) z (WD.y 3 z (by kernel_rfl) (fun _ _ _ => ym z) z ?_)))
         obtain ⟨gp, h, eC⟩ := bnd h
         refine WD.join (σ := (Bool × Own)) (f' := 0) [16, 15, 14, 13, 12, 11, 10, 9, 8, 7, 6, 5, 4, 3, 2, 1, 0] (fun x O' w' => x.1 = gp ∧ Stp [] ap bT x.2 w' ∧ x.2 = O') (fun x => [(0, d), (1, vi o), (2, vi (e.length : Int)), (3, Value.func (.func 141) (List.toArray []) (List.toArray [])), (8, vi t), (9, vi J), (34, vB x.1)]) (fun bU => ?_) ?_
         ·rcases cnd h with ⟨ad, h⟩ | ⟨ad, h⟩
          ·refine WD.ren 21 z (congrArg vB ad) (WD.gT 4 z (by kernel_rfl) z z (fun _ _ _ => ym z) z (WD.gT 5 z (by kernel_rfl) z z (fun _ _ _ => ym z) z (WD.gT 6 z (by kernel_rfl) z z (fun _ _ _ => ym z) z ?_)))
           obtain ⟨K, eD, h⟩ := bnd h
           have ak := aj.st Z z z z
           obtain ⟨iD, ho, hV, bW, eE, eF, aP, c5⟩ := OwnSl.at ak eD
           obtain ⟨_, _, rfl, rfl, rfl⟩ := c5
           replace aP : CellsAt _ _ _ [vs K.Key, vs K.Val] := aP
           have c6 := CAt.own ak bW aP
           refine WD.gT 7 z (by kernel_rfl) z z (fun _ _ _ => Y.indexAddr ty32 ty67 z bW z eE eF) z (WD.gT 8 z (by kernel_rfl) z z (fun hW iE c7 => have eG := c6.st c7 z; yL ty67 z z eG.at_ z) z (WD.gT 9 z (by kernel_rfl) z z (fun _ _ _ => ym z) z (WD.gT 10 z (by kernel_rfl) z z (fun _ _ _ => ym z) z (WD.gT 11 z (by kernel_rfl) z z (fun _ _ _ => Y.sub_i z z) z ?_))))
           obtain ⟨L, eH, h⟩ := bnd h
           obtain ⟨iF, hp, hX, bX, eI, eJ, aQ, c8⟩ := OwnSl.at ak eH
           obtain ⟨_, _, rfl, rfl, rfl⟩ := c8
           replace aQ : CellsAt _ _ _ [vs L.Key, vs L.Val] := aQ
           have c9 := CAt.own ak bX aQ
           refine WD.gT 12 z (by kernel_rfl) z z (fun _ _ _ => Y.indexAddr ty32 ty67 z bX z eI eJ) z (WD.gT 13 z (by kernel_rfl) z z (fun hY iG da => have eK := c9.st da z; yL ty67 z z eK.at_ z) z (WD.heavy 14 z (by kernel_rfl) (ug z z ?_)))
           obtain ⟨gq, h, eL⟩ := bnd h
           refine WL.callV (fv := []) (cv := []) (vals := [ag [vs K.Key, vs K.Val], ag [vs L.Key, vs L.Val]]) (σ := (Int × Own)) (fun x w' => x.1 = gq ∧ Stp [] ap bT x.2 w') (fun x => vi x.1) kok141 z z z ?_ ?_
           ·refine Rets.enter Tryz.func141 z z ?_
            refine (show WC _ _ _ _ [(0, ag [vs K.Key, vs K.Val]), (1, ag [vs L.Key, vs L.Val])] _ from ?_)
            refine sq (rg (WL.box (O := ap) 14 [vs K.Key, vs K.Val] z z z ?_))
            intro iH gr hZ db eM
            refine WL.box (O := gr) 15 [vs L.Key, vs L.Val] z z z ?_
            intro iI gs h0 bf eN
            refine wY (ya z) z (nl (th (sq (rg (wY (yf fo67_0 z) z ?_)))))
            have eO := eM.st bf z
            refine wY (yl ty9 z z (eO.cell 0 _ z)) z (wY (yf fo67_0 z) z (wY (yl ty9 z z (eN.cell 0 _ z)) z ?_))
            obtain ⟨gt, eP, h⟩ := bnd h
            refine WL.call (vals := [vs K.Key, vs L.Key]) kok142 z z (c_cmp_Compare_string eP) ?_
            rintro h1 h2 ⟨rfl, eQ⟩
            obtain ⟨gu, gY, gZ, dc⟩ := adoptE gs (fun k => 1) eQ
            refine wY (ya z) z (nl (th (rt ?_)))
            exact At.res (.inl z) z (.tmp z .nil) ⟨(gt, gu), ⟨some1 h, (tr_ (su_ db z) (tr_ (su_ bf z) (su_ dc z)))⟩, z⟩
           ·rintro ⟨dd, gw⟩ h3 ⟨rfl, ar⟩
            replace h := eL
            try dsimp only at h ar
            refine (show WL _ _ _ _ _ ((32, vi dd) :: _) _ from ?_)
            refine nl (At.dq (su_ ar z) (WD.gT 15 z (by kernel_rfl) z z (fun _ _ _ => Y.lss_i z z) z (WD.y 16 z (by kernel_rfl) (fun _ _ _ => Y.pick (b := true) z z) z (WD.ren 21 z (congrArg vB ad.symm) ?_))))
            exact bU (decide (dd < 0), gw) _ _ _ ⟨some1 h, (su_ ar z), z⟩ (.cons z (.cons z (.cons z (.cons z (.cons z (.cons z (.cons z .nil)))))))
          ·refine WD.ren 21 z (congrArg vB ad) (WD.gS 4 z (by kernel_rfl) z z z z (WD.gS 5 z (by kernel_rfl) z z z z (WD.gS 6 z (by kernel_rfl) z z z z (WD.gS 7 z (by kernel_rfl) z z z z (WD.gS 8 z (by kernel_rfl) z z z z (WD.gS 9 z (by kernel_rfl) z z z z (WD.gS 10 z (by kernel_rfl) z z z z (WD.gS 11 z (by kernel_rfl) z z z z (WD.gS 12 z (by kernel_rfl) z z z z ?_)))))))))
           refine WD.gS 13 z (by kernel_rfl) z z z z (WD.heavy 14 z (by kernel_rfl) (WL.gS z z z z (nl (At.dq (sr_ _ _ _) (WD.gS 15 z (by kernel_rfl) z z z z (WD.y 16 z (by kernel_rfl) (fun _ _ _ => Y.pick (b := false) z z) z (WD.ren 21 z (congrArg vB ad.symm) ?_)))))))
           exact bU (false, ap) _ _ _ ⟨some1 h, (sr_ _ _ _), z⟩ (.cons z (.cons z (.cons z (.cons z (.cons z (.cons z (.cons z .nil)))))))
         ·rintro ⟨gz, bz⟩ _ h4 ⟨rfl, aa, rfl⟩
          replace h := eC
          try dsimp only at h aa
          refine (show WD _ _ _ _ _ _ _ _ [(0, d), (1, vi o), (2, vi (e.length : Int)), (3, Value.func (.func 141) (List.toArray []) (List.toArray [])), (8, vi t), (9, vi J), (34, vB gz)] _ _ from ?_)
          refine WD.done_ (by kernel_rfl) (th ?_)
          rcases cnd h with ⟨aR, h⟩ | ⟨aR, h⟩
          ·refine WC.condT' z aR (sk (th (sq (WC.block (WC.drawH [1012] [0, 1, 2, 3, 4, 5, 6, 7, 8, 9, 10, 11, 12, 13, 14, 15, 16] bz 18 fmix z (by kernel_rfl) ?_)))))
           intro eR bg
           refine WD.y 0 z (by kernel_rfl) (fun _ _ _ => ym z) z (WD.y 1 z (by kernel_rfl) (fun _ _ _ => ym z) z (WD.y 2 z (by kernel_rfl) (fun _ _ _ => ym z) z (WD.y 3 z (by kernel_rfl) (fun _ _ _ => ym z) z (WD.y 4 z (by kernel_rfl) (fun _ _ _ => Y.sub_i z z) z (WD.y 5 z (by kernel_rfl) (fun _ _ _ => ym z) z (WD.y 6 z (by kernel_rfl) (fun _ _ _ => ym z) z (WD.y 7 z (by kernel_rfl) (fun _ _ _ => Y.sub_i z z) z ?_)))))))
           obtain ⟨M, eS, h⟩ := bnd h
           have Q := ((aj.st Z z z z).st aa z z z).st bg z z z
           obtain ⟨iJ, hq, h5, bY, eV, eW, aS, de⟩ := OwnSl.at Q eS
           obtain ⟨_, _, rfl, rfl, rfl⟩ := de
           replace aS : CellsAt _ _ _ [vs M.Key, vs M.Val] := aS
           have bh := CAt.own Q bY aS
           refine WD.y 8 z (by kernel_rfl) (fun _ _ _ => Y.indexAddr ty32 ty67 z bY z eV eW) z (WD.y 10 z (by kernel_rfl) (fun _ _ _ => ym z) z (WD.y 11 z (by kernel_rfl) (fun _ _ _ => ym z) z ?_))
           obtain ⟨S, eX, h⟩ := bnd h
           obtain ⟨iK, hr, h6, bZ, eY, eZ, aT, df⟩ := OwnSl.at Q eX
           obtain ⟨_, _, rfl, rfl, rfl⟩ := df
           replace aT : CellsAt _ _ _ [vs S.Key, vs S.Val] := aT
           have bi := CAt.own Q bZ aT
           refine WD.y 12 z (by kernel_rfl) (fun _ _ _ => Y.indexAddr ty32 ty67 z bZ z eY eZ) z ?_
           obtain ⟨gB, h, e0⟩ := bnd h
           refine WD.join (σ := Unit) (f' := 4) [13, 12, 11, 10, 9, 8, 7, 6, 5, 4, 3, 2, 1, 0] (fun x O' w' => () = gB ∧ eR = w' ∧ bz = O') (fun x => [(0, d), (1, vi o), (2, vi (e.length : Int)), (3, Value.func (.func 141) (List.toArray []) (List.toArray [])), (8, vi t), (9, vi J), (37, d), (38, vi J), (39, d), (41, vi (w64 (J - 1))), (46, ag [vs M.Key, vs M.Val]), (50, ag [vs S.Key, vs S.Val])]) (fun b0 => ?_) ?_
           ·refine WD.heavy2 9 13 z z (by kernel_rfl) ?_ ?_
            ·refine wY (yL ty67 z z bh.at_ z) z (nl (At.dq (sr_ _ _ _) (WD.heavy 13 z (by kernel_rfl) (wY (yL ty67 z z bi.at_ z) z (nl (At.dq (sr_ _ _ _) (WD.perm _ [13, 12, 11, 10, 9, 8, 7, 6, 5, 4, 3, 2, 1, 0] (by kernel_rfl) ?_)))))))
             exact b0 () _ _ _ ⟨z, z, z⟩ (.cons z (.cons z (.cons z (.cons z (.cons z (.cons z (.cons z (.cons z (.cons z (.cons z (.cons z (.cons z .nil))))))))))))
            ·try simp only [Option.bind_assoc] at h
             try simp only [Option.bind_some] at h
             refine wY (yL ty67 z z bi.at_ z) z (nl (At.dq (sr_ _ _ _) (WD.heavy 9 z (by kernel_rfl) (wY (yL ty67 z z bh.at_ z) z (nl (At.dq (sr_ _ _ _) (WD.perm _ [13, 12, 11, 10, 9, 8, 7, 6, 5, 4, 3, 2, 1, 0] (by kernel_rfl) ?_)))))))
             exact b0 () _ _ _ ⟨z, z, z⟩ (.cons z (.cons z (.cons z (.cons z (.cons z (.cons z (.cons z (.cons z (.cons z (.cons z (.cons z (.cons z .nil))))))))))))
           ·rintro _ _ _ ⟨rfl, rfl, rfl⟩
            replace h := e0
            refine (show WD _ _ _ _ _ _ _ _ [(0, d), (1, vi o), (2, vi (e.length : Int)), (3, Value.func (.func 141) (List.toArray []) (List.toArray [])), (8, vi t), (9, vi J), (37, d), (38, vi J), (39, d), (41, vi (w64 (J - 1))), (46, ag [vs M.Key, vs M.Val]), (50, ag [vs S.Key, vs S.Val])] _ _ from ?_)
            obtain ⟨dg, e1, h⟩ := bnd h
            obtain ⟨iL, ht, h7, aU, e2, e5, aW, dh⟩ := OwnSl.at Q e1
            obtain ⟨_, _, rfl, rfl, rfl⟩ := dh
            replace aW : CellsAt _ _ _ [vs dg.Key, vs dg.Val] := aW
            have hu := CAt.own Q aU aW
            refine WD.y 14 z (by kernel_rfl) (fun _ _ _ => Y.indexAddr ty32 ty67 z aU z e2 e5) z (WD.heavy 15 z (by kernel_rfl) ?_)
            obtain ⟨h8, di, h⟩ := bnd h
            refine WL.storeOwn (R := rep_api_Pair) (u := M) (by decide) ty67 z z ⟨[vs M.Key], [vs M.Val], z, z, z⟩ Q aU di ?_
            intro h9 bj aX
            refine nl (At.dq (su_ bj z) ?_)
            obtain ⟨dj, e6, h⟩ := bnd h
            obtain ⟨iM, hv, ia, aY, e7, e8, aZ, dk⟩ := OwnSl.at aX e6
            obtain ⟨_, _, rfl, rfl, rfl⟩ := dk
            replace aZ : CellsAt _ _ _ [vs dj.Key, vs dj.Val] := aZ
            have hw := CAt.own aX aY aZ
            refine WD.y 16 z (by kernel_rfl) (fun _ _ _ => Y.indexAddr ty32 ty67 z aY z e7 e8) z (WD.phase [1012] [0, 1, 2, 3, 4, 5, 6, 7, 8, 9, 10, 11, 12, 13, 14, 15, 16, 17] (by kernel_rfl) (by kernel_rfl) (WD.heavy 17 z (by kernel_rfl) ?_))
            obtain ⟨e9, dl, h⟩ := bnd h
            refine WL.storeOwn (R := rep_api_Pair) (u := S) (by decide) ty67 z z ⟨[vs S.Key], [vs S.Val], z, z, z⟩ aX aY dl ?_
            intro ib bk fa
            refine nl (At.dq (su_ bk z) (WD.done_ (by kernel_rfl) (At.inBlock (th (rg (wY (ym z) z (wY (Y.sub_i z z) z ?_)))))))
            obtain ⟨gC, fc, h⟩ := lt1 h
            refine WL.yE (ya z) (congrArg vi fc.symm) z (nl ?_)
            exact At.round (e9, gC, bz) gn (Nat.lt_succ_self _) ⟨next1 h bS, (tr_ (su_ aq z) (tr_ (su_ Z z) (tr_ (su_ aa z) (tr_ (su_ bg z) (tr_ (su_ bj z) (su_ bk z)))))), fa⟩ (.cons z (.cons z (.cons z (.cons z (.cons z (.cons z .nil))))))
          ·refine WC.condF' z aR (WC.exit (At.thenX (At.loopX ?_)))
           have fe := (aj.st Z z z z).st aa z z z
           obtain ⟨gE, dm, ff⟩ := OwnSl.rlb 1015 rfl fe
           exact At.hitB (σ := (List api_Pair × Own)) (cc, gE) ⟨brk1 h bS, (tr_ (su_ aq z) (tr_ (su_ Z z) (tr_ (su_ aa z) (su_ dm z)))), ff⟩ (.cons z (.cons z (.cons z (.cons z (.cons z .nil)))))
        ·rintro ⟨cd, iN⟩ ic ⟨rfl, bl, b1⟩
         replace h := flowK_go eA
         try dsimp only at h bl b1
         refine (show At _ _ _ [(0, d), (1, vi o), (2, vi (e.length : Int)), (3, Value.func (.func 141) (List.toArray []) (List.toArray [])), (8, vi t)] _ from ?_)
         refine At.inBlockHit ?_
         obtain ⟨gG, dn, fg⟩ := OwnSl.rlb 1016 rfl b1
         exact At.join (σ := (List api_Pair × Own)) (cd, gG) ⟨some1 h, (tr_ (su_ bl z) (su_ dn z)), fg⟩ (.cons z (.cons z (.cons z (.cons z (.cons z .nil)))))
       ·rintro ⟨ce, iO⟩ ie ⟨rfl, bm, b2⟩
        replace h := ez
        try dsimp only at h bm b2
        refine (show At _ _ _ [(0, d), (1, vi o), (2, vi (e.length : Int)), (3, Value.func (.func 141) (List.toArray []) (List.toArray [])), (8, vi t)] _ from ?_)
        refine At.inBlock (th (rg (wY (ym z) z (wY (Y.add_i z z) z ?_))))
        obtain ⟨gH, fh, h⟩ := lt1 h
        refine WL.yE (ya z) (congrArg vi fh.symm) z (nl ?_)
        obtain ⟨gI, dp, fi⟩ := OwnSl.rlb 1017 rfl b2
        exact At.round (ce, gH, gI) gk (Nat.lt_succ_self _) ⟨next1 h bR, (tr_ (su_ ao z) (tr_ (su_ bm z) (su_ dp z))), fi⟩ (.cons z (.cons z (.cons z (.cons z (.cons z .nil)))))
      ·refine WC.condF' z aO (WC.exit (At.thenX (At.loopX ?_)))
       obtain ⟨gJ, dr, fj⟩ := OwnSl.rlb 1018 rfl aN
       exact At.hitB (σ := (List api_Pair × Own)) (ax, gJ) ⟨brk1 h bR, (tr_ (su_ ao z) (su_ dr z)), fj⟩ .nil
     ·rintro ⟨gK, iP⟩ ig ⟨rfl, bn, b3⟩
      replace h := flowK_go ex
      try dsimp only at h bn b3
      refine (show At _ _ _ [] _ from ?_)
      refine At.inBlockHit ?_
      obtain ⟨gL, ds, fk⟩ := OwnSl.rlb 1019 rfl b3
      exact At.res (.inr z) z .nil ⟨(gK, gL), ⟨some1 h, (tr_ (su_ bn z) (su_ ds z)), fk⟩, z⟩
    ·rintro ⟨cf, iQ⟩ T ⟨rfl, bo, b4⟩
     replace h := eu
     try dsimp only at h bo b4
     refine (show WL _ _ _ _ _ ((27, tp []) :: _) _ from ?_)
     refine nl (th (WC.block ?_))
     obtain ⟨dt, h, fl⟩ := flow1 h
     obtain ⟨du, h⟩ := loop_some h
     refine WC.joinB 2 (σ := Unit) (fun x w' => dt = .go () ∧ T = w') (fun x => []) ?_ ?_
     ·refine WC.loop (σ := Int) (fun x k w' => loopN k (label_Sorted_lp6 e) x = some dt ∧ T = w') (fun x => [(0, d), (1, vi (e.length : Int)), (2, Value.func (.func 141) (List.toArray []) (List.toArray [])), (6, vi x)]) 20 du (.cons z (.cons z (.cons z (.cons z .nil)))) ⟨h, z⟩ ?_
      rintro j du _ ⟨h, rfl⟩
      obtain ⟨gM, iR, rfl, h, b5⟩ := rnd1 h
      unfold label_Sorted_lp6 at h
      try dsimp only at h
      refine (show WC _ _ _ _ [(0, d), (1, vi (e.length : Int)), (2, Value.func (.func 141) (List.toArray []) (List.toArray [])), (6, vi j)] _ from ?_)
      refine sq (sq (rg (wY (ym z) z (wY (ym z) z (wY (Y.lss_i z z) z (nl (th ?_)))))))
      rcases cnd h with ⟨a1, h⟩ | ⟨a1, h⟩
      ·refine WC.condT' z a1 (sk (th ?_))
       obtain ⟨gO, h, fm⟩ := bnd h
       refine WC.join (σ := Int) (fun x w' => x = gO ∧ T = w') (fun x => [(0, d), (1, vi (e.length : Int)), (2, Value.func (.func 141) (List.toArray []) (List.toArray [])), (6, vi x)]) ?_ ?_
       ·refine WC.block (sq (rg (wY (ym z) z (wY (Y.mul_i z z) z (wY (ya z) z ?_)))))
        obtain ⟨bA, fn, h⟩ := lt1 h
        refine WL.yE (ya z) (congrArg vi fn.symm) z (nl (th (sq ?_)))
        obtain ⟨gP, h, fo⟩ := bnd h
        refine WC.join (σ := Unit) (fun x w' => () = gP ∧ T = w') (fun x => [(0, d), (1, vi (e.length : Int)), (2, Value.func (.func 141) (List.toArray []) (List.toArray [])), (6, vi j), (7, vi 0)]) ?_ ?_
        ·refine WC.block ?_
         obtain ⟨dw, h, fp⟩ := flow1 h
         obtain ⟨dx, h⟩ := loop_some h
         refine WC.joinB 4 (σ := Unit) (fun x w' => dw = .go () ∧ T = w') (fun x => [(0, d), (1, vi (e.length : Int)), (2, Value.func (.func 141) (List.toArray []) (List.toArray [])), (6, vi j), (7, vi 0)]) ?_ ?_
         ·refine WC.loop (σ := Unit) (fun x k w' => loopN k (label_Sorted_lp7 e bA) () = some dw ∧ T = w') (fun x => [(0, d), (1, vi (e.length : Int)), (2, Value.func (.func 141) (List.toArray []) (List.toArray [])), (6, vi j), (7, vi 0), (8, vi bA)]) () dx (.cons z (.cons z (.cons z (.cons z (.cons z (.cons z .nil)))))) ⟨h, z⟩ ?_
          rintro _ dx _ ⟨h, rfl⟩
          obtain ⟨iS, iT, rfl, h, fq⟩ := rnd1 h
          unfold label_Sorted_lp7 at h
          refine (show WC _ _ _ _ [(0, d), (1, vi (e.length : Int)), (2, Value.func (.func 141) (List.toArray []) (List.toArray [])), (6, vi j), (7, vi 0), (8, vi bA)] _ from ?_)
          refine sq (sq (rg (wY (ym z) z (wY (ym z) z (wY (Y.leq_i z z) z (nl (th ?_)))))))
          rcases cnd h with ⟨a2, h⟩ | ⟨a2, h⟩
          ·refine WC.condT' z a2 (sk (th (WC.block (sq (rg (wY (ym z) z (wY (ym z) z (wY (ym z) z (wY (ym z) z ?_)))))))))
           refine wY (Y.add_i z z) z (wY (ym z) z (wY (ym z) z ?_))
           cases h
          ·refine WC.condF' z a2 (WC.exit (At.thenX (At.loopX ?_)))
           exact At.hitB (σ := Unit) () ⟨brk1 h fq, z⟩ (.cons z (.cons z (.cons z (.cons z (.cons z .nil)))))
         ·rintro _ _ ⟨rfl, rfl⟩
          replace h := flowK_go fp
          refine (show At _ _ _ [(0, d), (1, vi (e.length : Int)), (2, Value.func (.func 141) (List.toArray []) (List.toArray [])), (6, vi j), (7, vi 0)] _ from ?_)
          refine At.inBlockHit ?_
          exact At.join (σ := Unit) () ⟨some1 h, z⟩ (.cons z (.cons z (.cons z (.cons z (.cons z .nil)))))
        ·rintro _ _ ⟨rfl, rfl⟩
         replace h := fo
         refine (show At _ _ _ [(0, d), (1, vi (e.length : Int)), (2, Value.func (.func 141) (List.toArray []) (List.toArray [])), (6, vi j), (7, vi 0)] _ from ?_)
         refine th (sq ?_)
         obtain ⟨gQ, h, fs⟩ := bnd h
         refine WC.join (σ := Unit) (fun x w' => () = gQ ∧ T = w') (fun x => [(0, d), (1, vi (e.length : Int)), (2, Value.func (.func 141) (List.toArray []) (List.toArray [])), (6, vi j)]) ?_ ?_
         ·refine sq (rg (wY (ym z) z (wY (ym z) z (wY (Y.add_i z z) z ?_))))
          obtain ⟨iU, ft, h⟩ := lt1 h
          refine WL.yE (ya z) (congrArg vi ft.symm) z (nl (th (sq (rg (wY (ym z) z (wY (ym z) z (wY (Y.lss_i z z) z (nl (th ?_)))))))))
          rcases cnd h with ⟨a3, h⟩ | ⟨a3, h⟩
          ·refine WC.condT' z a3 (rg (wY (ym z) z (wY (ym z) z (wY (ym z) z (wY (ym z) z (wY (ym z) z ?_))))))
           cases h
          ·refine WC.condF' z a3 (sk ?_)
           exact At.join (σ := Unit) () ⟨some1 h, z⟩ (.cons z (.cons z (.cons z (.cons z .nil))))
         ·rintro _ _ ⟨rfl, rfl⟩
          replace h := fs
          refine (show At _ _ _ [(0, d), (1, vi (e.length : Int)), (2, Value.func (.func 141) (List.toArray []) (List.toArray [])), (6, vi j)] _ from ?_)
          refine th (rg (wY (ym z) z (wY (Y.mul_i z z) z ?_)))
          obtain ⟨au, af, h⟩ := lt1 h
          refine WL.yE (ya z) (congrArg vi af.symm) z (nl (At.inBlock ?_))
          exact At.join (σ := Int) au ⟨some1 h, z⟩ (.cons z (.cons z (.cons z (.cons z .nil))))
       ·rintro ab _ ⟨rfl, rfl⟩
        replace h := fm
        try dsimp only at h
        refine (show At _ _ _ [(0, d), (1, vi (e.length : Int)), (2, Value.func (.func 141) (List.toArray []) (List.toArray [])), (6, vi ab)] _ from ?_)
        exact At.round ab gM (Nat.lt_succ_self _) ⟨next1 h b5, z⟩ (.cons z (.cons z (.cons z (.cons z .nil))))
      ·refine WC.condF' z a1 (WC.exit (At.thenX (At.loopX ?_)))
       exact At.hitB (σ := Unit) () ⟨brk1 h b5, z⟩ .nil
     ·rintro _ _ ⟨rfl, rfl⟩
      replace h := flowK_go fl
      refine (show At _ _ _ [] _ from ?_)
      refine At.inBlockHit ?_
      obtain ⟨gR, dy, fu⟩ := OwnSl.rlb 1020 rfl b4
      exact At.res (.inr z) z .nil ⟨(cf, gR), ⟨some1 h, (tr_ (su_ bQ z) (tr_ (su_ bo z) (su_ dy z))), fu⟩, z⟩
  ·rintro ⟨hx, i0⟩ iV ⟨rfl, b6, dz⟩
   replace h := fH
   try dsimp only at h b6 dz
   refine (show WL _ _ _ _ _ ((8, tp []) :: _) _ from ?_)
   refine nl ?_
   obtain ⟨gU, dA, fw⟩ := OwnSl.rlb 1022 rfl dz
   exact At.res (.inr z) z .nil ⟨(hx, gU), ⟨some1 h, (tr_ (su_ b6 z) (su_ dA z)), fw⟩, z⟩
 ·rintro ⟨ih, hy⟩ gV ⟨rfl, b7, dB⟩
  replace h := fG
  try dsimp only at h b7 dB
  refine (show WL _ _ _ _ _ ((7, tp []) :: _) _ from ?_)
  refine nl (th (sq (rg (wY (ym z) z (wY (ya z) z (nl (th (rt ?_))))))))
  obtain rfl := some1 h
  have b8 : Stp [11, 1001, 1002, 1003, 1004, 1005, 1006, 1007, 1008, 1009, 1010, 1011, 1012, 1013, 1014, 1015, 1016, 1017, 1018, 1019, 1020] (Lg.O0 A) w hy gV := (tr_ (su_ dC z) (su_ b7 z))
  exact At.res (.inl z) z (.tmp z .nil) ⟨d, z, (se_ b8 z z), (OwnSl.outF dB b8 low0 z)⟩
theorem c_label_Text {A : Nat → Prop} {a0 : List UInt8} {a1 : List api_Pair} {v1 : Value} {w : World} (hs1 : Sl rep_api_Pair w A v1 a1) {r0 : List UInt8} {r1 : Int} (h : label_Text a0 a1 = some (r0, r1)) : Rets Tryz.prog 87 [vs a0, v1] w (fun v w' => v = tp [vs r0, vi r1] ∧ Ext w w') := by
 unfold label_Text at h
 refine Rets.enter Tryz.func87 z z ?_
 have aD : Sl rep_api_Pair w (imm (Lg.O0 A)) v1 a1 := (Sl.start hs1)
 refine (show WC _ _ _ _ [(0, vs a0), (1, v1)] _ from ?_)
 refine sq (rg (wY (ya (v := vs []) z) z (wY (ya z) z (nl (th (sq (sq (rg (wY (ym z) z ?_)))))))))
 refine wY (ym z) z ?_
 obtain ⟨de, bQ, h⟩ := bnd h
 refine WL.call (vals := [vs a0, v1]) kok32 z z (c_label_Check (A := fun _ => True) (Sl.all aD) bQ) ?_
 rintro cX bR ⟨rfl, bS⟩
 obtain ⟨bJ, cu, cw, C⟩ := adoptE (Lg.O0 A) (fun k => 1) bS
 refine wY (ya z) z (nl (th (sq (rg (wY (ym z) z (wY (Y.neq_i z z) z (nl (th ?_))))))))
 rcases cnd h with ⟨Z, h⟩ | ⟨Z, h⟩
 ·refine WC.condT' z Z (sq (rg (wY (ym z) z (wY (ya (v := vs []) z) z (wY (ya z) z (nl (th (rt (At.thenR ?_)))))))))
  obtain ⟨rfl, rfl⟩ := tup2 h
  have bT : Stp [] (Lg.O0 A) w bJ bR := (su_ C z)
  exact At.res (.inl z) z (.tmp z (.tmp z .nil)) ⟨z, (se_ bT z z)⟩
 ·refine WC.condF' z Z (sk (th (sq (rg (WL.alloc (O := bJ) 11 [Value.pointer none, sn] ty146 z z ?_)))))
  intro d aE aF ai D
  refine nl (th (sq (rg (wY (ym z) z ?_))))
  obtain ⟨cx, h, bU⟩ := bnd h
  refine WL.callJ (vals := [pt d 0, vs a0]) (σ := (List UInt8 × Int × Own × Value)) (fun x w' => (x.1, x.2.1) = cx ∧ Stp [11, 12] aE aF x.2.2.1 w' ∧ OwnSl 1002 Rep.b 5 x.2.2.1 w' x.2.2.2 x.1 ∧ Blk 11 x.2.2.1 w' d 146 [pt d 0, x.2.2.2]) (fun x => tp [vi x.2.1, Value.nilIface]) kok121 z z ?_ ?_
  ·refine Rets.enter Tryz.func121 z z ?_
   refine (show WC _ _ _ _ [(0, pt d 0), (1, vs a0)] _ from ?_)
   refine sq (rg (wY (ya z) z (wY (ya (v := Value.nilIface) z) z (nl (th (sq (rg (wY (ym z) z ?_))))))))
   obtain ⟨cy, h, bW⟩ := bnd h
   refine WL.callJ (vals := [pt d 0]) (σ := Own) (fun x w' => () = cy ∧ Stp [11] aE aF x w' ∧ Blk 11 x w' d 146 [pt d 0, sn]) (fun x => tp []) kok144 z z ?_ ?_
   ·refine Rets.enter Tryz.func144 z z ?_
    refine (show WC _ _ _ _ [(0, pt d 0)] _ from ?_)
    refine sq (rg (wY (ym z) z (wY (yn z) z (wY (yf fo146_0 z) z (wY (yl ty144 z z (D.cell 0 _ z)) z (wY (Y.eql_nil (r := true) ty144.u z z z) z (nl (th (WC.condT z ?_)))))))))
    refine rg (wY (ym z) z (wY (ym z) z (wY (Y.toUnsafe ty144.u ty196.u ty146 (by decide) D (by decide) z) z (wY (Y.noesc xne_162 z) z (wY (Y.ofUnsafe ty196.u ty144.u ty146 D (by kernel_rfl) z) z (wY (yn z) z (wY (yf fo146_0 z) z (WL.store (v := pt d 0) (cells' := [pt d 0, sn]) ty144 z z D z (le_ z) z z ?_))))))))
    intro cY aY bX
    refine nl ?_
    exact At.res (.inr z) z .nil ⟨aE, ⟨some1 h, (su_ aY z), bX⟩, z⟩
   ·rintro cz bY ⟨rfl, aZ, aG⟩
    replace h := bW
    refine (show WL _ _ _ _ _ ((7, tp []) :: _) _ from ?_)
    refine nl (th (sq (rg (wY (ym z) z (wY (ym z) z (wY (yn z) z (wY (yf fo146_1 z) z (wY (yl ty51 z z (aG.cell 1 _ z)) z (wY (ym z) z ?_)))))))))
    obtain ⟨bZ, a2, h⟩ := bnd h
    have b0 := OwnSl.nil (O := cz) (w := bY) 12 Rep.b 5
    refine WL.appendS (by decide) ty51 ty9 ty5 z z b0 a2 z ?_
    intro df dg cZ aj aH
    refine wY (yn z) z (wY (yf fo146_1 z) z ?_)
    have b1 := h
    obtain ⟨aI, aJ, aK, rfl⟩ := aH.shape
    have h := b1
    have b2 := aG.st aj z
    refine WL.store (v := (vl aI aJ aK)) (cells' := [pt d 0, (vl aI aJ aK)]) ty51 z z b2 z (le_ z) z z ?_
    intro c0 ak b3
    refine nl (th (sq (rg (wY (ym z) z (wY (Y.len_s ty9 z) z ?_)))))
    obtain ⟨cA, b4, h⟩ := lt1 h
    refine WL.yE (ya z) (congrArg vi b4.symm) z (wY (ya (v := Value.nilIface) z) z (nl (th (rt ?_))))
    have b5 := aH.st ak z z z
    obtain ⟨cC, al, b6⟩ := OwnSl.rlb 1002 rfl b5
    have b7 := b3.st al z
    exact At.res (.inl z) z (.tmp z (.tmp z .nil)) ⟨(bZ, cA, cC, (vl aI aJ aK)), ⟨some1 h, (tr_ (su_ aZ z) (tr_ (su_ aj z) (tr_ (su_ ak z) (su_ al z)))), b6, b7⟩, z⟩
  ·rintro ⟨cD, cE, cF, cG⟩ c1 ⟨rfl, F, aL, aM⟩
   replace h := bU
   try dsimp only at h F aL aM
   refine (show WL _ _ _ _ _ ((17, tp [vi cE, Value.nilIface]) :: _) _ from ?_)
   refine nl (th (sq (sq (rg (wY (ym z) z ?_)))))
   have ca := ((aD.i C z z).i ai z z).i F z z
   obtain ⟨am, cb, h⟩ := bnd h
   refine WL.call (vals := [v1]) kok117 z z (c_label_Sorted (A := fun _ => True) (Sl.all ca) cb) ?_
   rintro G aa ⟨_, rfl, cc, cH⟩
   obtain ⟨aN, cI, aO, H⟩ := adoptE cF (fun k => if ob G = some k then 13 else 1) cc
   have aP : OwnSl 13 rep_api_Pair 67 aN aa G am := RowF.adopt 13 flat_api_Pair cH aO (fun k hk => if_pos hk)
   refine wY (Y.len ty32 z aP.src.sl) z (wY (ym z) z (nl (th (WC.block ?_))))
   obtain ⟨bK, h, a3⟩ := flow1 h
   obtain ⟨bL, h⟩ := loop_some h
   refine WC.joinB 0 (σ := (List UInt8 × Own × Value)) (fun x w' => bK = .go x.1 ∧ Stp [11, 14, 1002, 1003, 1004] aN aa x.2.1 w' ∧ OwnSl 1005 Rep.b 5 x.2.1 w' x.2.2 x.1 ∧ Blk 11 x.2.1 w' d 146 [pt d 0, x.2.2]) (fun x => [(7, pt d 0)]) ?_ ?_
   ·have a4 := aL.st H z z z
    obtain ⟨cd, L, a5⟩ := OwnSl.rlb 1004 rfl a4
    have a7 := (aM.st H z).st L z
    refine WC.loop (σ := (List UInt8 × Int × Own × Value)) (fun x k w' => loopN k (label_Text_lp1 am) (x.1, x.2.1) = some bK ∧ Stp [11, 14, 1002, 1003, 1004] aN aa x.2.2.1 w' ∧ OwnSl 1004 Rep.b 5 x.2.2.1 w' x.2.2.2 x.1 ∧ Blk 11 x.2.2.1 w' d 146 [pt d 0, x.2.2.2]) (fun x => [(7, pt d 0), (19, G), (20, vi (am.length : Int)), (21, vi x.2.1)]) (cD, 0, cd, cG) bL (.cons z (.cons z (.cons z (.cons z .nil)))) ⟨h, (su_ L z), a5, a7⟩ ?_
    rintro ⟨cJ, bM, cK, cL⟩ bL c2 ⟨h, o, ab, I⟩
    obtain ⟨ce, c3, rfl, h, an⟩ := rnd1 h
    unfold label_Text_lp1 at h
    try dsimp only at h o ab I
    refine (show WC _ _ _ _ [(7, pt d 0), (19, G), (20, vi (am.length : Int)), (21, vi bM)] _ from ?_)
    refine sq (rg (wY (Y.lss_i z z) z (nl (th (sq ?_)))))
    rcases cnd h with ⟨J, h⟩ | ⟨J, h⟩
    ·refine WC.condT' z J (sk (th (sq (WC.block (sq (rg ?_))))))
     obtain ⟨m, a8, h⟩ := bnd h
     have ao := aP.st o z z z
     obtain ⟨c4, cM, cN, ap, a9, ba, K, aQ⟩ := OwnSl.at ao a8
     obtain ⟨_, _, rfl, rfl, rfl⟩ := aQ
     replace K : CellsAt _ _ _ [vs m.Key, vs m.Val] := K
     have aR := CAt.own ao ap K
     refine wY (Y.indexAddr ty32 ty67 z ap z a9 ba) z (wY (yL ty67 z z aR.at_ z) z (WL.alloc (O := cK) 14 [vs [], vs []] ty67 z z ?_))
     intro c5 cf cO e bb
     refine WL.store (v := ag [vs m.Key, vs m.Val]) (cells' := [vs m.Key, vs m.Val]) ty67 z z bb z (le_ z) z z ?_
     intro aq j ar
     refine nl (th (rg (wY (yf fo67_0 z) z (wY (yl ty9 z z (ar.cell 0 _ z)) z ?_))))
     obtain ⟨c6, bc, h⟩ := bnd h
     refine wY (Y.add_s (a := [59]) bc z z) z ?_
     obtain ⟨c7, bd, h⟩ := bnd h
     refine wY (Y.add_s (b := [61]) bd z z) z (wY (yf fo67_1 z) z (wY (yl ty9 z z (ar.cell 1 _ z)) z ?_))
     obtain ⟨aS, bf, h⟩ := bnd h
     refine wY (Y.add_s bf z z) z ?_
     obtain ⟨cg, h, bg⟩ := bnd h
     refine WL.callJ (vals := [pt d 0, vs aS]) (σ := (List UInt8 × Int × Own × Value)) (fun x w' => (x.1, x.2.1) = cg ∧ Stp [11, 1004] cf aq x.2.2.1 w' ∧ OwnSl 1003 Rep.b 5 x.2.2.1 w' x.2.2.2 x.1 ∧ Blk 11 x.2.2.1 w' d 146 [pt d 0, x.2.2.2]) (fun x => tp [vi x.2.1, Value.nilIface]) kok121 z z ?_ ?_
     ·refine Rets.enter Tryz.func121 z z ?_
      refine (show WC _ _ _ _ [(0, pt d 0), (1, vs aS)] _ from ?_)
      refine sq (rg (wY (ya z) z (wY (ya (v := Value.nilIface) z) z (nl (th (sq (rg (wY (ym z) z ?_))))))))
      obtain ⟨ch, h, bh⟩ := bnd h
      refine WL.callJ (vals := [pt d 0]) (σ := Unit) (fun x w' => () = ch ∧ aq = w') (fun x => tp []) kok144 z z ?_ ?_
      ·refine Rets.enter Tryz.func144 z z ?_
       refine (show WC _ _ _ _ [(0, pt d 0)] _ from ?_)
       refine sq (rg (wY (ym z) z (wY (yn z) z (wY (yf fo146_0 z) z ?_))))
       have au := (I.st e z).st j z
       refine wY (yl ty144 z z (au.cell 0 _ z)) z (wY (Y.eql_nil (r := false) ty144.u z z z) z (nl (th (WC.condF z (sq (rg (wY (ym z) z (wY (yn z) z (wY (yf fo146_0 z) z ?_)))))))))
       refine wY (yl ty144 z z (au.cell 0 _ z)) z (wY (ym z) z (wY (Y.neq_same ty144.u ty146 z z) z (nl (th (WC.condF z (sk ?_))))))
       exact At.res (.inr z) z .nil ⟨(), ⟨some1 h, z⟩, z⟩
      ·rintro _ _ ⟨rfl, rfl⟩
       replace h := bh
       refine (show WL _ _ _ _ _ ((7, tp []) :: _) _ from ?_)
       refine nl (th (sq (rg (wY (ym z) z (wY (ym z) z (wY (yn z) z (wY (yf fo146_1 z) z ?_)))))))
       have av := (I.st e z).st j z
       refine wY (yl ty51 z z (av.cell 1 _ z)) z (wY (ym z) z ?_)
       obtain ⟨bk, aT, h⟩ := bnd h
       have bm := (ab.st e z z z).st j z z z
       refine WL.appendS (by decide) ty51 ty9 ty5 z z bm aT z ?_
       intro c8 c9 cP M ax
       refine wY (yn z) z (wY (yf fo146_1 z) z ?_)
       have bn := h
       obtain ⟨ac, ad, ae, rfl⟩ := ax.shape
       have h := bn
       have bo := av.st M z
       refine WL.store (v := (vl ac ad ae)) (cells' := [pt d 0, (vl ac ad ae)]) ty51 z z bo z (le_ z) z z ?_
       intro cQ Q bp
       refine nl (th (sq (rg (wY (ym z) z (wY (Y.len_s ty9 z) z ?_)))))
       obtain ⟨ci, bq, h⟩ := lt1 h
       refine WL.yE (ya z) (congrArg vi bq.symm) z (wY (ya (v := Value.nilIface) z) z (nl (th (rt ?_))))
       have br := ax.st Q z z z
       obtain ⟨cj, S, bs⟩ := OwnSl.rlb 1003 rfl br
       have bt := bp.st S z
       exact At.res (.inl z) z (.tmp z (.tmp z .nil)) ⟨(bk, ci, cj, (vl ac ad ae)), ⟨some1 h, (tr_ (su_ M z) (tr_ (su_ Q z) (su_ S z))), bs, bt⟩, z⟩
     ·rintro ⟨ck, cl, da, cm⟩ cR ⟨rfl, T, ay, az⟩
      replace h := bg
      try dsimp only at h T ay az
      refine (show WL _ _ _ _ _ ((32, tp [vi cl, Value.nilIface]) :: _) _ from ?_)
      refine nl (At.inBlock (th (rg (wY (Y.add_i z z) z (wY (ym z) z (nl ?_))))))
      obtain ⟨cn, U, bu⟩ := OwnSl.rlb 1004 rfl ay
      have bw := az.st U z
      exact At.round (ck, w64 (bM + 1), cn, cm) ce (Nat.lt_succ_self _) ⟨next1 h an, (tr_ (su_ o z) (tr_ (su_ e z) (tr_ (su_ j z) (tr_ (su_ T z) (su_ U z))))), bu, bw⟩ (.cons z (.cons z (.cons z (.cons z .nil))))
    ·refine WC.condF' z J (WC.exit (At.thenX (At.loopX ?_)))
     obtain ⟨co, V, bx⟩ := OwnSl.rlb 1005 rfl ab
     have bz := I.st V z
     exact At.hitB (σ := (List UInt8 × Own × Value)) (cJ, co, cL) ⟨brk1 h an, (tr_ (su_ o z) (su_ V z)), bx, bz⟩ (.cons z .nil)
   ·rintro ⟨bO, bP, dh⟩ cq ⟨rfl, aA, af, ah⟩
    replace h := flowK_go a3
    try dsimp only at h aA af ah
    refine (show At _ _ _ [(7, pt d 0)] _ from ?_)
    refine At.inBlockHit (th (sq (rg ?_)))
    obtain ⟨cr, h, bA⟩ := bnd h
    refine WL.callJ (vals := [pt d 0]) (σ := Own) (fun x w' => () = cr ∧ Stp [1005] bP cq x w') (fun x => vs bO) kok122 z z ?_ ?_
    ·refine Rets.enter Tryz.func122 z z ?_
     refine (show WC _ _ _ _ [(0, pt d 0)] _ from ?_)
     refine sq (rg (wY (ya (v := vs []) z) z (nl (th (sq (WC.drawH [1005] [0, 1, 2, 3, 4, 5, 6, 7, 8, 9, 10, 11] bP 12 fmix z (by kernel_rfl) ?_))))))
     intro cS l
     refine WD.y 0 z (by kernel_rfl) (fun _ _ _ => ym z) z (WD.y 1 z (by kernel_rfl) (fun _ _ _ => yn z) z (WD.y 2 z (by kernel_rfl) (fun _ _ _ => yf fo146_1 z) z (WD.y 3 z (by kernel_rfl) (fun cT db aU => have bB := ah.st l z; have bC := bB.st aU z; yl ty51 z z (bC.cell 1 _ z)) z (WD.y 5 z (by kernel_rfl) (fun _ _ _ => ym z) z (WD.y 6 z (by kernel_rfl) (fun _ _ _ => yn z) z (WD.y 7 z (by kernel_rfl) (fun _ _ _ => yf fo146_1 z) z (WD.y 8 z (by kernel_rfl) (fun cU dc aW => have bD := ah.st l z; have bE := bD.st aW z; yl ty51 z z (bE.cell 1 _ z)) z (WD.y 9 z (by kernel_rfl) (fun _ _ _ => Y.lenF ty51 z af.isl) z (WD.heavy 4 z (by kernel_rfl) ?_)))))))))
     have aC := af.st l z z z
     refine WL.sdata ty174.u z aC z ?_
     intro dd cs cV t bF
     refine nl (At.dq (su_ t z) (WD.heavy 10 z (by kernel_rfl) ?_))
     have bG := aC.st t z z z
     refine WL.ustr ty174.u ty5 z z bG bF z ?_
     intro cW W
     refine nl (At.dq (su_ W z) (WD.y 11 z (by kernel_rfl) (fun _ _ _ => ya z) z (WD.done_ (by kernel_rfl) (th (rt ?_)))))
     exact At.res (.inl z) z (.tmp z .nil) ⟨cs, ⟨some1 h, (tr_ (su_ l z) (tr_ (su_ t z) (su_ W z)))⟩, z⟩
    ·rintro ct bH ⟨rfl, aX⟩
     replace h := bA
     refine (show WL _ _ _ _ _ ((34, vs bO) :: _) _ from ?_)
     refine wY (ya z) z (wY (ya z) z (nl (th (rt ?_))))
     obtain ⟨rfl, rfl⟩ := tup2 h
     have bI : Stp [11, 12, 14, 1002, 1003, 1004, 1005] (Lg.O0 A) w ct bH := (tr_ (su_ C z) (tr_ (su_ ai z) (tr_ (su_ F z) (tr_ (su_ H z) (tr_ (su_ aA z) (su_ aX z))))))
     exact At.res (.inl z) z (.tmp z (.tmp z .nil)) ⟨z, (se_ bI z z)⟩
theorem c_point_bit {a0 : Bool} {w : World} {r0 : Int} (h : point_bit a0 = some r0) : Rets Tryz.prog 88 [vB a0] w (fun v w' => v = vi r0 ∧ Ext w w') := by
 unfold point_bit at h
 refine Rets.enter Tryz.func88 z z ?_
 refine (show WC _ _ _ _ [(0, vB a0)] _ from ?_)
 refine sq (rg (wY (ya z) z (nl (th (sq (sq (rg (wY (ym z) z (nl ?_)))))))))
 refine th ?_
 rcases cnd h with ⟨d, h⟩ | ⟨d, h⟩
 ·refine WC.condT' z d (sq (rg (wY (ya z) z (nl (th (rt (At.thenR ?_)))))))
  obtain rfl := some1 h
  have e : Stp [] (Lg.O0 (fun _ => False)) w (Lg.O0 (fun _ => False)) w := (sr_ _ _ _)
  exact At.res (.inl z) z (.tmp z .nil) ⟨z, (se_ e z z)⟩
 ·refine WC.condF' z d (sk (th (sq (rg (wY (ya z) z (nl (th (rt ?_))))))))
  obtain rfl := some1 h
  have j : Stp [] (Lg.O0 (fun _ => False)) w (Lg.O0 (fun _ => False)) w := (sr_ _ _ _)
  exact At.res (.inl z) z (.tmp z .nil) ⟨z, (se_ j z z)⟩
theorem c_point_Key {A : Nat → Prop} {v0_1 : Value} {v0_13 : Value} {v0_15 : Value} {a0 : api_Point} {w : World} (hs0_1 : Sl rep_api_Pair w A v0_1 a0.Attrs) (hs0_13 : Sl Rep.u w A v0_13 a0.Hist.Pos.Counts) (hs0_15 : Sl Rep.u w A v0_15 a0.Hist.Neg.Counts) {r0 : List UInt8} {r1 : Int} (h : point_Key a0 = some (r0, r1)) : Rets Tryz.prog 48 [ag (cp a0 v0_1 v0_13 v0_15)] w (fun v w' => v = tp [vs r0, vi r1] ∧ Ext w w') := by
 unfold point_Key at h
 refine Rets.enter Tryz.func48 z z ?_
 have I : Sl rep_api_Pair w (imm (Lg.O0 A)) v0_1 a0.Attrs := (Sl.start hs0_1)
 have J : Sl Rep.u w (imm (Lg.O0 A)) v0_13 a0.Hist.Pos.Counts := (Sl.start hs0_13)
 have K : Sl Rep.u w (imm (Lg.O0 A)) v0_15 a0.Hist.Neg.Counts := (Sl.start hs0_15)
 refine (show WC _ _ _ _ [(0, ag (cp a0 v0_1 v0_13 v0_15))] _ from ?_)
 refine sq (rg ?_)
 have aq := h
 obtain ⟨F, G, H, rfl⟩ := I.shape
 have h := aq
 have ar := h
 obtain ⟨L, M, Q, rfl⟩ := J.shape
 have h := ar
 have au := h
 obtain ⟨S, T, U, rfl⟩ := K.shape
 have h := au
 refine WL.box (O := (Lg.O0 A)) 11 (cp a0 (vl F G H) (vl L M Q) (vl S T U)) z z z ?_
 intro bc aR a2 d V
 refine wY (ya (v := vs []) z) z (wY (ya z) z (nl (th (sq (sq (rg (wY (yL ty40 z z (V.cells 0 (cp a0 (vl F G H) (vl L M Q) (vl S T U)) z) z) z ?_)))))))
 have W := I.i d z z
 have av := J.i d z z
 have ax := K.i d z z
 obtain ⟨bd, ay, h⟩ := bnd h
 refine WL.call (vals := [ag (cp a0 (vl F G H) (vl L M Q) (vl S T U))]) kok17 z z (c_point_Check (A := fun _ => True) (a0 := a0) (Sl.all W) (Sl.all av) (Sl.all ax) ay) ?_
 rintro a3 az ⟨rfl, aA⟩
 obtain ⟨ao, aS, aT, j⟩ := adoptE aR (fun k => 1) aA
 refine wY (ya z) z (nl (th (sq (rg (wY (ym z) z (wY (Y.neq_i z z) z (nl (th ?_))))))))
 rcases cnd h with ⟨D, h⟩ | ⟨D, h⟩
 ·refine WC.condT' z D (sq (rg (wY (ym z) z (wY (ya (v := vs []) z) z (wY (ya z) z (nl (th (rt (At.thenR ?_)))))))))
  obtain ⟨rfl, rfl⟩ := tup2 h
  have aC : Stp [] (Lg.O0 A) w ao az := (tr_ (su_ d z) (su_ j z))
  exact At.res (.inl z) z (.tmp z (.tmp z .nil)) ⟨z, (se_ aC z z)⟩
 ·refine WC.condF' z D (sk (th (sq (rg (wY (yf fo40_0 z) z ?_)))))
  have o := V.st j z
  refine wY (yl ty9 z z (o.cell 0 _ z)) z (wY (yf fo40_1 z) z (wY (yl ty32 z z (o.cell 1 _ z)) z ?_))
  have aD := W.i j z z
  obtain ⟨⟨bf, bg⟩, aE, h⟩ := bnd h
  refine WL.call (vals := [vs a0.Name, (vl F G H)]) kok87 z z (c_label_Text (A := fun _ => True) (Sl.all aD) aE) ?_
  rintro a4 a5 ⟨rfl, aF⟩
  obtain ⟨ap, aU, aW, l⟩ := adoptE ao (fun k => 1) aF
  refine wY (ym z) z (wY (yx z z) z (wY (yx z z) z (wY (ya z) z (wY (ya z) z (nl (th (sq (WC.drawH [] [0, 1, 2, 3, 4, 5, 6, 7, 8, 9, 10, 11, 12, 13, 14, 15, 16, 17, 18, 19] ap 20 fmix z (by kernel_rfl) ?_))))))))
  intro a6 m
  refine WD.y 0 z (by kernel_rfl) (fun _ _ _ => ym z) z ?_
  obtain ⟨bh, aG, h⟩ := bnd h
  refine WD.y 1 z (by kernel_rfl) (fun _ _ _ => Y.add_s (b := [32]) aG z z) z (WD.y 2 z (by kernel_rfl) (fun _ _ _ => yf fo40_2 z) z (WD.y 3 z (by kernel_rfl) (fun a7 bi ab => have aH := o.st l z; have aI := aH.st m z; have aJ := aI.st ab z; yl ty3 z z (aJ.cell 2 _ z)) z (WD.y 4 z (by kernel_rfl) (fun _ _ _ => Y.add_i z z) z (WD.y 5 z (by kernel_rfl) (fun _ _ _ => Y.conv_ib ty3.u ty5.u z) z (WD.y 6 z (by kernel_rfl) (fun _ _ _ => yf fo40_3 z) z (WD.y 7 z (by kernel_rfl) (fun a8 bj ac => have aK := o.st l z; have aL := aK.st m z; have aM := aL.st ac z; yl ty3 z z (aM.cell 3 _ z)) z (WD.y 8 z (by kernel_rfl) (fun _ _ _ => Y.add_i z z) z (WD.y 9 z (by kernel_rfl) (fun _ _ _ => Y.conv_ib ty3.u ty5.u z) z (WD.y 10 z (by kernel_rfl) (fun _ _ _ => yf fo40_4 z) z ?_)))))))))
  refine WD.y 11 z (by kernel_rfl) (fun aX bk Z => have ad := o.st l z; have ae := ad.st m z; have af := ae.st Z z; yl ty4 z z (af.cell 4 _ z)) z (WD.heavy 12 z (by kernel_rfl) ?_)
  obtain ⟨e, ah, h⟩ := bnd h
  refine WL.call (vals := [vB a0.Mono]) kok88 z z (c_point_bit ah) ?_
  rintro aY aZ ⟨rfl, ai⟩
  obtain ⟨aN, aP, aQ, t⟩ := adoptE ap (fun k => 1) ai
  refine nl (At.dq (su_ t z) (WD.y 13 z (by kernel_rfl) (fun _ _ _ => Y.add_i z z) z (WD.y 14 z (by kernel_rfl) (fun _ _ _ => Y.conv_ib ty3.u ty5.u z) z (WD.heavy 15 z (by kernel_rfl) (WL.buildSlice (O := aN) (R := Rep.b) (vals := [(0, vb (toU8 (w64 (48 + a0.Kind)))), (1, vb (toU8 (w64 (48 + a0.Temp)))), (2, vb (toU8 (w64 (48 + e))))]) 12 [vb (toU8 (w64 (48 + a0.Kind))), vb (toU8 (w64 (48 + a0.Temp))), vb (toU8 (w64 (48 + e)))] (xs := [toU8 (w64 (48 + a0.Kind)), toU8 (w64 (48 + a0.Temp)), toU8 (w64 (48 + e))]) (by decide) ty51 ty5 (by decide) (by decide) (fe_ z) (by kernel_rfl) z ⟨[vb (toU8 (w64 (48 + a0.Kind)))], [vb (toU8 (w64 (48 + a0.Temp))), vb (toU8 (w64 (48 + e)))], z, z, ⟨[vb (toU8 (w64 (48 + a0.Temp)))], [vb (toU8 (w64 (48 + e)))], z, z, ⟨[vb (toU8 (w64 (48 + e)))], [], z, z, z⟩⟩⟩ z ?_)))))
  intro a9 aO aj C ak
  refine nl (At.dq (su_ C z) (WD.y 16 z (by kernel_rfl) (fun a1 ba aa => have al := ak.st aa z z z; Y.b2s ty51 ty5 ty9 z al.src.sl) z ?_))
  obtain ⟨bb, am, h⟩ := bnd h
  refine WD.y 17 z (by kernel_rfl) (fun _ _ _ => Y.add_s am z z) z (WD.y 18 z (by kernel_rfl) (fun _ _ _ => ya z) z (WD.y 19 z (by kernel_rfl) (fun _ _ _ => ya z) z (WD.done_ (by kernel_rfl) (th (rt ?_)))))
  obtain ⟨rfl, rfl⟩ := tup2 h
  have an : Stp [] (Lg.O0 A) w aO aj := (tr_ (su_ d z) (tr_ (su_ j z) (tr_ (su_ l z) (tr_ (su_ m z) (tr_ (su_ t z) (su_ C z))))))
  exact At.res (.inl z) z (.tmp z (.tmp z .nil)) ⟨z, (se_ an z z)⟩
end Go.Lg
