/- The walks of TocumNext and of what it calls, printed by gen.py. -/
import Derived.Test.YtoiklipabcecfaaNxLgPart0
import Derived.Test.YtoiklipabcecfaaNxLgPart1
import Derived.Test.YtoiklipabcecfaaProg
set_option linter.unusedVariables false
namespace Go.Lg
open Go Go.Proofs
set_option maxRecDepth 100000
set_option maxHeartbeats 4000000
theorem fmix : Try.prog.follows .mixedOrders = true := by kernel_rfl
theorem ty3 : TyOk Try.prog 3 (.int .i64) 1 8 (.int .i64 0) := tyOk Try.underlying3 (by kernel_rfl)
theorem ty4 : TyOk Try.prog 4 .bool 1 1 (.bool false) := tyOk Try.underlying4 (by kernel_rfl)
theorem ty5 : TyOk Try.prog 5 (.int .u8) 1 1 (.int .u8 0) := tyOk Try.underlying5 (by kernel_rfl)
theorem ty9 : TyOk Try.prog 9 .string 1 16 (.string ⟨#[]⟩) := tyOk Try.underlying9 (by kernel_rfl)
theorem ty25 : TyOk Try.prog 25 (.int .u64) 1 8 (.int .u64 0) := tyOk Try.underlying25 (by kernel_rfl)
theorem ty26 : TyOk Try.prog 26 (.slice 25) 1 24 (.slice none 0 0) := tyOk Try.underlying26 (by kernel_rfl)
theorem ty28 : TyOk Try.prog 28 (.struct #[(Field.mk "Offset" 3 0 false "" "" 0), (Field.mk "Counts" 26 1 false "" "" 8)]) 2 32 (.agg #[(.int .i64 0), (.slice none 0 0)]) := tyOk Try.underlying28 (by kernel_rfl)
theorem ty30 : TyOk Try.prog 30 (.struct #[(Field.mk "Scale" 3 0 false "" "" 0), (Field.mk "Zero" 25 1 false "" "" 8), (Field.mk "Pos" 28 2 false "" "" 16), (Field.mk "Neg" 28 4 false "" "" 48)]) 6 80 (.agg #[(.int .i64 0), (.int .u64 0), (.int .i64 0), (.slice none 0 0), (.int .i64 0), (.slice none 0 0)]) := tyOk Try.underlying30 (by kernel_rfl)
theorem ty32 : TyOk Try.prog 32 (.struct #[(Field.mk "Some" 4 0 false "" "" 0), (Field.mk "Start" 3 1 false "" "" 8), (Field.mk "Time" 3 2 false "" "" 16), (Field.mk "Int" 3 3 false "" "" 24), (Field.mk "Re" 25 4 false "" "" 32), (Field.mk "Im" 25 5 false "" "" 40), (Field.mk "Hist" 30 6 false "" "" 48)]) 12 128 (.agg #[(.bool false), (.int .i64 0), (.int .i64 0), (.int .i64 0), (.int .u64 0), (.int .u64 0), (.int .i64 0), (.int .u64 0), (.int .i64 0), (.slice none 0 0), (.int .i64 0), (.slice none 0 0)]) := tyOk Try.underlying32 (by kernel_rfl)
theorem ty35 : TyOk Try.prog 35 (.slice 107) 1 24 (.slice none 0 0) := tyOk Try.underlying35 (by kernel_rfl)
theorem ty37 : TyOk Try.prog 37 (.struct #[(Field.mk "Name" 9 0 false "" "" 0), (Field.mk "Attrs" 35 1 false "" "" 16), (Field.mk "Kind" 3 2 false "" "" 40), (Field.mk "Temp" 3 3 false "" "" 48), (Field.mk "Mono" 4 4 false "" "" 56), (Field.mk "Start" 3 5 false "" "" 64), (Field.mk "Time" 3 6 false "" "" 72), (Field.mk "Int" 3 7 false "" "" 80), (Field.mk "Re" 25 8 false "" "" 88), (Field.mk "Im" 25 9 false "" "" 96), (Field.mk "Hist" 30 10 false "" "" 104), (Field.mk "Flags" 3 16 false "" "" 184)]) 17 192 (.agg #[(.string ⟨#[]⟩), (.slice none 0 0), (.int .i64 0), (.int .i64 0), (.bool false), (.int .i64 0), (.int .i64 0), (.int .i64 0), (.int .u64 0), (.int .u64 0), (.int .i64 0), (.int .u64 0), (.int .i64 0), (.slice none 0 0), (.int .i64 0), (.slice none 0 0), (.int .i64 0)]) := tyOk Try.underlying37 (by kernel_rfl)
theorem ty38 : TyOk Try.prog 38 (.int .i64) 1 8 (.int .i64 0) := tyOk Try.underlying38 (by kernel_rfl)
theorem ty48 : TyOk Try.prog 48 (.struct #[(Field.mk "S" 32 0 false "" "" 0), (Field.mk "P" 37 12 false "" "" 128), (Field.mk "E" 38 29 false "" "" 320)]) 30 328 (.agg #[(.bool false), (.int .i64 0), (.int .i64 0), (.int .i64 0), (.int .u64 0), (.int .u64 0), (.int .i64 0), (.int .u64 0), (.int .i64 0), (.slice none 0 0), (.int .i64 0), (.slice none 0 0), (.string ⟨#[]⟩), (.slice none 0 0), (.int .i64 0), (.int .i64 0), (.bool false), (.int .i64 0), (.int .i64 0), (.int .i64 0), (.int .u64 0), (.int .u64 0), (.int .i64 0), (.int .u64 0), (.int .i64 0), (.slice none 0 0), (.int .i64 0), (.slice none 0 0), (.int .i64 0), (.int .i64 0)]) := tyOk Try.underlying48 (by kernel_rfl)
theorem ty83 : TyOk Try.prog 83 (.struct #[(Field.mk "X" 30 0 false "" "" 0), (Field.mk "Y" 30 6 false "" "" 80), (Field.mk "E" 38 12 false "" "" 160)]) 13 168 (.agg #[(.int .i64 0), (.int .u64 0), (.int .i64 0), (.slice none 0 0), (.int .i64 0), (.slice none 0 0), (.int .i64 0), (.int .u64 0), (.int .i64 0), (.slice none 0 0), (.int .i64 0), (.slice none 0 0), (.int .i64 0)]) := tyOk Try.underlying83 (by kernel_rfl)
theorem ty86 : TyOk Try.prog 86 (.array 2 28) 4 64 (.agg #[(.int .i64 0), (.slice none 0 0), (.int .i64 0), (.slice none 0 0)]) := tyOk Try.underlying86 (by kernel_rfl)
theorem ty92 : TyOk Try.prog 92 (.int .u64) 1 8 (.int .u64 0) := tyOk Try.underlying92 (by kernel_rfl)
theorem ty93 : TyOk Try.prog 93 (.pointer 28) 1 8 (.pointer none) := tyOk Try.underlying93 (by kernel_rfl)
theorem ty94 : TyOk Try.prog 94 (.struct #[(Field.mk "to" 93 0 false "" "limnograph/fold" 0), (Field.mk "a" 28 1 false "" "limnograph/fold" 8), (Field.mk "b" 28 3 false "" "limnograph/fold" 40)]) 5 72 (.agg #[(.pointer none), (.int .i64 0), (.slice none 0 0), (.int .i64 0), (.slice none 0 0)]) := tyOk Try.underlying94 (by kernel_rfl)
theorem ty95 : TyOk Try.prog 95 (.slice 94) 1 24 (.slice none 0 0) := tyOk Try.underlying95 (by kernel_rfl)
theorem ty107 : TyOk Try.prog 107 (.struct #[(Field.mk "Key" 9 0 false "" "" 0), (Field.mk "Val" 9 1 false "" "" 16)]) 2 32 (.agg #[(.string ⟨#[]⟩), (.string ⟨#[]⟩)]) := tyOk Try.underlying107 (by kernel_rfl)
theorem ty118 : TyOk Try.prog 118 (.array 2 30) 12 160 (.agg #[(.int .i64 0), (.int .u64 0), (.int .i64 0), (.slice none 0 0), (.int .i64 0), (.slice none 0 0), (.int .i64 0), (.int .u64 0), (.int .i64 0), (.slice none 0 0), (.int .i64 0), (.slice none 0 0)]) := tyOk Try.underlying118 (by kernel_rfl)
theorem ty124 : TyOk Try.prog 124 (.slice 5) 1 24 (.slice none 0 0) := tyOk Try.underlying124 (by kernel_rfl)
theorem fo28_0 : FieldOk Try.prog 28 0 0 := fieldOk Try.underlying28 rfl rfl (by kernel_rfl)
theorem fo28_1 : FieldOk Try.prog 28 1 1 := fieldOk Try.underlying28 rfl rfl (by kernel_rfl)
theorem fo30_0 : FieldOk Try.prog 30 0 0 := fieldOk Try.underlying30 rfl rfl (by kernel_rfl)
theorem fo30_1 : FieldOk Try.prog 30 1 1 := fieldOk Try.underlying30 rfl rfl (by kernel_rfl)
theorem fo30_2 : FieldOk Try.prog 30 2 2 := fieldOk Try.underlying30 rfl rfl (by kernel_rfl)
theorem fo30_3 : FieldOk Try.prog 30 3 4 := fieldOk Try.underlying30 rfl rfl (by kernel_rfl)
theorem fo32_0 : FieldOk Try.prog 32 0 0 := fieldOk Try.underlying32 rfl rfl (by kernel_rfl)
theorem fo32_1 : FieldOk Try.prog 32 1 1 := fieldOk Try.underlying32 rfl rfl (by kernel_rfl)
theorem fo32_2 : FieldOk Try.prog 32 2 2 := fieldOk Try.underlying32 rfl rfl (by kernel_rfl)
theorem fo32_3 : FieldOk Try.prog 32 3 3 := fieldOk Try.underlying32 rfl rfl (by kernel_rfl)
theorem fo32_4 : FieldOk Try.prog 32 4 4 := fieldOk Try.underlying32 rfl rfl (by kernel_rfl)
theorem fo32_5 : FieldOk Try.prog 32 5 5 := fieldOk Try.underlying32 rfl rfl (by kernel_rfl)
theorem fo32_6 : FieldOk Try.prog 32 6 6 := fieldOk Try.underlying32 rfl rfl (by kernel_rfl)
theorem fo37_0 : FieldOk Try.prog 37 0 0 := fieldOk Try.underlying37 rfl rfl (by kernel_rfl)
theorem fo37_1 : FieldOk Try.prog 37 1 1 := fieldOk Try.underlying37 rfl rfl (by kernel_rfl)
theorem fo37_2 : FieldOk Try.prog 37 2 2 := fieldOk Try.underlying37 rfl rfl (by kernel_rfl)
theorem fo37_3 : FieldOk Try.prog 37 3 3 := fieldOk Try.underlying37 rfl rfl (by kernel_rfl)
theorem fo37_4 : FieldOk Try.prog 37 4 4 := fieldOk Try.underlying37 rfl rfl (by kernel_rfl)
theorem fo37_5 : FieldOk Try.prog 37 5 5 := fieldOk Try.underlying37 rfl rfl (by kernel_rfl)
theorem fo37_6 : FieldOk Try.prog 37 6 6 := fieldOk Try.underlying37 rfl rfl (by kernel_rfl)
theorem fo37_7 : FieldOk Try.prog 37 7 7 := fieldOk Try.underlying37 rfl rfl (by kernel_rfl)
theorem fo37_8 : FieldOk Try.prog 37 8 8 := fieldOk Try.underlying37 rfl rfl (by kernel_rfl)
theorem fo37_9 : FieldOk Try.prog 37 9 9 := fieldOk Try.underlying37 rfl rfl (by kernel_rfl)
theorem fo37_10 : FieldOk Try.prog 37 10 10 := fieldOk Try.underlying37 rfl rfl (by kernel_rfl)
theorem fo37_11 : FieldOk Try.prog 37 11 16 := fieldOk Try.underlying37 rfl rfl (by kernel_rfl)
theorem fo48_0 : FieldOk Try.prog 48 0 0 := fieldOk Try.underlying48 rfl rfl (by kernel_rfl)
theorem fo48_1 : FieldOk Try.prog 48 1 12 := fieldOk Try.underlying48 rfl rfl (by kernel_rfl)
theorem fo48_2 : FieldOk Try.prog 48 2 29 := fieldOk Try.underlying48 rfl rfl (by kernel_rfl)
theorem fo83_0 : FieldOk Try.prog 83 0 0 := fieldOk Try.underlying83 rfl rfl (by kernel_rfl)
theorem fo83_1 : FieldOk Try.prog 83 1 6 := fieldOk Try.underlying83 rfl rfl (by kernel_rfl)
theorem fo83_2 : FieldOk Try.prog 83 2 12 := fieldOk Try.underlying83 rfl rfl (by kernel_rfl)
theorem fo94_0 : FieldOk Try.prog 94 0 0 := fieldOk Try.underlying94 rfl rfl (by kernel_rfl)
theorem fo94_1 : FieldOk Try.prog 94 1 1 := fieldOk Try.underlying94 rfl rfl (by kernel_rfl)
theorem fo94_2 : FieldOk Try.prog 94 2 3 := fieldOk Try.underlying94 rfl rfl (by kernel_rfl)
theorem fo107_0 : FieldOk Try.prog 107 0 0 := fieldOk Try.underlying107 rfl rfl (by kernel_rfl)
theorem fo107_1 : FieldOk Try.prog 107 1 1 := fieldOk Try.underlying107 rfl rfl (by kernel_rfl)
theorem agok107 : AgOk Try.prog 107 #[(Field.mk "Key" 9 0 false "" "" 0), (Field.mk "Val" 9 1 false "" "" 16)] := ⟨Try.underlying107, by kernel_rfl, by kernel_rfl⟩
theorem x64_58 : X64 Try.prog 58 := x64 Try.func58 (by kernel_rfl) rfl (by kernel_rfl) (by kernel_rfl)
theorem xfrom_95 : XFrom Try.prog 95 := xfrom Try.func95 (by kernel_rfl) rfl (by kernel_rfl) (by kernel_rfl)
theorem xbits_115 : XBits Try.prog 115 := xbits Try.func115 (by kernel_rfl) rfl (by kernel_rfl) (by kernel_rfl)
theorem kok14 : CallOk Try.prog 14 := callOk Try.func14 (by kernel_rfl) rfl
theorem kok15 : CallOk Try.prog 15 := callOk Try.func15 (by kernel_rfl) rfl
theorem kok16 : CallOk Try.prog 16 := callOk Try.func16 (by kernel_rfl) rfl
theorem kok17 : CallOk Try.prog 17 := callOk Try.func17 (by kernel_rfl) rfl
theorem kok18 : CallOk Try.prog 18 := callOk Try.func18 (by kernel_rfl) rfl
theorem kok19 : CallOk Try.prog 19 := callOk Try.func19 (by kernel_rfl) rfl
theorem kok20 : CallOk Try.prog 20 := callOk Try.func20 (by kernel_rfl) rfl
theorem kok21 : CallOk Try.prog 21 := callOk Try.func21 (by kernel_rfl) rfl
theorem kok22 : CallOk Try.prog 22 := callOk Try.func22 (by kernel_rfl) rfl
theorem kok23 : CallOk Try.prog 23 := callOk Try.func23 (by kernel_rfl) rfl
theorem kok24 : CallOk Try.prog 24 := callOk Try.func24 (by kernel_rfl) rfl
theorem kok25 : CallOk Try.prog 25 := callOk Try.func25 (by kernel_rfl) rfl
theorem kok26 : CallOk Try.prog 26 := callOk Try.func26 (by kernel_rfl) rfl
theorem kok27 : CallOk Try.prog 27 := callOk Try.func27 (by kernel_rfl) rfl
theorem kok28 : CallOk Try.prog 28 := callOk Try.func28 (by kernel_rfl) rfl
theorem kok31 : CallOk Try.prog 31 := callOk Try.func31 (by kernel_rfl) rfl
theorem kok32 : CallOk Try.prog 32 := callOk Try.func32 (by kernel_rfl) rfl
theorem kok35 : CallOk Try.prog 35 := callOk Try.func35 (by kernel_rfl) rfl
theorem kok36 : CallOk Try.prog 36 := callOk Try.func36 (by kernel_rfl) rfl
theorem kok37 : CallOk Try.prog 37 := callOk Try.func37 (by kernel_rfl) rfl
theorem kok38 : CallOk Try.prog 38 := callOk Try.func38 (by kernel_rfl) rfl
theorem kok39 : CallOk Try.prog 39 := callOk Try.func39 (by kernel_rfl) rfl
theorem kok40 : CallOk Try.prog 40 := callOk Try.func40 (by kernel_rfl) rfl
theorem kok41 : CallOk Try.prog 41 := callOk Try.func41 (by kernel_rfl) rfl
theorem kok42 : CallOk Try.prog 42 := callOk Try.func42 (by kernel_rfl) rfl
theorem kok43 : CallOk Try.prog 43 := callOk Try.func43 (by kernel_rfl) rfl
theorem kok44 : CallOk Try.prog 44 := callOk Try.func44 (by kernel_rfl) rfl
theorem kok45 : CallOk Try.prog 45 := callOk Try.func45 (by kernel_rfl) rfl
theorem kok46 : CallOk Try.prog 46 := callOk Try.func46 (by kernel_rfl) rfl
theorem kok47 : CallOk Try.prog 47 := callOk Try.func47 (by kernel_rfl) rfl
theorem kok48 : CallOk Try.prog 48 := callOk Try.func48 (by kernel_rfl) rfl
theorem kok49 : CallOk Try.prog 49 := callOk Try.func49 (by kernel_rfl) rfl
theorem kok50 : CallOk Try.prog 50 := callOk Try.func50 (by kernel_rfl) rfl
theorem kok51 : CallOk Try.prog 51 := callOk Try.func51 (by kernel_rfl) rfl
theorem kok52 : CallOk Try.prog 52 := callOk Try.func52 (by kernel_rfl) rfl
theorem kok53 : CallOk Try.prog 53 := callOk Try.func53 (by kernel_rfl) rfl
theorem kok54 : CallOk Try.prog 54 := callOk Try.func54 (by kernel_rfl) rfl
theorem kok55 : CallOk Try.prog 55 := callOk Try.func55 (by kernel_rfl) rfl
theorem kok56 : CallOk Try.prog 56 := callOk Try.func56 (by kernel_rfl) rfl
theorem kok57 : CallOk Try.prog 57 := callOk Try.func57 (by kernel_rfl) rfl
theorem kok59 : CallOk Try.prog 59 := callOk Try.func59 (by kernel_rfl) rfl
theorem kok60 : CallOk Try.prog 60 := callOk Try.func60 (by kernel_rfl) rfl
theorem kok61 : CallOk Try.prog 61 := callOk Try.func61 (by kernel_rfl) rfl
theorem kok62 : CallOk Try.prog 62 := callOk Try.func62 (by kernel_rfl) rfl
theorem kok64 : CallOk Try.prog 64 := callOk Try.func64 (by kernel_rfl) rfl
theorem kok67 : CallOk Try.prog 67 := callOk Try.func67 (by kernel_rfl) rfl
theorem kok68 : CallOk Try.prog 68 := callOk Try.func68 (by kernel_rfl) rfl
theorem kok69 : CallOk Try.prog 69 := callOk Try.func69 (by kernel_rfl) rfl
theorem kok70 : CallOk Try.prog 70 := callOk Try.func70 (by kernel_rfl) rfl
theorem kok71 : CallOk Try.prog 71 := callOk Try.func71 (by kernel_rfl) rfl
theorem kok72 : CallOk Try.prog 72 := callOk Try.func72 (by kernel_rfl) rfl
theorem kok73 : CallOk Try.prog 73 := callOk Try.func73 (by kernel_rfl) rfl
theorem kok74 : CallOk Try.prog 74 := callOk Try.func74 (by kernel_rfl) rfl
theorem kok75 : CallOk Try.prog 75 := callOk Try.func75 (by kernel_rfl) rfl
theorem kok76 : CallOk Try.prog 76 := callOk Try.func76 (by kernel_rfl) rfl
theorem kok77 : CallOk Try.prog 77 := callOk Try.func77 (by kernel_rfl) rfl
theorem kok78 : CallOk Try.prog 78 := callOk Try.func78 (by kernel_rfl) rfl
theorem kok79 : CallOk Try.prog 79 := callOk Try.func79 (by kernel_rfl) rfl
theorem kok80 : CallOk Try.prog 80 := callOk Try.func80 (by kernel_rfl) rfl
theorem kok81 : CallOk Try.prog 81 := callOk Try.func81 (by kernel_rfl) rfl
theorem kok82 : CallOk Try.prog 82 := callOk Try.func82 (by kernel_rfl) rfl
theorem kok83 : CallOk Try.prog 83 := callOk Try.func83 (by kernel_rfl) rfl
theorem kok84 : CallOk Try.prog 84 := callOk Try.func84 (by kernel_rfl) rfl
theorem kok85 : CallOk Try.prog 85 := callOk Try.func85 (by kernel_rfl) rfl
theorem kok86 : CallOk Try.prog 86 := callOk Try.func86 (by kernel_rfl) rfl
theorem kok87 : CallOk Try.prog 87 := callOk Try.func87 (by kernel_rfl) rfl
theorem kok88 : CallOk Try.prog 88 := callOk Try.func88 (by kernel_rfl) rfl
theorem kok93 : CallOk Try.prog 93 := callOk Try.func93 (by kernel_rfl) rfl
theorem kok94 : CallOk Try.prog 94 := callOk Try.func94 (by kernel_rfl) rfl
theorem kok96 : CallOk Try.prog 96 := callOk Try.func96 (by kernel_rfl) rfl
theorem kok97 : CallOk Try.prog 97 := callOk Try.func97 (by kernel_rfl) rfl
theorem kok98 : CallOk Try.prog 98 := callOk Try.func98 (by kernel_rfl) rfl
theorem kok99 : CallOk Try.prog 99 := callOk Try.func99 (by kernel_rfl) rfl
theorem kok100 : CallOk Try.prog 100 := callOk Try.func100 (by kernel_rfl) rfl
theorem kok101 : CallOk Try.prog 101 := callOk Try.func101 (by kernel_rfl) rfl
theorem kok102 : CallOk Try.prog 102 := callOk Try.func102 (by kernel_rfl) rfl
theorem kok103 : CallOk Try.prog 103 := callOk Try.func103 (by kernel_rfl) rfl
theorem kok104 : CallOk Try.prog 104 := callOk Try.func104 (by kernel_rfl) rfl
theorem kok105 : CallOk Try.prog 105 := callOk Try.func105 (by kernel_rfl) rfl
theorem kok106 : CallOk Try.prog 106 := callOk Try.func106 (by kernel_rfl) rfl
theorem kok107 : CallOk Try.prog 107 := callOk Try.func107 (by kernel_rfl) rfl
theorem kok108 : CallOk Try.prog 108 := callOk Try.func108 (by kernel_rfl) rfl
theorem kok109 : CallOk Try.prog 109 := callOk Try.func109 (by kernel_rfl) rfl
theorem kok110 : CallOk Try.prog 110 := callOk Try.func110 (by kernel_rfl) rfl
theorem kok112 : CallOk Try.prog 112 := callOk Try.func112 (by kernel_rfl) rfl
theorem kok113 : CallOk Try.prog 113 := callOk Try.func113 (by kernel_rfl) rfl
theorem kok114 : CallOk Try.prog 114 := callOk Try.func114 (by kernel_rfl) rfl
theorem kok117 : CallOk Try.prog 117 := callOk Try.func117 (by kernel_rfl) rfl
theorem c_hist_sides {A : Nat → Prop} {v0_3 : Value} {v0_5 : Value} {a0 : api_Hist} {w : World} (hs0_3 : Sl Rep.u w A v0_3 a0.Pos.Counts) (hs0_5 : Sl Rep.u w A v0_5 a0.Neg.Counts) {r0 : List api_Side} (h : hist_sides a0 = some r0) : Rets Try.prog 57 [ag [vi a0.Scale, vu a0.Zero, vi a0.Pos.Offset, v0_3, vi a0.Neg.Offset, v0_5]] w (fun v w' => ∃ (F : List Value), v = Value.agg (List.toArray F) ∧ Ext w w' ∧ Rows' rep_api_Side w' (fun k => A k ∨ w.heap.size ≤ k) F r0 ∧ r0.length = 2) := by
 unfold hist_sides at h
 refine Rets.enter Try.func57 z z ?_
 have r : Sl Rep.u w (imm (Lg.O0 A)) v0_3 a0.Pos.Counts := (Sl.start hs0_3)
 have t : Sl Rep.u w (imm (Lg.O0 A)) v0_5 a0.Neg.Counts := (Sl.start hs0_5)
 refine (show WC _ _ _ _ [(0, ag [vi a0.Scale, vu a0.Zero, vi a0.Pos.Offset, v0_3, vi a0.Neg.Offset, v0_5])] _ from ?_)
 refine sq (rg ?_)
 have H := h
 obtain ⟨l, m, n, rfl⟩ := r.shape
 have h := H
 have I := h
 obtain ⟨d, e, j, rfl⟩ := t.shape
 have h := I
 refine WL.box (O := (Lg.O0 A)) 11 [vi a0.Scale, vu a0.Zero, vi a0.Pos.Offset, (Value.slice l m n), vi a0.Neg.Offset, (Value.slice d e j)] z z z ?_
 intro ad aa ab p J
 refine WL.alloc (O := aa) 12 [vi 0, Value.slice none 0 0, vi 0, Value.slice none 0 0] ty86 z z ?_
 intro ae G ac o K
 refine nl (th (sq (rg (wY (yf fo30_2 z) z ?_))))
 have C := J.st o z
 refine wY (yL ty28 z z (C.cells 2 [vi a0.Pos.Offset, (Value.slice l m n)] z) z) z (wY (yf fo30_3 z) z (wY (yL ty28 z z (C.cells 4 [vi a0.Neg.Offset, (Value.slice d e j)] z) z) z (wY (yb (vals := [(0, ag [vi a0.Pos.Offset, (Value.slice l m n)]), (1, ag [vi a0.Neg.Offset, (Value.slice d e j)])]) (cells := [vi a0.Pos.Offset, (Value.slice l m n), vi a0.Neg.Offset, (Value.slice d e j)]) (fe_ z) (by kernel_rfl)) z (WL.store (v := ag [vi a0.Pos.Offset, (Value.slice l m n), vi a0.Neg.Offset, (Value.slice d e j)]) (cells' := [vi a0.Pos.Offset, (Value.slice l m n), vi a0.Neg.Offset, (Value.slice d e j)]) ty86 z z K z (le_ z) z z ?_))))
 intro L q M
 refine nl (th (rt ?_))
 obtain rfl := some1 h
 have D : Stp [12] (Lg.O0 A) w G L := (tr_ (su_ p z) (tr_ (su_ o z) (su_ q z)))
 have Q := r.i p z z
 have T := Q.i o z z
 have U := T.i q z z
 have V := t.i p z z
 have W := V.i o z z
 have Z := W.i q z z
 exact At.res (.inl z) z (.cell z (M.runAg 0 [vi a0.Pos.Offset, (Value.slice l m n), vi a0.Neg.Offset, (Value.slice d e j)] ty86 z z z) .nil) ⟨[vi a0.Pos.Offset, (Value.slice l m n), vi a0.Neg.Offset, (Value.slice d e j)], z, (se_ D z z), (Rows'.outI (O' := G) (R := rep_api_Side) ⟨[vi a0.Pos.Offset, (Value.slice l m n)], [vi a0.Neg.Offset, (Value.slice d e j)], z, ⟨[vi a0.Pos.Offset], [(Value.slice l m n)], z, z, ⟨_, z, U⟩⟩, ⟨[vi a0.Neg.Offset, (Value.slice d e j)], [], z, ⟨[vi a0.Neg.Offset], [(Value.slice d e j)], z, z, ⟨_, z, Z⟩⟩, z⟩⟩ D low0 O0_A), z⟩
theorem c_hist_Total {A : Nat → Prop} {v0_3 : Value} {v0_5 : Value} {a0 : api_Hist} {w : World} (hs0_3 : Sl Rep.u w A v0_3 a0.Pos.Counts) (hs0_5 : Sl Rep.u w A v0_5 a0.Neg.Counts) {r0 : UInt64} {r1 : Bool} (h : hist_Total a0 = some (r0, r1)) : Rets Try.prog 27 [ag [vi a0.Scale, vu a0.Zero, vi a0.Pos.Offset, v0_3, vi a0.Neg.Offset, v0_5]] w (fun v w' => v = tp [vu r0, vB r1] ∧ Ext w w') := by
 unfold hist_Total at h
 refine Rets.enter Try.func27 z z ?_
 have ak : Sl Rep.u w (imm (Lg.O0 A)) v0_3 a0.Pos.Counts := (Sl.start hs0_3)
 have al : Sl Rep.u w (imm (Lg.O0 A)) v0_5 a0.Neg.Counts := (Sl.start hs0_5)
 refine (show WC _ _ _ _ [(0, ag [vi a0.Scale, vu a0.Zero, vi a0.Pos.Offset, v0_3, vi a0.Neg.Offset, v0_5])] _ from ?_)
 refine sq (rg ?_)
 have aZ := h
 obtain ⟨am, an, ao, rfl⟩ := ak.shape
 have h := aZ
 have a1 := h
 obtain ⟨ap, aq, ar, rfl⟩ := al.shape
 have h := a1
 refine WL.box (O := (Lg.O0 A)) 11 [vi a0.Scale, vu a0.Zero, vi a0.Pos.Offset, (Value.slice am an ao), vi a0.Neg.Offset, (Value.slice ap aq ar)] z z z ?_
 intro bG au bz j av
 refine wY (ya (v := vu 0) z) z (wY (ya z) z (nl (th (sq (rg (wY (yf fo30_1 z) z (wY (yl ty25 z z (av.cell 1 _ z)) z (wY (ya z) z (wY (ya (v := vu 0) z) z ?_)))))))))
 refine nl (th (sq (sq (rg (wY (yL ty30 z z (av.cells 0 [vi a0.Scale, vu a0.Zero, vi a0.Pos.Offset, (Value.slice am an ao), vi a0.Neg.Offset, (Value.slice ap aq ar)] z) z) z ?_)))))
 have a2 := ak.i j z z
 have a3 := al.i j z z
 obtain ⟨bk, a4, h⟩ := bnd h
 refine WL.call (vals := [ag [vi a0.Scale, vu a0.Zero, vi a0.Pos.Offset, (Value.slice am an ao), vi a0.Neg.Offset, (Value.slice ap aq ar)]]) kok57 z z (c_hist_sides (A := imm au) (a0 := a0) a2 a3 a4) ?_
 rintro bA J ⟨d, rfl, a5, bl, bm⟩
 obtain ⟨Q, aw, ax, T⟩ := adoptE au (fun k => 1) a5
 have a6 := Rows'.adoptI (O := au) bl (fun _ hk => hk) (fun _ _ => Nat.le_refl _) aw ax
 refine wY (ym z) z (nl (th ?_))
 obtain ⟨bn, h, a7⟩ := bnd h
 refine WC.join (σ := (UInt64 × UInt64 × Own)) (fun x w' => (x.1, x.2.1) = bn ∧ Stp [12] Q J x.2.2 w') (fun x => [(4, vu x.1), (5, vu x.2.1)]) ?_ ?_
 ·refine WC.block ?_
  obtain ⟨aS, h, a8⟩ := flow1 h
  obtain ⟨aT, h⟩ := loop_some h
  refine WC.joinB 0 (σ := (UInt64 × UInt64 × Own)) (fun x w' => aS = .go (x.1, x.2.1) ∧ Stp [12] Q J x.2.2 w') (fun x => [(4, vu x.1), (5, vu x.2.1)]) ?_ ?_
  ·refine WC.loop (σ := (UInt64 × UInt64 × Int × Own)) (fun x k w' => loopN k (hist_Total_lp1 bk) (x.1, x.2.1, x.2.2.1) = some aS ∧ Stp [12] Q J x.2.2.2 w') (fun x => [(4, vu x.1), (5, vu x.2.1), (14, Value.agg (List.toArray d)), (15, vi x.2.2.1)]) (a0.Zero, 0, 0, Q) aT (.cons z (.cons z (.cons z (.cons z .nil)))) ⟨h, (sr_ _ _ _)⟩ ?_
   rintro ⟨o, m, e, ay⟩ aT a9 ⟨h, l⟩
   obtain ⟨bo, bH, rfl, h, az⟩ := rnd1 h
   unfold hist_Total_lp1 at h
   try dsimp only at h l
   refine (show WC _ _ _ _ [(4, vu o), (5, vu m), (14, Value.agg (List.toArray d)), (15, vi e)] _ from ?_)
   refine sq (rg (wY (Y.lss_i z z) z (nl (th (sq ?_)))))
   rcases cnd h with ⟨K, h⟩ | ⟨K, h⟩
   ·refine WC.condT' z K (sk (th (sq (WC.block (sq (rg ?_))))))
    have ba := Rows'.i a6 l z z
    obtain ⟨n, aA, h⟩ := bnd h
    obtain ⟨bB, p, aJ⟩ := arrAt (R := rep_api_Side) (w := a9) (A := imm ay) (cells := d) ba aA
    obtain ⟨_, _, rfl, rfl, ⟨bp, rfl, bb⟩⟩ := aJ
    replace p : _ = [vi n.Offset, bp] := p
    refine wY (Y.indexArrAg ty86 ty28 z z p aA bm) z (WL.alloc (O := ay) 12 [vi 0, Value.slice none 0 0] ty28 z z ?_)
    intro bI bq bC U bc
    have aC := bb.i U z z
    have bd := h
    obtain ⟨V, W, Z, rfl⟩ := aC.shape
    have h := bd
    refine WL.store (v := ag [vi n.Offset, (Value.slice V W Z)]) (cells' := [vi n.Offset, (Value.slice V W Z)]) ty28 z z bc z (le_ z) z z ?_
    intro L aa bf
    refine nl (th (sq (rg (wY (yf fo28_1 z) z (wY (yl ty26 z z (bf.cell 1 _ z)) z ?_)))))
    have aD := aC.i aa z z
    refine wY (Y.len ty26 z aD) z (wY (ym z) z (nl (th ?_)))
    obtain ⟨br, h, bg⟩ := bnd h
    refine WC.join (σ := (UInt64 × UInt64)) (fun x w' => (x.1, x.2) = br ∧ L = w') (fun x => [(4, vu x.1), (5, vu x.2), (14, Value.agg (List.toArray d)), (15, vi e)]) ?_ ?_
    ·refine WC.block ?_
     obtain ⟨aU, h, bh⟩ := flow1 h
     obtain ⟨aW, h⟩ := loop_some h
     refine WC.joinB 2 (σ := (UInt64 × UInt64)) (fun x w' => aU = .go (x.1, x.2) ∧ L = w') (fun x => [(4, vu x.1), (5, vu x.2), (14, Value.agg (List.toArray d)), (15, vi e)]) ?_ ?_
     ·refine WC.loop (σ := (UInt64 × UInt64 × Int)) (fun x k w' => loopN k (hist_Total_lp2 n) (x.1, x.2.1, x.2.2) = some aU ∧ L = w') (fun x => [(4, vu x.1), (5, vu x.2.1), (14, Value.agg (List.toArray d)), (15, vi e), (19, (Value.slice V W Z)), (20, vi (n.Counts.length : Int)), (21, vi x.2.2)]) (o, m, 0) aW (.cons z (.cons z (.cons z (.cons z (.cons z (.cons z (.cons z .nil))))))) ⟨h, z⟩ ?_
      rintro ⟨ab, D, aX⟩ aW _ ⟨h, rfl⟩
      obtain ⟨bs, bD, rfl, h, ac⟩ := rnd1 h
      unfold hist_Total_lp2 at h
      try dsimp only at h
      refine (show WC _ _ _ _ [(4, vu ab), (5, vu D), (14, Value.agg (List.toArray d)), (15, vi e), (19, (Value.slice V W Z)), (20, vi (n.Counts.length : Int)), (21, vi aX)] _ from ?_)
      refine sq (rg (wY (Y.lss_i z z) z (nl (th (sq ?_)))))
      rcases cnd h with ⟨q, h⟩ | ⟨q, h⟩
      ·refine WC.condT' z q (sk (th (sq (WC.block (sq (rg ?_))))))
       obtain ⟨bi, aK, h⟩ := bnd h
       obtain ⟨bE, bt, bu, bx, aL, aM, aN, r, aE, aO⟩ := Sl.at2 aD aK
       obtain rfl := aE
       replace r : CellsAt _ _ _ [vu bi] := r
       have aF := CAt.imm r aO
       refine wY (Y.indexAddr ty26 ty25 z aL z aM aN) z (wY (yl ty25 z z aF.at_) z (wY (ya z) z (nl (th (sq (rg (wY (ya (v := vu 0) z) z (nl (th ?_)))))))))
       refine sq (rg (wY (ym z) z (wY (ym z) z (wY (Y.add64 (c := 0) x64_58 (by decide) z z z) z (wY (ym z) z (wY (yx z z) z (wY (yx z z) z ?_)))))))
       obtain ⟨aG, ai, h⟩ := lt1 h
       refine WL.yE (ya z) (congrArg vu ai.symm) z ?_
       obtain ⟨bj, F, h⟩ := lt1 h
       refine WL.yE (ya z) (congrArg vu F.symm) z (nl (th (rg (wY (ym z) z (wY (ym z) z (wY (Y.or_u z z) z ?_))))))
       obtain ⟨aj, M, h⟩ := lt1 h
       refine WL.yE (ya z) (congrArg vu M.symm) z (nl (At.inBlock (th (rg (wY (Y.add_i z z) z (wY (ym z) z (nl ?_)))))))
       exact At.round (aG, aj, w64 (aX + 1)) bs (Nat.lt_succ_self _) ⟨next1 h ac, z⟩ (.cons z (.cons z (.cons z (.cons z (.cons z (.cons z (.cons z .nil)))))))
      ·refine WC.condF' z q (WC.exit (At.thenX (At.loopX ?_)))
       exact At.hitB (σ := (UInt64 × UInt64)) (ab, D) ⟨brk1 h ac, z⟩ (.cons z (.cons z (.cons z (.cons z .nil))))
     ·rintro ⟨ad, G⟩ _ ⟨rfl, rfl⟩
      replace h := flowK_go bh
      try dsimp only at h
      refine (show At _ _ _ [(4, vu ad), (5, vu G), (14, Value.agg (List.toArray d)), (15, vi e)] _ from ?_)
      refine At.inBlockHit ?_
      exact At.join (σ := (UInt64 × UInt64)) (ad, G) ⟨some1 h, z⟩ (.cons z (.cons z (.cons z (.cons z .nil))))
    ·rintro ⟨ae, H⟩ _ ⟨rfl, rfl⟩
     replace h := bg
     try dsimp only at h
     refine (show At _ _ _ [(4, vu ae), (5, vu H), (14, Value.agg (List.toArray d)), (15, vi e)] _ from ?_)
     refine At.inBlock (th (rg (wY (Y.add_i z z) z (wY (ym z) z (nl ?_)))))
     exact At.round (ae, H, w64 (e + 1), bq) bo (Nat.lt_succ_self _) ⟨next1 h az, (tr_ (su_ l z) (tr_ (su_ U z) (su_ aa z)))⟩ (.cons z (.cons z (.cons z (.cons z .nil))))
   ·refine WC.condF' z K (WC.exit (At.thenX (At.loopX ?_)))
    exact At.hitB (σ := (UInt64 × UInt64 × Own)) (o, m, ay) ⟨brk1 h az, (su_ l z)⟩ (.cons z (.cons z .nil))
  ·rintro ⟨af, I, bw⟩ bF ⟨rfl, ah⟩
   replace h := flowK_go a8
   try dsimp only at h ah
   refine (show At _ _ _ [(4, vu af), (5, vu I)] _ from ?_)
   refine At.inBlockHit ?_
   exact At.join (σ := (UInt64 × UInt64 × Own)) (af, I, bw) ⟨some1 h, (su_ ah z)⟩ (.cons z (.cons z .nil))
 ·rintro ⟨aP, aH, aY⟩ aI ⟨rfl, t⟩
  replace h := a7
  try dsimp only at h t
  refine (show At _ _ _ [(4, vu aP), (5, vu aH)] _ from ?_)
  refine th (sq (sq (rg (wY (ym z) z (wY (Y.neq_u (b := 0) z z) z (nl (th ?_)))))))
  rcases cnd h with ⟨C, h⟩ | ⟨C, h⟩
  ·refine WC.condT' z C (sq (rg (wY (ya (v := vu 0) z) z (wY (ya z) z (nl (th (rt (At.thenR ?_))))))))
   obtain ⟨rfl, rfl⟩ := tup2 h
   have aQ : Stp [12] (Lg.O0 A) w aY aI := (tr_ (su_ j z) (tr_ (su_ T z) (su_ t z)))
   exact At.res (.inl z) z (.tmp z (.tmp z .nil)) ⟨z, (se_ aQ z z)⟩
  ·refine WC.condF' z C (sk (th (sq (rg (wY (ym z) z (wY (ya z) z (wY (ya z) z (nl (th ?_)))))))))
   refine rt ?_
   obtain ⟨rfl, rfl⟩ := tup2 h
   have aR : Stp [12] (Lg.O0 A) w aY aI := (tr_ (su_ j z) (tr_ (su_ T z) (su_ t z)))
   exact At.res (.inl z) z (.tmp z (.tmp z .nil)) ⟨z, (se_ aR z z)⟩
theorem c_hist_check {A : Nat → Prop} {v0_1 : Value} {a0 : api_Side} {w : World} (hs0_1 : Sl Rep.u w A v0_1 a0.Counts) {r0 : Int} (h : hist_check a0 = some r0) : Rets Try.prog 59 [ag [vi a0.Offset, v0_1]] w (fun v w' => v = vi r0 ∧ Ext w w') := by
 unfold hist_check at h
 refine Rets.enter Try.func59 z z ?_
 have J : Sl Rep.u w (imm (Lg.O0 A)) v0_1 a0.Counts := (Sl.start hs0_1)
 refine (show WC _ _ _ _ [(0, ag [vi a0.Offset, v0_1])] _ from ?_)
 refine sq (rg ?_)
 have V := h
 obtain ⟨aw, ax, ay, rfl⟩ := J.shape
 have h := V
 refine WL.box (O := (Lg.O0 A)) 11 [vi a0.Offset, (Value.slice aw ax ay)] z z z ?_
 intro I m e j l
 refine wY (ya z) z (nl (th (sq (rg (wY (yf fo28_1 z) z (wY (yl ty26 z z (l.cell 1 _ z)) z ?_))))))
 have n := J.i j z z
 refine wY (Y.len ty26 z n) z ?_
 obtain ⟨d, K, h⟩ := lt1 h
 refine WL.yE (ya z) (congrArg vi K.symm) z (nl (th (sq (WC.block (sq (rg (wY (ym z) z (wY (Y.gtr_i z z) z ?_))))))))
 obtain ⟨aJ, W, h⟩ := lt1 h
 refine WL.yE (ya z) (congrArg vB W.symm) z (nl (th ?_))
 rcases cnd h with ⟨o, h⟩ | ⟨o, h⟩
 ·refine WC.condT' z o (sq (rg (wY (ya z) z (nl (th (rt (At.inBlockR (At.thenR ?_))))))))
  obtain rfl := some1 h
  have Z : Stp [] (Lg.O0 A) w m e := (su_ j z)
  exact At.res (.inl z) z (.tmp z .nil) ⟨z, (se_ Z z z)⟩
 ·refine WC.condF' z o (sq (rg (wY (ym z) z (wY (Y.eql_i z z) z (wY (ym z) z ?_)))))
  refine WL.cut 4 (σ := Unit) (fun _ w' => e = w') (fun _ => [(1, pt I 0), (3, vi d), (17, vB ((decide (d = 0)) && (!decide (a0.Offset = 0))))]) ?_ ?_
  ·refine WL.part 13 z (fun p => ?_) (fun p => ?_)
   ·refine ug z z (wY (yf fo28_0 z) z (ug z z (wY (yl ty3 z z (l.cell 0 _ z)) z (ug z z (wY (Y.neq_i z z) z (wY (Y.pick (b := true) z z) z (WL.ren (v' := vB ((decide (d = 0)) && (!decide (a0.Offset = 0)))) 17 z (congrArg vB (andT p)) ?_)))))))
    exact nl (At.join () z (.cons z (.cons z (.cons z .nil))))
   ·refine WL.gS z z z z (WL.gS z z z z (WL.gS z z z z (wY (Y.pick (b := false) z z) z (WL.ren (v' := vB ((decide (d = 0)) && (!decide (a0.Offset = 0)))) 17 z (congrArg vB (andF p)) ?_))))
    exact nl (At.join () z (.cons z (.cons z (.cons z .nil))))
  ·rintro _ _ rfl
   refine (show WL _ _ _ _ _ [(1, pt I 0), (3, vi d), (17, vB ((decide (d = 0)) && (!decide (a0.Offset = 0))))] _ from ?_)
   obtain ⟨aK, aa, h⟩ := lt1 h
   refine WL.yE (ya z) (congrArg vB aa.symm) z (nl (th ?_))
   rcases cnd h with ⟨q, h⟩ | ⟨q, h⟩
   ·refine WC.condT' z q (sq (rg (wY (ya z) z (nl (th (rt (At.inBlockR (At.thenR ?_))))))))
    obtain rfl := some1 h
    have ab : Stp [] (Lg.O0 A) w m e := (su_ j z)
    exact At.res (.inl z) z (.tmp z .nil) ⟨z, (se_ ab z z)⟩
   ·refine WC.condF' z q (sq (rg (wY (ym z) z (wY (Y.eql_i z z) z ?_))))
    obtain ⟨aL, ac, h⟩ := lt1 h
    refine WL.yE (ya z) (congrArg vB ac.symm) z (nl (th ?_))
    rcases cnd h with ⟨r, h⟩ | ⟨r, h⟩
    ·refine WC.condT' z r (sq (rg (wY (ya z) z (nl (th (rt (At.inBlockR (At.thenR ?_))))))))
     obtain rfl := some1 h
     have ad : Stp [] (Lg.O0 A) w m e := (su_ j z)
     exact At.res (.inl z) z (.tmp z .nil) ⟨z, (se_ ad z z)⟩
    ·refine WC.condF' z r (sq (rg (wY (yf fo28_1 z) z (wY (yl ty26 z z (l.cell 1 _ z)) z ?_))))
     obtain ⟨az, ae, h⟩ := bnd h
     obtain ⟨aM, aD, aE, aH, af, ah, ai, t, L, aj⟩ := Sl.at2 n ae
     obtain rfl := L
     replace t : CellsAt _ _ _ [vu az] := t
     have M := CAt.imm t aj
     refine wY (Y.indexAddr ty26 ty25 z af z ah ai) z (wY (yl ty25 z z M.at_) z (wY (Y.eql_u (b := 0) z z) z (wY (ym z) z ?_)))
     obtain ⟨aA, h, ak⟩ := bnd h
     refine WL.cut 8 (σ := Bool) (fun x w' => x = aA ∧ e = w') (fun x => [(1, pt I 0), (3, vi d), (35, vB x)]) ?_ ?_
     ·rcases cnd h with ⟨C, h⟩ | ⟨C, h⟩
      ·refine WL.ren 27 z (congrArg vB C) (WL.gS z z z z (WL.gS z z z z (WL.gS z z z z (WL.gS z z z z (WL.gS z z z z (WL.gS z z z z (WL.gS z z z z (wY (Y.pick (b := true) z z) z ?_))))))))
       exact nl (At.join (σ := Bool) true ⟨some1 h, z⟩ (.cons z (.cons z (.cons z .nil))))
      ·refine WL.ren 27 z (congrArg vB C) (ug z z (wY (yf fo28_1 z) z (ug z z (wY (yl ty26 z z (l.cell 1 _ z)) z (ug z z (wY (ym z) z (ug z z (wY (Y.sub_i z z) z (ug z z ?_)))))))))
       obtain ⟨U, al, h⟩ := bnd h
       obtain ⟨aN, aF, aG, aI, am, an, ao, D, Q, ap⟩ := Sl.at2 n al
       obtain rfl := Q
       replace D : CellsAt _ _ _ [vu U] := D
       have T := CAt.imm D ap
       refine wY (Y.indexAddr ty26 ty25 z am z an ao) z (ug z z (wY (yl ty25 z z T.at_) z (ug z z (wY (Y.eql_u (b := 0) z z) z (wY (Y.pick (b := false) z z) z ?_)))))
       exact nl (At.join (σ := Bool) (decide (U = 0)) ⟨some1 h, z⟩ (.cons z (.cons z (.cons z .nil))))
     ·rintro aC _ ⟨rfl, rfl⟩
      replace h := ak
      try dsimp only at h
      refine (show WL _ _ _ _ _ [(1, pt I 0), (3, vi d), (35, vB aC)] _ from ?_)
      refine wY (ya z) z (nl (th ?_))
      rcases cnd h with ⟨F, h⟩ | ⟨F, h⟩
      ·refine WC.condT' z F (sq (rg (wY (ya z) z (nl (th (rt (At.inBlockR (At.thenR ?_))))))))
       obtain rfl := some1 h
       have aq : Stp [] (Lg.O0 A) w m e := (su_ j z)
       exact At.res (.inl z) z (.tmp z .nil) ⟨z, (se_ aq z z)⟩
      ·refine WC.condF' z F (sq (rg (wY (yf fo28_0 z) z (wY (yl ty3 z z (l.cell 0 _ z)) z (wY (Y.lss_i z z) z (wY (ym z) z ?_))))))
       refine WL.cut 7 (σ := Unit) (fun _ w' => e = w') (fun _ => [(47, vB ((decide (a0.Offset < (-1073741824))) || (decide (w64 (1073741824 - (w64 (d - 1))) < a0.Offset))))]) ?_ ?_
       ·refine WL.part 40 z (fun G => ?_) (fun G => ?_)
        ·refine WL.gS z z z z (WL.gS z z z z (WL.gS z z z z (WL.gS z z z z (WL.gS z z z z (WL.gS z z z z (wY (Y.pick (b := true) z z) z (WL.ren (v' := vB ((decide (a0.Offset < (-1073741824))) || (decide (w64 (1073741824 - (w64 (d - 1))) < a0.Offset)))) 47 z (congrArg vB (orT G)) ?_)))))))
         exact nl (At.join () z (.cons z .nil))
        ·refine ug z z (wY (yf fo28_0 z) z (ug z z (wY (yl ty3 z z (l.cell 0 _ z)) z (ug z z (wY (ym z) z (ug z z (wY (Y.sub_i z z) z (ug z z (wY (Y.sub_i z z) z ?_)))))))))
         refine ug z z (wY (Y.gtr_i z z) z (wY (Y.pick (b := false) z z) z (WL.ren (v' := vB ((decide (a0.Offset < (-1073741824))) || (decide (w64 (1073741824 - (w64 (d - 1))) < a0.Offset)))) 47 z (congrArg vB (orF G)) ?_)))
         exact nl (At.join () z (.cons z .nil))
       ·rintro _ _ rfl
        refine (show WL _ _ _ _ _ [(47, vB ((decide (a0.Offset < (-1073741824))) || (decide (w64 (1073741824 - (w64 (d - 1))) < a0.Offset))))] _ from ?_)
        obtain ⟨aO, ar, h⟩ := lt1 h
        refine WL.yE (ya z) (congrArg vB ar.symm) z (nl (th ?_))
        rcases cnd h with ⟨H, h⟩ | ⟨H, h⟩
        ·refine WC.condT' z H (sq (rg (wY (ya z) z (nl (th (rt (At.inBlockR (At.thenR ?_))))))))
         obtain rfl := some1 h
         have au : Stp [] (Lg.O0 A) w m e := (su_ j z)
         exact At.res (.inl z) z (.tmp z .nil) ⟨z, (se_ au z z)⟩
        ·refine WC.condF' z H (sk (At.inBlock (th (sq (rg (wY (ya z) z (nl (th (rt ?_)))))))))
         obtain rfl := some1 h
         have av : Stp [] (Lg.O0 A) w m e := (su_ j z)
         exact At.res (.inl z) z (.tmp z .nil) ⟨z, (se_ av z z)⟩
theorem c_hist_Check {A : Nat → Prop} {v0_3 : Value} {v0_5 : Value} {a0 : api_Hist} {w : World} (hs0_3 : Sl Rep.u w A v0_3 a0.Pos.Counts) (hs0_5 : Sl Rep.u w A v0_5 a0.Neg.Counts) {r0 : Int} (h : hist_Check a0 = some r0) : Rets Try.prog 28 [ag [vi a0.Scale, vu a0.Zero, vi a0.Pos.Offset, v0_3, vi a0.Neg.Offset, v0_5]] w (fun v w' => v = vi r0 ∧ Ext w w') := by
 unfold hist_Check at h
 refine Rets.enter Try.func28 z z ?_
 have af : Sl Rep.u w (imm (Lg.O0 A)) v0_3 a0.Pos.Counts := (Sl.start hs0_3)
 have ah : Sl Rep.u w (imm (Lg.O0 A)) v0_5 a0.Neg.Counts := (Sl.start hs0_5)
 refine (show WC _ _ _ _ [(0, ag [vi a0.Scale, vu a0.Zero, vi a0.Pos.Offset, v0_3, vi a0.Neg.Offset, v0_5])] _ from ?_)
 refine sq (rg ?_)
 have aH := h
 obtain ⟨C, D, F, rfl⟩ := af.shape
 have h := aH
 have aI := h
 obtain ⟨G, H, I, rfl⟩ := ah.shape
 have h := aI
 refine WL.box (O := (Lg.O0 A)) 11 [vi a0.Scale, vu a0.Zero, vi a0.Pos.Offset, (Value.slice C D F), vi a0.Neg.Offset, (Value.slice G H I)] z z z ?_
 intro m W ai d o
 refine wY (ya z) z (nl (th (sq (sq (rg (wY (yf fo30_0 z) z (wY (yl ty3 z z (o.cell 0 _ z)) z (wY (Y.lss_i z z) z (wY (ym z) z ?_)))))))))
 refine WL.cut 4 (σ := Unit) (fun _ w' => ai = w') (fun _ => [(1, pt m 0), (15, vB ((decide (a0.Scale < (-10))) || (decide (20 < a0.Scale))))]) ?_ ?_
 ·refine WL.part 11 z (fun K => ?_) (fun K => ?_)
  ·refine WL.gS z z z z (WL.gS z z z z (WL.gS z z z z (wY (Y.pick (b := true) z z) z (WL.ren (v' := vB ((decide (a0.Scale < (-10))) || (decide (20 < a0.Scale)))) 15 z (congrArg vB (orT K)) ?_))))
   exact nl (At.join () z (.cons z (.cons z .nil)))
  ·refine ug z z (wY (yf fo30_0 z) z (ug z z (wY (yl ty3 z z (o.cell 0 _ z)) z (ug z z (wY (Y.gtr_i z z) z (wY (Y.pick (b := false) z z) z (WL.ren (v' := vB ((decide (a0.Scale < (-10))) || (decide (20 < a0.Scale)))) 15 z (congrArg vB (orF K)) ?_)))))))
   exact nl (At.join () z (.cons z (.cons z .nil)))
 ·rintro _ _ rfl
  refine (show WL _ _ _ _ _ [(1, pt m 0), (15, vB ((decide (a0.Scale < (-10))) || (decide (20 < a0.Scale))))] _ from ?_)
  refine nl (th ?_)
  rcases cnd h with ⟨L, h⟩ | ⟨L, h⟩
  ·refine WC.condT' z L (sq (rg (wY (ya z) z (nl (th (rt (At.thenR ?_)))))))
   obtain rfl := some1 h
   have aJ : Stp [] (Lg.O0 A) w W ai := (su_ d z)
   exact At.res (.inl z) z (.tmp z .nil) ⟨z, (se_ aJ z z)⟩
  ·refine WC.condF' z L (sk (th (sq (sq (rg (wY (yL ty30 z z (o.cells 0 [vi a0.Scale, vu a0.Zero, vi a0.Pos.Offset, (Value.slice C D F), vi a0.Neg.Offset, (Value.slice G H I)] z) z) z ?_))))))
   have aj := af.i d z z
   have ak := ah.i d z z
   obtain ⟨a7, aK, h⟩ := bnd h
   refine WL.call (vals := [ag [vi a0.Scale, vu a0.Zero, vi a0.Pos.Offset, (Value.slice C D F), vi a0.Neg.Offset, (Value.slice G H I)]]) kok57 z z (c_hist_sides (A := imm W) (a0 := a0) aj ak aK) ?_
   rintro bk M ⟨Q, rfl, aL, a8, a9⟩
   obtain ⟨Z, al, am, e⟩ := adoptE W (fun k => 1) aL
   have aM := Rows'.adoptI (O := W) a8 (fun _ hk => hk) (fun _ _ => Nat.le_refl _) al am
   refine wY (ym z) z (nl (th ?_))
   obtain ⟨ba, h, an⟩ := flow1 h
   refine WC.join (σ := Own) (fun x w' => ba = .go () ∧ Stp [12] Z M x w') (fun x => [(1, pt m 0)]) ?_ ?_
   ·refine WC.block ?_
    obtain ⟨aD, h, ao⟩ := flow1 h
    obtain ⟨aE, h⟩ := loop_some h
    refine WC.joinB 0 (σ := Own) (fun x w' => aD = .go () ∧ Stp [12] Z M x w') (fun x => [(1, pt m 0)]) ?_ ?_
    ·refine WC.loop (σ := (Int × Own)) (fun x k w' => loopN k (hist_Check_lp1 a7) x.1 = some aD ∧ Stp [12] Z M x.2 w') (fun x => [(1, pt m 0), (17, Value.agg (List.toArray Q)), (18, vi x.1)]) (0, Z) aE (.cons z (.cons z (.cons z .nil))) ⟨h, (sr_ _ _ _)⟩ ?_
     rintro ⟨aF, ap⟩ aE aN ⟨h, j⟩
     obtain ⟨bb, bt, rfl, h, T⟩ := rnd1 h
     unfold hist_Check_lp1 at h
     try dsimp only at h j
     refine (show WC _ _ _ _ [(1, pt m 0), (17, Value.agg (List.toArray Q)), (18, vi aF)] _ from ?_)
     refine sq (rg (wY (Y.lss_i z z) z (nl (th (sq ?_)))))
     rcases cnd h with ⟨U, h⟩ | ⟨U, h⟩
     ·refine WC.condT' z U (sk (th (sq (WC.block (sq (rg ?_))))))
      have aO := Rows'.i aM j z z
      obtain ⟨n, aq, h⟩ := bnd h
      obtain ⟨bl, p, av⟩ := arrAt (R := rep_api_Side) (w := aN) (A := imm ap) (cells := Q) aO aq
      obtain ⟨_, _, rfl, rfl, ⟨bc, rfl, aP⟩⟩ := av
      replace p : _ = [vi n.Offset, bc] := p
      refine wY (Y.indexArrAg ty86 ty28 z z p aq a9) z (WL.alloc (O := ap) 12 [vi 0, Value.slice none 0 0] ty28 z z ?_)
      intro bu bd bm q aQ
      have ar := aP.i q z z
      have aR := h
      obtain ⟨aa, ab, ac, rfl⟩ := ar.shape
      have h := aR
      refine WL.store (v := ag [vi n.Offset, (Value.slice aa ab ac)]) (cells' := [vi n.Offset, (Value.slice aa ab ac)]) ty28 z z aQ z (le_ z) z z ?_
      intro bn r aS
      refine nl (th (sq (rg (wY (yL ty28 z z (aS.cells 0 [vi n.Offset, (Value.slice aa ab ac)] z) z) z ?_))))
      have aT := ar.i r z z
      obtain ⟨bw, aU, h⟩ := bnd h
      refine WL.call (vals := [ag [vi n.Offset, (Value.slice aa ab ac)]]) kok59 z z (c_hist_check (A := fun _ => True) (a0 := n) (Sl.all aT) aU) ?_
      rintro bo aW ⟨rfl, aX⟩
      obtain ⟨aG, bf, bg, ad⟩ := adoptE bd (fun k => 1) aX
      refine wY (ya z) z (nl (th (sq (rg (wY (ym z) z (wY (Y.neq_i z z) z (nl (th ?_))))))))
      rcases cnd h with ⟨V, h⟩ | ⟨V, h⟩
      ·refine WC.condT' z V (sq (rg (wY (ym z) z (wY (ya z) z (nl (th (rt (At.inBlockR (At.thenR ?_)))))))))
       refine At.loopR ?_
       have h := outr1 h T ao
       refine At.joinBR (At.inBlockR ?_)
       have h := outs1 h an
       refine At.joinR (At.thenR ?_)
       obtain rfl := some1 h
       have aY : Stp [12] (Lg.O0 A) w aG aW := (tr_ (su_ d z) (tr_ (su_ e z) (tr_ (su_ j z) (tr_ (su_ q z) (tr_ (su_ r z) (su_ ad z))))))
       exact At.res (.inl z) z (.tmp z .nil) ⟨z, (se_ aY z z)⟩
      ·refine WC.condF' z V (sk (At.inBlock (th (rg (wY (Y.add_i z z) z (wY (ym z) z (nl ?_)))))))
       exact At.round (w64 (aF + 1), aG) bb (Nat.lt_succ_self _) ⟨next1 h T, (tr_ (su_ j z) (tr_ (su_ q z) (tr_ (su_ r z) (su_ ad z))))⟩ (.cons z (.cons z (.cons z .nil)))
     ·refine WC.condF' z U (WC.exit (At.thenX (At.loopX ?_)))
      exact At.hitB (σ := Own) ap ⟨brk1 h T, (su_ j z)⟩ (.cons z .nil)
    ·rintro bh bp ⟨rfl, aw⟩
     replace h := flowK_go ao
     refine (show At _ _ _ [(1, pt m 0)] _ from ?_)
     refine At.inBlockHit ?_
     exact At.join (σ := Own) bh ⟨go2 h, (su_ aw z)⟩ (.cons z .nil)
   ·rintro bi bq ⟨rfl, l⟩
    replace h := flowK_go an
    refine (show At _ _ _ [(1, pt m 0)] _ from ?_)
    refine th (sq (sq (rg ?_)))
    have aZ := o.st e z
    have a1 := aZ.st l z
    refine wY (yL ty30 z z (a1.cells 0 [vi a0.Scale, vu a0.Zero, vi a0.Pos.Offset, (Value.slice C D F), vi a0.Neg.Offset, (Value.slice G H I)] z) z) z ?_
    have a2 := aj.i e z z
    have a3 := a2.i l z z
    have a4 := ak.i e z z
    have ax := a4.i l z z
    obtain ⟨⟨br, bs⟩, ay, h⟩ := bnd h
    refine WL.call (vals := [ag [vi a0.Scale, vu a0.Zero, vi a0.Pos.Offset, (Value.slice C D F), vi a0.Neg.Offset, (Value.slice G H I)]]) kok27 z z (c_hist_Total (A := fun _ => True) (a0 := a0) (Sl.all a3) (Sl.all ax) ay) ?_
    rintro bj ae ⟨rfl, az⟩
    obtain ⟨au, a5, a6, J⟩ := adoptE bi (fun k => 1) az
    refine wY (ym z) z (wY (yx z z) z (wY (yx z z) z (wY (ya z) z (wY (ya z) z (nl (th (sq (rg (wY (ym z) z ?_)))))))))
    refine wY (Y.not z) z (nl (th ?_))
    rcases cnd h with ⟨t, h⟩ | ⟨t, h⟩
    ·refine WC.condT' z t (sq (rg (wY (ya z) z (nl (th (rt (At.thenR ?_)))))))
     obtain rfl := some1 h
     have aA : Stp [12] (Lg.O0 A) w au ae := (tr_ (su_ d z) (tr_ (su_ e z) (tr_ (su_ l z) (su_ J z))))
     exact At.res (.inl z) z (.tmp z .nil) ⟨z, (se_ aA z z)⟩
    ·refine WC.condF' z t (sk (th (sq (rg (wY (ya z) z (nl (th (rt ?_))))))))
     obtain rfl := some1 h
     have aC : Stp [12] (Lg.O0 A) w au ae := (tr_ (su_ d z) (tr_ (su_ e z) (tr_ (su_ l z) (su_ J z))))
     exact At.res (.inl z) z (.tmp z .nil) ⟨z, (se_ aC z z)⟩
theorem c_label_small {a0 : UInt8} {w : World} {r0 : Bool} (h : label_small a0 = some r0) : Rets Try.prog 93 [vb a0] w (fun v w' => v = vB r0 ∧ Ext w w') := by
 unfold label_small at h
 refine Rets.enter Try.func93 z z ?_
 refine (show WC _ _ _ _ [(0, vb a0)] _ from ?_)
 refine sq (rg (wY (ya z) z (nl (th (sq (rg (wY (ym z) z (wY (Y.geq_b (b := 97) z z) z (wY (ym z) z ?_)))))))))
 refine WL.cut 3 (σ := Unit) (fun _ w' => w = w') (fun _ => [(8, vB ((decide (97 ≤ a0)) && (decide (a0 ≤ 122))))]) ?_ ?_
 ·refine WL.part 5 z (fun d => ?_) (fun d => ?_)
  ·refine ug z z (wY (ym z) z (ug z z (wY (Y.leq_b (b := 122) z z) z (wY (Y.pick (b := true) z z) z (WL.ren (v' := vB ((decide (97 ≤ a0)) && (decide (a0 ≤ 122)))) 8 z (congrArg vB (andT d)) ?_)))))
   exact nl (At.join () z (.cons z .nil))
  ·refine WL.gS z z z z (WL.gS z z z z (wY (Y.pick (b := false) z z) z (WL.ren (v' := vB ((decide (97 ≤ a0)) && (decide (a0 ≤ 122)))) 8 z (congrArg vB (andF d)) ?_)))
   exact nl (At.join () z (.cons z .nil))
 ·rintro _ _ rfl
  refine (show WL _ _ _ _ _ [(8, vB ((decide (97 ≤ a0)) && (decide (a0 ≤ 122))))] _ from ?_)
  obtain ⟨l, e, h⟩ := lt1 h
  refine WL.yE (ya z) (congrArg vB e.symm) z (nl (th (rt ?_)))
  obtain rfl := some1 h
  have j : Stp [] (Lg.O0 (fun _ => False)) w (Lg.O0 (fun _ => False)) w := (sr_ _ _ _)
  exact At.res (.inl z) z (.tmp z .nil) ⟨z, (se_ j z z)⟩
theorem c_label_isName {a0 : List UInt8} {w : World} {r0 : Bool} (h : label_isName a0 = some r0) : Rets Try.prog 67 [vs a0] w (fun v w' => v = vB r0 ∧ Ext w w') := by
 unfold label_isName at h
 refine Rets.enter Try.func67 z z ?_
 refine (show WC _ _ _ _ [(0, vs a0)] _ from ?_)
 refine sq (rg (wY (ya z) z (nl (th (sq (sq (rg (wY (ym z) z (wY (Y.eql_s (b := []) z z) z ?_)))))))))
 refine wY (ym z) z ?_
 refine WL.cut 4 (σ := Unit) (fun _ w' => w = w') (fun _ => [(0, vs a0), (11, vB ((decide (a0 = [])) || (decide (32 < (a0.length : Int)))))]) ?_ ?_
 ·refine WL.part 7 z (fun q => ?_) (fun q => ?_)
  ·refine WL.gS z z z z (WL.gS z z z z (WL.gS z z z z (wY (Y.pick (b := true) z z) z (WL.ren (v' := vB ((decide (a0 = [])) || (decide (32 < (a0.length : Int))))) 11 z (congrArg vB (orT q)) ?_))))
   exact nl (At.join () z (.cons z (.cons z .nil)))
  ·refine ug z z (wY (ym z) z (ug z z (wY (Y.len_s ty9 z) z (ug z z (wY (Y.gtr_i z z) z (wY (Y.pick (b := false) z z) z (WL.ren (v' := vB ((decide (a0 = [])) || (decide (32 < (a0.length : Int))))) 11 z (congrArg vB (orF q)) ?_)))))))
   exact nl (At.join () z (.cons z (.cons z .nil)))
 ·rintro _ _ rfl
  refine (show WL _ _ _ _ _ [(0, vs a0), (11, vB ((decide (a0 = [])) || (decide (32 < (a0.length : Int)))))] _ from ?_)
  refine wY (ym z) z ?_
  obtain ⟨aA, h, ah⟩ := bnd h
  refine WL.cut 5 (σ := (Bool × Own)) (fun x w' => x.1 = aA ∧ Stp [] (Lg.O0 (fun _ => False)) w x.2 w') (fun x => [(0, vs a0), (17, vB x.1)]) ?_ ?_
  ·rcases cnd h with ⟨r, h⟩ | ⟨r, h⟩
   ·refine WL.ren 12 z (congrArg vB r) (WL.gS z z z z (WL.gS z z z z (WL.gS z z z z (WL.gS z z z z (wY (Y.pick (b := true) z z) z ?_)))))
    exact nl (At.join (σ := (Bool × Own)) (true, (Lg.O0 (fun _ => False))) ⟨some1 h, (sr_ _ _ _)⟩ (.cons z (.cons z .nil)))
   ·refine WL.ren 12 z (congrArg vB r) (ug z z (wY (ym z) z (ug z z ?_)))
    obtain ⟨aC, ai, h⟩ := bnd h
    refine wY (Y.index_s ty9 z z ai) z (ug z z ?_)
    obtain ⟨aD, aj, h⟩ := bnd h
    refine WL.call (vals := [vb aC]) kok93 z z (c_label_small aj) ?_
    rintro aO aP ⟨rfl, ak⟩
    obtain ⟨aE, aF, aG, V⟩ := adoptE (Lg.O0 (fun _ => False)) (fun k => 1) ak
    refine ug z z (wY (Y.not z) z (wY (Y.pick (b := false) z z) z ?_))
    exact nl (At.join (σ := (Bool × Own)) ((!aD), aE) ⟨some1 h, (su_ V z)⟩ (.cons z (.cons z .nil)))
  ·rintro ⟨aH, ab⟩ al ⟨rfl, n⟩
   replace h := ah
   try dsimp only at h n
   refine (show WL _ _ _ _ _ [(0, vs a0), (17, vB aH)] _ from ?_)
   refine nl (th ?_)
   rcases cnd h with ⟨t, h⟩ | ⟨t, h⟩
   ·refine WC.condT' z t (sq (rg (wY (ya z) z (nl (th (rt (At.thenR ?_)))))))
    obtain rfl := some1 h
    have am : Stp [] (Lg.O0 (fun _ => False)) w ab al := (su_ n z)
    exact At.res (.inl z) z (.tmp z .nil) ⟨z, (se_ am z z)⟩
   ·refine WC.condF' z t (sk (th (sq (sq (rg (wY (ym z) z (WL.s2b (O := ab) ty9 ty124 ty5 z z ?_)))))))
    intro j M Q K T
    refine wY (Y.len ty124 z T) z (wY (ym z) z (nl (th (WC.block ?_))))
    obtain ⟨ac, h, U⟩ := flow1 h
    obtain ⟨ad, h⟩ := loop_some h
    refine WC.joinB 0 (σ := Own) (fun x w' => ac = .go () ∧ Stp [] M Q x w') (fun x => []) ?_ ?_
    ·refine WC.loop (σ := (Int × Own)) (fun x k w' => loopN k (label_isName_lp1 a0) x.1 = some ac ∧ Stp [] M Q x.2 w') (fun x => [(19, j), (20, vi (a0.length : Int)), (21, vi x.1)]) (0, M) ad (.cons z (.cons z (.cons z .nil))) ⟨h, (sr_ _ _ _)⟩ ?_
     rintro ⟨l, ae⟩ ad aQ ⟨h, m⟩
     obtain ⟨aI, aT, rfl, h, C⟩ := rnd1 h
     unfold label_isName_lp1 at h
     try dsimp only at h m
     refine (show WC _ _ _ _ [(19, j), (20, vi (a0.length : Int)), (21, vi l)] _ from ?_)
     refine sq (rg (wY (Y.lss_i z z) z (nl (th (sq ?_)))))
     rcases cnd h with ⟨D, h⟩ | ⟨D, h⟩
     ·refine WC.condT' z D (sk (th (sq (WC.block (sq (rg ?_))))))
      obtain ⟨d, an, h⟩ := bnd h
      have ao := T.f m z
      obtain ⟨aU, aM, aN, aR, ap, aq, ar, F, W, au⟩ := Sl.at2 ao an
      obtain rfl := W
      replace F : CellsAt _ _ _ [vb d] := F
      have Z := CAt.frs F au
      refine wY (Y.indexAddr ty124 ty5 z ap z aq ar) z (wY (yl ty5 z z Z.at_) z (wY (ya z) z (nl (th (sq (rg (wY (ym z) z ?_)))))))
      obtain ⟨e, av, h⟩ := bnd h
      refine WL.call (vals := [vb d]) kok93 z z (c_label_small av) ?_
      rintro aS o ⟨rfl, aw⟩
      obtain ⟨af, aJ, aK, L⟩ := adoptE ae (fun k => 1) aw
      refine wY (Y.not z) z (wY (ym z) z ?_)
      refine WL.cut 7 (σ := Unit) (fun _ w' => o = w') (fun _ => [(4, vb d), (19, j), (20, vi (a0.length : Int)), (21, vi l), (35, vB ((!e) && ((decide (d < 48)) || (decide (57 < d)))))]) ?_ ?_
      ·refine WL.part 28 z (fun G => ?_) (fun G => ?_)
       ·refine ug z z (wY (ym z) z (ug z z (wY (Y.lss_b (b := 48) z z) z (ug z z (wY (ym z) z ?_)))))
        refine WL.cut 3 (σ := Unit) (fun _ w' => o = w') (fun _ => [(4, vb d), (19, j), (20, vi (a0.length : Int)), (21, vi l), (28, vB true), (29, vb d), (30, vB (decide (d < 48))), (31, vB (decide (d < 48))), (34, vB ((decide (d < 48)) || (decide (57 < d))))]) ?_ ?_
        ·refine WL.part 31 z (fun p => ?_) (fun p => ?_)
         ·refine WL.gS z z z z (WL.gS z z z z (ug z z (wY (Y.pick (b := true) z z) z (WL.ren (v' := vB ((decide (d < 48)) || (decide (57 < d)))) 34 z (congrArg vB (orT p)) (WL.ren 31 z (congrArg vB p.symm) ?_)))))
          exact nl (At.join () z (.cons z (.cons z (.cons z (.cons z (.cons z (.cons z (.cons z (.cons z (.cons z .nil))))))))))
         ·refine ug z z (wY (ym z) z (ug z z (wY (Y.gtr_b (b := 57) z z) z (ug z z (wY (Y.pick (b := false) z z) z (WL.ren (v' := vB ((decide (d < 48)) || (decide (57 < d)))) 34 z (congrArg vB (orF p)) (WL.ren 31 z (congrArg vB p.symm) ?_)))))))
          exact nl (At.join () z (.cons z (.cons z (.cons z (.cons z (.cons z (.cons z (.cons z (.cons z (.cons z .nil))))))))))
        ·rintro _ _ rfl
         refine (show WL _ _ _ _ _ [(4, vb d), (19, j), (20, vi (a0.length : Int)), (21, vi l), (28, vB true), (29, vb d), (30, vB (decide (d < 48))), (31, vB (decide (d < 48))), (34, vB ((decide (d < 48)) || (decide (57 < d))))] _ from ?_)
         refine wY (Y.pick (b := true) z z) z (WL.ren (v' := vB ((!e) && ((decide (d < 48)) || (decide (57 < d))))) 35 z (congrArg vB (andT G)) ?_)
         exact nl (At.join () z (.cons z (.cons z (.cons z (.cons z (.cons z .nil))))))
       ·refine WL.gS z z z z (WL.gS z z z z (WL.gS z z z z (WL.gS z z z z (WL.gS z z z z (WL.gS z z z z (wY (Y.pick (b := false) z z) z (WL.ren (v' := vB ((!e) && ((decide (d < 48)) || (decide (57 < d))))) 35 z (congrArg vB (andF G)) ?_)))))))
        exact nl (At.join () z (.cons z (.cons z (.cons z (.cons z (.cons z .nil))))))
      ·rintro _ _ rfl
       refine (show WL _ _ _ _ _ [(4, vb d), (19, j), (20, vi (a0.length : Int)), (21, vi l), (35, vB ((!e) && ((decide (d < 48)) || (decide (57 < d)))))] _ from ?_)
       refine wY (ym z) z ?_
       refine WL.cut 3 (σ := Unit) (fun _ w' => o = w') (fun _ => [(4, vb d), (19, j), (20, vi (a0.length : Int)), (21, vi l), (39, vB (((!e) && ((decide (d < 48)) || (decide (57 < d)))) && (!decide (d = 95))))]) ?_ ?_
       ·refine WL.part 36 z (fun H => ?_) (fun H => ?_)
        ·refine ug z z (wY (ym z) z (ug z z (wY (Y.neq_b (b := 95) z z) z (wY (Y.pick (b := true) z z) z (WL.ren (v' := vB (((!e) && ((decide (d < 48)) || (decide (57 < d)))) && (!decide (d = 95)))) 39 z (congrArg vB (andT H)) ?_)))))
         exact nl (At.join () z (.cons z (.cons z (.cons z (.cons z (.cons z .nil))))))
        ·refine WL.gS z z z z (WL.gS z z z z (wY (Y.pick (b := false) z z) z (WL.ren (v' := vB (((!e) && ((decide (d < 48)) || (decide (57 < d)))) && (!decide (d = 95)))) 39 z (congrArg vB (andF H)) ?_)))
         exact nl (At.join () z (.cons z (.cons z (.cons z (.cons z (.cons z .nil))))))
       ·rintro _ _ rfl
        refine (show WL _ _ _ _ _ [(4, vb d), (19, j), (20, vi (a0.length : Int)), (21, vi l), (39, vB (((!e) && ((decide (d < 48)) || (decide (57 < d)))) && (!decide (d = 95))))] _ from ?_)
        refine wY (ym z) z ?_
        refine WL.cut 3 (σ := Unit) (fun _ w' => o = w') (fun _ => [(19, j), (20, vi (a0.length : Int)), (21, vi l), (43, vB ((((!e) && ((decide (d < 48)) || (decide (57 < d)))) && (!decide (d = 95))) && (!decide (d = 46))))]) ?_ ?_
        ·refine WL.part 40 z (fun I => ?_) (fun I => ?_)
         ·refine ug z z (wY (ym z) z (ug z z (wY (Y.neq_b (b := 46) z z) z (wY (Y.pick (b := true) z z) z (WL.ren (v' := vB ((((!e) && ((decide (d < 48)) || (decide (57 < d)))) && (!decide (d = 95))) && (!decide (d = 46)))) 43 z (congrArg vB (andT I)) ?_)))))
          exact nl (At.join () z (.cons z (.cons z (.cons z (.cons z .nil)))))
         ·refine WL.gS z z z z (WL.gS z z z z (wY (Y.pick (b := false) z z) z (WL.ren (v' := vB ((((!e) && ((decide (d < 48)) || (decide (57 < d)))) && (!decide (d = 95))) && (!decide (d = 46)))) 43 z (congrArg vB (andF I)) ?_)))
          exact nl (At.join () z (.cons z (.cons z (.cons z (.cons z .nil)))))
        ·rintro _ _ rfl
         refine (show WL _ _ _ _ _ [(19, j), (20, vi (a0.length : Int)), (21, vi l), (43, vB ((((!e) && ((decide (d < 48)) || (decide (57 < d)))) && (!decide (d = 95))) && (!decide (d = 46))))] _ from ?_)
         refine nl (th ?_)
         rcases cnd h with ⟨J, h⟩ | ⟨J, h⟩
         ·refine WC.condT' z J (sq (rg (wY (ya z) z (nl (th (rt (At.inBlockR (At.thenR (At.loopR ?_)))))))))
          have h := outr1 h C U
          refine At.joinBR (At.inBlockR (At.thenR ?_))
          obtain rfl := some1 h
          have ax : Stp [] (Lg.O0 (fun _ => False)) w af o := (tr_ (su_ n z) (tr_ (su_ K z) (tr_ (su_ m z) (su_ L z))))
          exact At.res (.inl z) z (.tmp z .nil) ⟨z, (se_ ax z z)⟩
         ·refine WC.condF' z J (sk (At.inBlock (th (rg (wY (Y.add_i z z) z (wY (ym z) z (nl ?_)))))))
          exact At.round (w64 (l + 1), af) aI (Nat.lt_succ_self _) ⟨next1 h C, (tr_ (su_ m z) (su_ L z))⟩ (.cons z (.cons z (.cons z .nil)))
     ·refine WC.condF' z D (WC.exit (At.thenX (At.loopX ?_)))
      exact At.hitB (σ := Own) ae ⟨brk1 h C, (su_ m z)⟩ .nil
    ·rintro aL ay ⟨rfl, aa⟩
     replace h := flowK_go U
     refine (show At _ _ _ [] _ from ?_)
     refine At.inBlockHit (th (sq (rg (wY (ya z) z (nl (th (rt ?_)))))))
     obtain rfl := some1 h
     have az : Stp [] (Lg.O0 (fun _ => False)) w aL ay := (tr_ (su_ n z) (tr_ (su_ K z) (su_ aa z)))
     exact At.res (.inl z) z (.tmp z .nil) ⟨z, (se_ az z z)⟩
theorem c_label_isValue {a0 : List UInt8} {w : World} {r0 : Bool} (h : label_isValue a0 = some r0) : Rets Try.prog 68 [vs a0] w (fun v w' => v = vB r0 ∧ Ext w w') := by
 unfold label_isValue at h
 refine Rets.enter Try.func68 z z ?_
 refine (show WC _ _ _ _ [(0, vs a0)] _ from ?_)
 refine sq (rg (wY (ya z) z (nl (th (sq (sq (rg (wY (ym z) z (wY (Y.eql_s (b := []) z z) z ?_)))))))))
 refine wY (ym z) z ?_
 refine WL.cut 4 (σ := Unit) (fun _ w' => w = w') (fun _ => [(0, vs a0), (11, vB ((decide (a0 = [])) || (decide (32 < (a0.length : Int)))))]) ?_ ?_
 ·refine WL.part 7 z (fun l => ?_) (fun l => ?_)
  ·refine WL.gS z z z z (WL.gS z z z z (WL.gS z z z z (wY (Y.pick (b := true) z z) z (WL.ren (v' := vB ((decide (a0 = [])) || (decide (32 < (a0.length : Int))))) 11 z (congrArg vB (orT l)) ?_))))
   exact nl (At.join () z (.cons z (.cons z .nil)))
  ·refine ug z z (wY (ym z) z (ug z z (wY (Y.len_s ty9 z) z (ug z z (wY (Y.gtr_i z z) z (wY (Y.pick (b := false) z z) z (WL.ren (v' := vB ((decide (a0 = [])) || (decide (32 < (a0.length : Int))))) 11 z (congrArg vB (orF l)) ?_)))))))
   exact nl (At.join () z (.cons z (.cons z .nil)))
 ·rintro _ _ rfl
  refine (show WL _ _ _ _ _ [(0, vs a0), (11, vB ((decide (a0 = [])) || (decide (32 < (a0.length : Int)))))] _ from ?_)
  refine nl (th ?_)
  rcases cnd h with ⟨m, h⟩ | ⟨m, h⟩
  ·refine WC.condT' z m (sq (rg (wY (ya z) z (nl (th (rt (At.thenR ?_)))))))
   obtain rfl := some1 h
   have T : Stp [] (Lg.O0 (fun _ => False)) w (Lg.O0 (fun _ => False)) w := (sr_ _ _ _)
   exact At.res (.inl z) z (.tmp z .nil) ⟨z, (se_ T z z)⟩
  ·refine WC.condF' z m (sk (th (sq (sq (rg (wY (ym z) z (WL.s2b (O := (Lg.O0 (fun _ => False))) ty9 ty124 ty5 z z ?_)))))))
   intro e L d F G
   refine wY (Y.len ty124 z G) z (wY (ym z) z (nl (th (WC.block ?_))))
   obtain ⟨M, h, H⟩ := flow1 h
   obtain ⟨Q, h⟩ := loop_some h
   refine WC.joinB 0 (σ := Unit) (fun x w' => M = .go () ∧ d = w') (fun x => []) ?_ ?_
   ·refine WC.loop (σ := Int) (fun x k w' => loopN k (label_isValue_lp1 a0) x = some M ∧ d = w') (fun x => [(13, e), (14, vi (a0.length : Int)), (15, vi x)]) 0 Q (.cons z (.cons z (.cons z .nil))) ⟨h, z⟩ ?_
    rintro j Q _ ⟨h, rfl⟩
    obtain ⟨ak, az, rfl, h, n⟩ := rnd1 h
    unfold label_isValue_lp1 at h
    try dsimp only at h
    refine (show WC _ _ _ _ [(13, e), (14, vi (a0.length : Int)), (15, vi j)] _ from ?_)
    refine sq (rg (wY (Y.lss_i z z) z (nl (th (sq ?_)))))
    rcases cnd h with ⟨o, h⟩ | ⟨o, h⟩
    ·refine WC.condT' z o (sk (th (sq (WC.block (sq (rg ?_))))))
     obtain ⟨al, U, h⟩ := bnd h
     obtain ⟨aA, aw, ax, ay, V, W, Z, p, J, aa⟩ := Sl.at2 G U
     obtain rfl := J
     replace p : CellsAt _ _ _ [vb al] := p
     have K := CAt.frs p aa
     refine wY (Y.indexAddr ty124 ty5 z V z W Z) z (wY (yl ty5 z z K.at_) z (wY (ya z) z (nl (th ?_))))
     obtain ⟨am, h, I⟩ := flow1 h
     refine WC.join (σ := Unit) (fun x w' => am = .go () ∧ d = w') (fun x => [(13, e), (14, vi (a0.length : Int)), (15, vi j)]) ?_ ?_
     ·refine WC.block (sq ?_)
      obtain ⟨an, h, ab⟩ := bnd h
      refine WC.join (σ := Bool) (fun x w' => x = an ∧ d = w') (fun x => [(13, e), (14, vi (a0.length : Int)), (15, vi j), (19, vB x)]) ?_ ?_
      ·refine sq (rg (wY (ym z) z (wY (Y.lss_b (b := 33) z z) z ?_)))
       obtain ⟨ao, ac, h⟩ := lt1 h
       refine WL.yE (ya z) (congrArg vB ac.symm) z (nl (th ?_))
       rcases cnd h with ⟨q, h⟩ | ⟨q, h⟩
       ·refine WC.condT' z q (sk ?_)
        exact At.join (σ := Bool) ao ⟨some1 h, z⟩ (.cons z (.cons z (.cons z (.cons z .nil))))
       ·refine WC.condF' z q (sq (rg (wY (ym z) z (wY (Y.gtr_b (b := 126) z z) z ?_))))
        obtain ⟨ap, ad, h⟩ := lt1 h
        refine WL.yE (ya z) (congrArg vB ad.symm) z (nl (th ?_))
        rcases cnd h with ⟨r, h⟩ | ⟨r, h⟩
        ·refine WC.condT' z r (sk ?_)
         exact At.join (σ := Bool) ap ⟨some1 h, z⟩ (.cons z (.cons z (.cons z (.cons z .nil))))
        ·refine WC.condF' z r (sq (rg (wY (ym z) z (wY (Y.eql_b (b := 61) z z) z ?_))))
         obtain ⟨aq, ae, h⟩ := lt1 h
         refine WL.yE (ya z) (congrArg vB ae.symm) z (nl (th ?_))
         rcases cnd h with ⟨t, h⟩ | ⟨t, h⟩
         ·refine WC.condT' z t (sk ?_)
          exact At.join (σ := Bool) aq ⟨some1 h, z⟩ (.cons z (.cons z (.cons z (.cons z .nil))))
         ·refine WC.condF' z t (sq (rg (wY (ym z) z (wY (Y.eql_b (b := 59) z z) z ?_))))
          obtain ⟨ar, af, h⟩ := lt1 h
          refine WL.yE (ya z) (congrArg vB af.symm) z (nl (th ?_))
          rcases cnd h with ⟨C, h⟩ | ⟨C, h⟩
          ·refine WC.condT' z C (sk ?_)
           exact At.join (σ := Bool) ar ⟨some1 h, z⟩ (.cons z (.cons z (.cons z (.cons z .nil))))
          ·refine WC.condF' z C (rg (wY (ym z) z (wY (Y.eql_b (b := 44) z z) z ?_)))
           obtain ⟨au, ah, h⟩ := lt1 h
           refine WL.yE (ya z) (congrArg vB ah.symm) z (nl ?_)
           exact At.join (σ := Bool) au ⟨some1 h, z⟩ (.cons z (.cons z (.cons z (.cons z .nil))))
      ·rintro av _ ⟨rfl, rfl⟩
       replace h := ab
       try dsimp only at h
       refine (show At _ _ _ [(13, e), (14, vi (a0.length : Int)), (15, vi j), (19, vB av)] _ from ?_)
       refine th ?_
       rcases cnd h with ⟨D, h⟩ | ⟨D, h⟩
       ·refine WC.condT' z D (sq (rg (wY (ya z) z (nl (th (rt (At.inBlockR ?_)))))))
        have h := outs1 h I
        refine At.joinR (At.inBlockR (At.thenR (At.loopR ?_)))
        have h := outr1 h n H
        refine At.joinBR (At.inBlockR (At.thenR ?_))
        obtain rfl := some1 h
        have ai : Stp [] (Lg.O0 (fun _ => False)) w L d := (su_ F z)
        exact At.res (.inl z) z (.tmp z .nil) ⟨z, (se_ ai z z)⟩
       ·refine WC.condF' z D (sk (At.inBlock ?_))
        exact At.join (σ := Unit) () ⟨go2 h, z⟩ (.cons z (.cons z (.cons z .nil)))
     ·rintro _ _ ⟨rfl, rfl⟩
      replace h := flowK_go I
      refine (show At _ _ _ [(13, e), (14, vi (a0.length : Int)), (15, vi j)] _ from ?_)
      refine At.inBlock (th (rg (wY (Y.add_i z z) z (wY (ym z) z (nl ?_)))))
      exact At.round (w64 (j + 1)) ak (Nat.lt_succ_self _) ⟨next1 h n, z⟩ (.cons z (.cons z (.cons z .nil)))
    ·refine WC.condF' z o (WC.exit (At.thenX (At.loopX ?_)))
     exact At.hitB (σ := Unit) () ⟨brk1 h n, z⟩ .nil
   ·rintro _ _ ⟨rfl, rfl⟩
    replace h := flowK_go H
    refine (show At _ _ _ [] _ from ?_)
    refine At.inBlockHit (th (sq (rg (wY (ya z) z (nl (th (rt ?_)))))))
    obtain rfl := some1 h
    have aj : Stp [] (Lg.O0 (fun _ => False)) w L d := (su_ F z)
    exact At.res (.inl z) z (.tmp z .nil) ⟨z, (se_ aj z z)⟩
theorem c_label_Check {A : Nat → Prop} {a0 : List UInt8} {a1 : List api_Pair} {v1 : Value} {w : World} (hs1 : Sl rep_api_Pair w A v1 a1) {r0 : Int} (h : label_Check a0 a1 = some r0) : Rets Try.prog 35 [vs a0, v1] w (fun v w' => v = vi r0 ∧ Ext w w') := by
 unfold label_Check at h
 refine Rets.enter Try.func35 z z ?_
 have a3 : Sl rep_api_Pair w (imm (Lg.O0 A)) v1 a1 := (Sl.start hs1)
 refine (show WC _ _ _ _ [(0, vs a0), (1, v1)] _ from ?_)
 refine sq (rg (wY (ya z) z (nl (th (sq (sq (rg (wY (ym z) z ?_))))))))
 obtain ⟨ci, a4, h⟩ := bnd h
 refine WL.call (vals := [vs a0]) kok67 z z (c_label_isName a4) ?_
 rintro b7 I ⟨rfl, a5⟩
 obtain ⟨U, bI, bJ, l⟩ := adoptE (Lg.O0 A) (fun k => 1) a5
 refine wY (Y.not z) z (nl (th ?_))
 rcases cnd h with ⟨Z, h⟩ | ⟨Z, h⟩
 ·refine WC.condT' z Z (sq (rg (wY (ya z) z (nl (th (rt (At.thenR ?_)))))))
  obtain rfl := some1 h
  have a6 : Stp [] (Lg.O0 A) w U I := (su_ l z)
  exact At.res (.inl z) z (.tmp z .nil) ⟨z, (se_ a6 z z)⟩
 ·refine WC.condF' z Z (sk (th (sq (sq (rg (wY (ym z) z ?_))))))
  have aa := a3.i l z z
  refine wY (Y.len ty35 z aa) z (wY (Y.gtr_i z z) z (nl (th ?_)))
  rcases cnd h with ⟨ab, h⟩ | ⟨ab, h⟩
  ·refine WC.condT' z ab (sq (rg (wY (ya z) z (nl (th (rt (At.thenR ?_)))))))
   obtain rfl := some1 h
   have a7 : Stp [] (Lg.O0 A) w U I := (su_ l z)
   exact At.res (.inl z) z (.tmp z .nil) ⟨z, (se_ a7 z z)⟩
  ·refine WC.condF' z ab (sk (th (sq (sq (rg (wY (ym z) z (wY (Y.len ty35 z aa) z (wY (ym z) z (nl ?_)))))))))
   refine th (WC.block ?_)
   obtain ⟨aX, h, ac⟩ := flow1 h
   obtain ⟨aY, h⟩ := loop_some h
   refine WC.joinB 0 (σ := Own) (fun x w' => aX = .go () ∧ Stp [11] U I x w') (fun x => []) ?_ ?_
   ·refine WC.loop (σ := (Int × Own)) (fun x k w' => loopN k (label_Check_lp1 a1) x.1 = some aX ∧ Stp [11] U I x.2 w') (fun x => [(1, v1), (13, v1), (14, vi (a1.length : Int)), (15, vi x.1)]) (0, U) aY (.cons z (.cons z (.cons z (.cons z .nil)))) ⟨h, (sr_ _ _ _)⟩ ?_
    rintro ⟨t, aZ⟩ aY b8 ⟨h, m⟩
    obtain ⟨bK, cj, rfl, h, J⟩ := rnd1 h
    unfold label_Check_lp1 at h
    try dsimp only at h m
    refine (show WC _ _ _ _ [(1, v1), (13, v1), (14, vi (a1.length : Int)), (15, vi t)] _ from ?_)
    refine sq (rg (wY (Y.lss_i z z) z (nl (th (sq ?_)))))
    rcases cnd h with ⟨ad, h⟩ | ⟨ad, h⟩
    ·refine WC.condT' z ad (sk (th (sq (WC.block (sq (rg (wY (ym z) z ?_)))))))
     obtain ⟨p, a8, h⟩ := bnd h
     have am := aa.i m z z
     obtain ⟨ck, b0, b1, b9, a9, ba, bb, ae, ay, bc⟩ := Sl.at2 am a8
     obtain ⟨_, _, rfl, rfl, rfl⟩ := ay
     replace ae : CellsAt _ _ _ [vs p.Key, vs p.Val] := ae
     have az := CAt.imm ae bc
     refine wY (Y.indexAddr ty35 ty107 z a9 z ba bb) z (wY (yL ty107 z z az.at_ z) z (WL.alloc (O := aZ) 11 [vs [], vs []] ty107 z z ?_))
     intro e bL ca q bd
     refine wY (ya z) z (WL.store (v := ag [vs p.Key, vs p.Val]) (cells' := [vs p.Key, vs p.Val]) ty107 z z bd z (le_ z) z z ?_)
     intro cb r af
     refine nl (th (sq (sq (rg (wY (yf fo107_0 z) z (wY (yl ty9 z z (af.cell 0 _ z)) z ?_))))))
     obtain ⟨cl, bf, h⟩ := bnd h
     refine WL.call (vals := [vs p.Key]) kok67 z z (c_label_isName bf) ?_
     rintro cc bg ⟨rfl, bh⟩
     obtain ⟨an, bM, bO, n⟩ := adoptE bL (fun k => 1) bh
     refine wY (Y.not z) z (wY (ym z) z ?_)
     obtain ⟨bP, h, bi⟩ := bnd h
     refine WL.cut 5 (σ := (Bool × Own)) (fun x w' => x.1 = bP ∧ Stp [] an bg x.2 w') (fun x => [(1, v1), (5, vi t), (6, pt e 0), (13, v1), (14, vi (a1.length : Int)), (15, vi t), (29, vB x.1)]) ?_ ?_
     ·rcases cnd h with ⟨ah, h⟩ | ⟨ah, h⟩
      ·refine WL.ren 24 z (congrArg vB ah) (WL.gS z z z z (WL.gS z z z z (WL.gS z z z z (WL.gS z z z z (wY (Y.pick (b := true) z z) z ?_)))))
       exact nl (At.join (σ := (Bool × Own)) (true, an) ⟨some1 h, (sr_ _ _ _)⟩ (.cons z (.cons z (.cons z (.cons z (.cons z (.cons z (.cons z .nil))))))))
      ·refine WL.ren 24 z (congrArg vB ah) (ug z z (wY (yf fo107_1 z) z (ug z z ?_)))
       have bj := af.st n z
       refine wY (yl ty9 z z (bj.cell 1 _ z)) z (ug z z ?_)
       obtain ⟨bQ, bk, h⟩ := bnd h
       refine WL.call (vals := [vs p.Val]) kok68 z z (c_label_isValue bk) ?_
       rintro cd ce ⟨rfl, bl⟩
       obtain ⟨bR, bS, bT, aA⟩ := adoptE an (fun k => 1) bl
       refine ug z z (wY (Y.not z) z (wY (Y.pick (b := false) z z) z ?_))
       exact nl (At.join (σ := (Bool × Own)) ((!bQ), bR) ⟨some1 h, (su_ aA z)⟩ (.cons z (.cons z (.cons z (.cons z (.cons z (.cons z (.cons z .nil))))))))
     ·rintro ⟨bU, G⟩ C ⟨rfl, o⟩
      replace h := bi
      try dsimp only at h o
      refine (show WL _ _ _ _ _ [(1, v1), (5, vi t), (6, pt e 0), (13, v1), (14, vi (a1.length : Int)), (15, vi t), (29, vB bU)] _ from ?_)
      refine nl (th ?_)
      rcases cnd h with ⟨ai, h⟩ | ⟨ai, h⟩
      ·refine WC.condT' z ai (sq (rg (wY (ya z) z (nl (th (rt (At.thenR (At.inBlockR (At.thenR ?_)))))))))
       refine At.loopR ?_
       have h := outr1 h J ac
       refine At.joinBR (At.inBlockR (At.thenR ?_))
       obtain rfl := some1 h
       have bm : Stp [11] (Lg.O0 A) w G C := (tr_ (su_ l z) (tr_ (su_ m z) (tr_ (su_ q z) (tr_ (su_ r z) (tr_ (su_ n z) (su_ o z))))))
       exact At.res (.inl z) z (.tmp z .nil) ⟨z, (se_ bm z z)⟩
      ·refine WC.condF' z ai (sk (th (sq (rg (wY (ym z) z (wY (ym z) z ?_))))))
       obtain ⟨ao, bn, h⟩ := bnd h
       have bo := am.i q z z
       have bp := bo.i r z z
       have bq := bp.i n z z
       have br := bq.i o z z
       obtain ⟨H, bs, ap⟩ := Sl.slice (ρ := [(30, v1), (31, vi t)]) (x := (.tmp 30)) (lo := none) (hi := (some (.tmp 31))) ty35 ty107 rfl rfl rfl br bn
       refine wY (Y.sub (.cons z (.cons z .nil)) (bs _ _)) z (wY (Y.mkfunc (fv := []) (cv := [pt e 0]) z z) z ?_)
       obtain ⟨bt, h, aC⟩ := bnd h
       refine WL.callJ (vals := [H, Value.func (.func 70) (List.toArray []) (List.toArray [pt e 0])]) (σ := (Bool × Own)) (fun x w' => x.1 = bt ∧ Stp [] G C x.2 w') (fun x => vB x.1) kok69 z z ?_ ?_
       ·refine Rets.enter Try.func69 z z ?_
        refine (show WC _ _ _ _ [(0, H), (1, Value.func (.func 70) (List.toArray []) (List.toArray [pt e 0]))] _ from ?_)
        refine sq (rg (wY (ya z) z (nl (th (sq (rg (wY (ym z) z (wY (ym z) z ?_))))))))
        obtain ⟨bu, h, aD⟩ := bnd h
        refine WL.callJ (vals := [H, Value.func (.func 70) (List.toArray []) (List.toArray [pt e 0])]) (σ := (Int × Own)) (fun x w' => x.1 = bu ∧ Stp [] G C x.2 w') (fun x => vi x.1) kok94 z z ?_ ?_
        ·refine Rets.enter Try.func94 z z ?_
         refine (show WC _ _ _ _ [(0, H), (1, Value.func (.func 70) (List.toArray []) (List.toArray [pt e 0]))] _ from ?_)
         refine sq (rg (wY (ya z) z (nl (th (sq (sq (rg (wY (ym z) z (wY (Y.len ty35 z ap) z ?_)))))))))
         refine wY (ym z) z (nl (th (WC.block ?_)))
         obtain ⟨aq, h, al⟩ := flow1 h
         obtain ⟨ar, h⟩ := loop_some h
         refine WC.joinB 0 (σ := Own) (fun x w' => aq = .go () ∧ Stp [] G C x w') (fun x => []) ?_ ?_
         ·refine WC.loop (σ := (Int × Own)) (fun x k w' => loopN k (label_Check_lp2 p ao) x.1 = some aq ∧ Stp [] G C x.2 w') (fun x => [(0, H), (1, Value.func (.func 70) (List.toArray []) (List.toArray [pt e 0])), (7, vi (ao.length : Int)), (8, vi x.1)]) (0, G) ar (.cons z (.cons z (.cons z (.cons z .nil)))) ⟨h, (sr_ _ _ _)⟩ ?_
          rintro ⟨aj, ak⟩ ar aE ⟨h, d⟩
          obtain ⟨bw, cf, rfl, h, K⟩ := rnd1 h
          unfold label_Check_lp2 at h
          try dsimp only at h d
          refine (show WC _ _ _ _ [(0, H), (1, Value.func (.func 70) (List.toArray []) (List.toArray [pt e 0])), (7, vi (ao.length : Int)), (8, vi aj)] _ from ?_)
          refine sq (rg (wY (Y.lss_i z z) z (nl (th (sq ?_)))))
          rcases cnd h with ⟨L, h⟩ | ⟨L, h⟩
          ·refine WC.condT' z L (sk (th (sq (WC.block (sq (rg (wY (ym z) z (wY (ya z) z (nl ?_)))))))))
           refine th (sq (rg (wY (ym z) z (wY (ym z) z (wY (ym z) z ?_)))))
           obtain ⟨j, aF, h⟩ := bnd h
           have aG := ap.i d z z
           obtain ⟨cg, bW, bX, b2, aH, aI, aJ, M, au, aK⟩ := Sl.at2 aG aF
           obtain ⟨_, _, rfl, rfl, rfl⟩ := au
           replace M : CellsAt _ _ _ [vs j.Key, vs j.Val] := M
           have av := CAt.imm M aK
           refine wY (Y.indexAddr ty35 ty107 z aH z aI aJ) z (wY (yL ty107 z z av.at_ z) z ?_)
           obtain ⟨bx, h, aL⟩ := bnd h
           refine WL.callV (fv := []) (cv := [pt e 0]) (vals := [ag [vs j.Key, vs j.Val]]) (σ := (Bool × Own)) (fun x w' => x.1 = bx ∧ Stp [] ak aE x.2 w') (fun x => vB x.1) kok70 z z z ?_ ?_
           ·refine Rets.enter Try.func70 z z ?_
            refine (show WC _ _ _ _ [(0, ag [vs j.Key, vs j.Val]), (1, pt e 0)] _ from ?_)
            refine sq (rg (WL.box (O := ak) 12 [vs j.Key, vs j.Val] z z z ?_))
            intro ch bz b3 V aM
            refine wY (ya z) z (nl (th (sq (rg (wY (yf fo107_0 z) z (wY (yl ty9 z z (aM.cell 0 _ z)) z (wY (yf fo107_0 z) z ?_)))))))
            have aN := af.st n z
            have aO := aN.st o z
            have aP := aO.st d z
            have aQ := aP.st V z
            refine wY (yl ty9 z z (aQ.cell 0 _ z)) z (wY (Y.eql_s z z) z ?_)
            obtain ⟨bA, aR, h⟩ := lt1 h
            refine WL.yE (ya z) (congrArg vB aR.symm) z (nl (th (rt ?_)))
            exact At.res (.inl z) z (.tmp z .nil) ⟨(bA, bz), ⟨some1 h, (su_ V z)⟩, z⟩
           ·rintro ⟨bB, aw⟩ b4 ⟨rfl, D⟩
            replace h := aL
            try dsimp only at h D
            refine (show WL _ _ _ _ _ ((16, vB bB) :: _) _ from ?_)
            refine nl (th ?_)
            rcases cnd h with ⟨Q, h⟩ | ⟨Q, h⟩
            ·refine WC.condT' z Q (sq (rg (wY (ym z) z (wY (ya z) z (nl (th (rt (At.inBlockR (At.thenR ?_)))))))))
             refine At.loopR ?_
             have h := outr1 h K al
             refine At.joinBR (At.inBlockR (At.thenR ?_))
             exact At.res (.inl z) z (.tmp z .nil) ⟨(aj, aw), ⟨some1 h, (tr_ (su_ d z) (su_ D z))⟩, z⟩
            ·refine WC.condF' z Q (sk (At.inBlock (th (rg (wY (Y.add_i z z) z (wY (ym z) z (nl ?_)))))))
             exact At.round (w64 (aj + 1), aw) bw (Nat.lt_succ_self _) ⟨next1 h K, (tr_ (su_ d z) (su_ D z))⟩ (.cons z (.cons z (.cons z (.cons z .nil))))
          ·refine WC.condF' z L (WC.exit (At.thenX (At.loopX ?_)))
           exact At.hitB (σ := Own) ak ⟨brk1 h K, (su_ d z)⟩ .nil
         ·rintro bC b5 ⟨rfl, ax⟩
          replace h := flowK_go al
          refine (show At _ _ _ [] _ from ?_)
          refine At.inBlockHit (th (sq (rg (wY (ya z) z (nl (th (rt ?_)))))))
          exact At.res (.inl z) z (.tmp z .nil) ⟨((-1), bC), ⟨some1 h, (su_ ax z)⟩, z⟩
        ·rintro ⟨bD, bE⟩ b6 ⟨rfl, W⟩
         replace h := aD
         try dsimp only at h W
         refine (show WL _ _ _ _ _ ((7, vi bD) :: _) _ from ?_)
         refine wY (Y.geq_i z z) z ?_
         obtain ⟨bF, aS, h⟩ := lt1 h
         refine WL.yE (ya z) (congrArg vB aS.symm) z (nl (th (rt ?_)))
         exact At.res (.inl z) z (.tmp z .nil) ⟨(bF, bE), ⟨some1 h, (su_ W z)⟩, z⟩
       ·rintro ⟨bY, a2⟩ bG ⟨rfl, F⟩
        replace h := aC
        try dsimp only at h F
        refine (show WL _ _ _ _ _ ((34, vB bY) :: _) _ from ?_)
        refine nl (th ?_)
        rcases cnd h with ⟨T, h⟩ | ⟨T, h⟩
        ·refine WC.condT' z T (sq (rg (wY (ya z) z (nl (th (rt (At.inBlockR (At.thenR (At.loopR ?_)))))))))
         have h := outr1 h J ac
         refine At.joinBR (At.inBlockR (At.thenR ?_))
         obtain rfl := some1 h
         have aT : Stp [11] (Lg.O0 A) w a2 bG := (tr_ (su_ l z) (tr_ (su_ m z) (tr_ (su_ q z) (tr_ (su_ r z) (tr_ (su_ n z) (tr_ (su_ o z) (su_ F z)))))))
         exact At.res (.inl z) z (.tmp z .nil) ⟨z, (se_ aT z z)⟩
        ·refine WC.condF' z T (sk (At.inBlock (th (rg (wY (Y.add_i z z) z (wY (ym z) z (nl ?_)))))))
         exact At.round (w64 (t + 1), a2) bK (Nat.lt_succ_self _) ⟨next1 h J, (tr_ (su_ m z) (tr_ (su_ q z) (tr_ (su_ r z) (tr_ (su_ n z) (tr_ (su_ o z) (su_ F z))))))⟩ (.cons z (.cons z (.cons z (.cons z .nil))))
    ·refine WC.condF' z ad (WC.exit (At.thenX (At.loopX ?_)))
     exact At.hitB (σ := Own) aZ ⟨brk1 h J, (su_ m z)⟩ .nil
   ·rintro bZ bH ⟨rfl, aU⟩
    replace h := flowK_go ac
    refine (show At _ _ _ [] _ from ?_)
    refine At.inBlockHit (th (sq (rg (wY (ya z) z (nl (th (rt ?_)))))))
    obtain rfl := some1 h
    have aW : Stp [11] (Lg.O0 A) w bZ bH := (tr_ (su_ l z) (su_ aU z))
    exact At.res (.inl z) z (.tmp z .nil) ⟨z, (se_ aW z z)⟩
theorem c_point_kinds {A : Nat → Prop} {v0_1 : Value} {v0_13 : Value} {v0_15 : Value} {a0 : api_Point} {w : World} (hs0_1 : Sl rep_api_Pair w A v0_1 a0.Attrs) (hs0_13 : Sl Rep.u w A v0_13 a0.Hist.Pos.Counts) (hs0_15 : Sl Rep.u w A v0_15 a0.Hist.Neg.Counts) {r0 : Bool} (h : point_kinds a0 = some r0) : Rets Try.prog 36 [ag [vs a0.Name, v0_1, vi a0.Kind, vi a0.Temp, vB a0.Mono, vi a0.Start, vi a0.Time, vi a0.Int_, vu a0.Re, vu a0.Im, vi a0.Hist.Scale, vu a0.Hist.Zero, vi a0.Hist.Pos.Offset, v0_13, vi a0.Hist.Neg.Offset, v0_15, vi a0.Flags]] w (fun v w' => v = vB r0 ∧ Ext w w') := by
 unfold point_kinds at h
 refine Rets.enter Try.func36 z z ?_
 have C : Sl rep_api_Pair w (imm (Lg.O0 A)) v0_1 a0.Attrs := (Sl.start hs0_1)
 have D : Sl Rep.u w (imm (Lg.O0 A)) v0_13 a0.Hist.Pos.Counts := (Sl.start hs0_13)
 have F : Sl Rep.u w (imm (Lg.O0 A)) v0_15 a0.Hist.Neg.Counts := (Sl.start hs0_15)
 refine (show WC _ _ _ _ [(0, ag [vs a0.Name, v0_1, vi a0.Kind, vi a0.Temp, vB a0.Mono, vi a0.Start, vi a0.Time, vi a0.Int_, vu a0.Re, vu a0.Im, vi a0.Hist.Scale, vu a0.Hist.Zero, vi a0.Hist.Pos.Offset, v0_13, vi a0.Hist.Neg.Offset, v0_15, vi a0.Flags])] _ from ?_)
 refine sq (rg ?_)
 have G := h
 obtain ⟨ab, ac, ad, rfl⟩ := C.shape
 have h := G
 have H := h
 obtain ⟨ae, af, ah, rfl⟩ := D.shape
 have h := H
 have I := h
 obtain ⟨ai, aj, ak, rfl⟩ := F.shape
 have h := I
 refine WL.box (O := (Lg.O0 A)) 11 [vs a0.Name, (Value.slice ab ac ad), vi a0.Kind, vi a0.Temp, vB a0.Mono, vi a0.Start, vi a0.Time, vi a0.Int_, vu a0.Re, vu a0.Im, vi a0.Hist.Scale, vu a0.Hist.Zero, vi a0.Hist.Pos.Offset, (Value.slice ae af ah), vi a0.Hist.Neg.Offset, (Value.slice ai aj ak), vi a0.Flags] z z z ?_
 intro t r d e j
 refine wY (ya z) z (nl (th (sq (sq (rg (wY (yf fo37_2 z) z (wY (yl ty3 z z (j.cell 2 _ z)) z (nl (th ?_)))))))))
 refine WC.block (sq (rg (wY (Y.eql_i z z) z ?_)))
 obtain ⟨ar, J, h⟩ := lt1 h
 refine WL.yE (ya z) (congrArg vB J.symm) z (nl (th ?_))
 rcases cnd h with ⟨l, h⟩ | ⟨l, h⟩
 ·refine WC.condT' z l (sq (rg (wY (yf fo37_3 z) z (wY (yl ty3 z z (j.cell 3 _ z)) z (wY (Y.eql_i z z) z ?_)))))
  obtain ⟨au, K, h⟩ := lt1 h
  refine WL.yE (ya z) (congrArg vB K.symm) z (nl (th (rt (At.inBlockR (At.thenR ?_)))))
  obtain rfl := some1 h
  have L : Stp [] (Lg.O0 A) w r d := (su_ e z)
  exact At.res (.inl z) z (.tmp z .nil) ⟨z, (se_ L z z)⟩
 ·refine WC.condF' z l (sq ?_)
  obtain ⟨al, h, M⟩ := bnd h
  refine WC.join (σ := Bool) (fun x w' => x = al ∧ d = w') (fun x => [(1, pt t 0), (10, vB x)]) ?_ ?_
  ·refine sq (rg (wY (Y.eql_i z z) z ?_))
   obtain ⟨am, Q, h⟩ := lt1 h
   refine WL.yE (ya z) (congrArg vB Q.symm) z (nl (th ?_))
   rcases cnd h with ⟨m, h⟩ | ⟨m, h⟩
   ·refine WC.condT' z m (sk ?_)
    exact At.join (σ := Bool) am ⟨some1 h, z⟩ (.cons z (.cons z .nil))
   ·refine WC.condF' z m (sq (rg (wY (Y.eql_i z z) z ?_)))
    obtain ⟨an, T, h⟩ := lt1 h
    refine WL.yE (ya z) (congrArg vB T.symm) z (nl (th ?_))
    rcases cnd h with ⟨n, h⟩ | ⟨n, h⟩
    ·refine WC.condT' z n (sk ?_)
     exact At.join (σ := Bool) an ⟨some1 h, z⟩ (.cons z (.cons z .nil))
    ·refine WC.condF' z n (sq (rg (wY (Y.eql_i z z) z ?_)))
     obtain ⟨ao, U, h⟩ := lt1 h
     refine WL.yE (ya z) (congrArg vB U.symm) z (nl (th ?_))
     rcases cnd h with ⟨o, h⟩ | ⟨o, h⟩
     ·refine WC.condT' z o (sk ?_)
      exact At.join (σ := Bool) ao ⟨some1 h, z⟩ (.cons z (.cons z .nil))
     ·refine WC.condF' z o (rg (wY (Y.eql_i z z) z ?_))
      obtain ⟨ap, V, h⟩ := lt1 h
      refine WL.yE (ya z) (congrArg vB V.symm) z (nl ?_)
      exact At.join (σ := Bool) ap ⟨some1 h, z⟩ (.cons z (.cons z .nil))
  ·rintro aq _ ⟨rfl, rfl⟩
   replace h := M
   try dsimp only at h
   refine (show At _ _ _ [(1, pt t 0), (10, vB aq)] _ from ?_)
   refine th ?_
   rcases cnd h with ⟨p, h⟩ | ⟨p, h⟩
   ·refine WC.condT' z p (sq (rg (wY (yf fo37_3 z) z (wY (yl ty3 z z (j.cell 3 _ z)) z (wY (Y.eql_i z z) z (wY (ym z) z ?_))))))
    refine WL.cut 4 (σ := Unit) (fun _ w' => d = w') (fun _ => [(22, vB ((decide (a0.Temp = 1)) || (decide (a0.Temp = 2))))]) ?_ ?_
    ·refine WL.part 18 z (fun q => ?_) (fun q => ?_)
     ·refine WL.gS z z z z (WL.gS z z z z (WL.gS z z z z (wY (Y.pick (b := true) z z) z (WL.ren (v' := vB ((decide (a0.Temp = 1)) || (decide (a0.Temp = 2)))) 22 z (congrArg vB (orT q)) ?_))))
      exact nl (At.join () z (.cons z .nil))
     ·refine ug z z (wY (yf fo37_3 z) z (ug z z (wY (yl ty3 z z (j.cell 3 _ z)) z (ug z z (wY (Y.eql_i z z) z (wY (Y.pick (b := false) z z) z (WL.ren (v' := vB ((decide (a0.Temp = 1)) || (decide (a0.Temp = 2)))) 22 z (congrArg vB (orF q)) ?_)))))))
      exact nl (At.join () z (.cons z .nil))
    ·rintro _ _ rfl
     refine (show WL _ _ _ _ _ [(22, vB ((decide (a0.Temp = 1)) || (decide (a0.Temp = 2))))] _ from ?_)
     obtain ⟨av, W, h⟩ := lt1 h
     refine WL.yE (ya z) (congrArg vB W.symm) z (nl (th (rt (At.inBlockR (At.thenR ?_)))))
     obtain rfl := some1 h
     have Z : Stp [] (Lg.O0 A) w r d := (su_ e z)
     exact At.res (.inl z) z (.tmp z .nil) ⟨z, (se_ Z z z)⟩
   ·refine WC.condF' z p (sk (At.inBlock (th (sq (rg (wY (ya z) z (nl (th (rt ?_)))))))))
    obtain rfl := some1 h
    have aa : Stp [] (Lg.O0 A) w r d := (su_ e z)
    exact At.res (.inl z) z (.tmp z .nil) ⟨z, (se_ aa z z)⟩
theorem c_point_sum {A : Nat → Prop} {v0_1 : Value} {v0_13 : Value} {v0_15 : Value} {a0 : api_Point} {w : World} (hs0_1 : Sl rep_api_Pair w A v0_1 a0.Attrs) (hs0_13 : Sl Rep.u w A v0_13 a0.Hist.Pos.Counts) (hs0_15 : Sl Rep.u w A v0_15 a0.Hist.Neg.Counts) {r0 : Bool} (h : point_sum a0 = some r0) : Rets Try.prog 37 [ag [vs a0.Name, v0_1, vi a0.Kind, vi a0.Temp, vB a0.Mono, vi a0.Start, vi a0.Time, vi a0.Int_, vu a0.Re, vu a0.Im, vi a0.Hist.Scale, vu a0.Hist.Zero, vi a0.Hist.Pos.Offset, v0_13, vi a0.Hist.Neg.Offset, v0_15, vi a0.Flags]] w (fun v w' => v = vB r0 ∧ Ext w w') := by
 unfold point_sum at h
 refine Rets.enter Try.func37 z z ?_
 have m : Sl rep_api_Pair w (imm (Lg.O0 A)) v0_1 a0.Attrs := (Sl.start hs0_1)
 have n : Sl Rep.u w (imm (Lg.O0 A)) v0_13 a0.Hist.Pos.Counts := (Sl.start hs0_13)
 have o : Sl Rep.u w (imm (Lg.O0 A)) v0_15 a0.Hist.Neg.Counts := (Sl.start hs0_15)
 refine (show WC _ _ _ _ [(0, ag [vs a0.Name, v0_1, vi a0.Kind, vi a0.Temp, vB a0.Mono, vi a0.Start, vi a0.Time, vi a0.Int_, vu a0.Re, vu a0.Im, vi a0.Hist.Scale, vu a0.Hist.Zero, vi a0.Hist.Pos.Offset, v0_13, vi a0.Hist.Neg.Offset, v0_15, vi a0.Flags])] _ from ?_)
 refine sq (rg ?_)
 have p := h
 obtain ⟨D, F, G, rfl⟩ := m.shape
 have h := p
 have q := h
 obtain ⟨H, I, J, rfl⟩ := n.shape
 have h := q
 have r := h
 obtain ⟨K, L, M, rfl⟩ := o.shape
 have h := r
 refine WL.box (O := (Lg.O0 A)) 11 [vs a0.Name, (Value.slice D F G), vi a0.Kind, vi a0.Temp, vB a0.Mono, vi a0.Start, vi a0.Time, vi a0.Int_, vu a0.Re, vu a0.Im, vi a0.Hist.Scale, vu a0.Hist.Zero, vi a0.Hist.Pos.Offset, (Value.slice H I J), vi a0.Hist.Neg.Offset, (Value.slice K L M), vi a0.Flags] z z z ?_
 intro T Q e l j
 refine wY (ya z) z (nl (th (sq (rg (wY (yf fo37_2 z) z (wY (yl ty3 z z (j.cell 2 _ z)) z (wY (Y.eql_i z z) z (wY (ym z) z ?_))))))))
 refine WL.cut 4 (σ := Unit) (fun _ w' => e = w') (fun _ => [(10, vB ((decide (a0.Kind = 1)) || (decide (a0.Kind = 2))))]) ?_ ?_
 ·refine WL.part 6 z (fun d => ?_) (fun d => ?_)
  ·refine WL.gS z z z z (WL.gS z z z z (WL.gS z z z z (wY (Y.pick (b := true) z z) z (WL.ren (v' := vB ((decide (a0.Kind = 1)) || (decide (a0.Kind = 2)))) 10 z (congrArg vB (orT d)) ?_))))
   exact nl (At.join () z (.cons z .nil))
  ·refine ug z z (wY (yf fo37_2 z) z (ug z z (wY (yl ty3 z z (j.cell 2 _ z)) z (ug z z (wY (Y.eql_i z z) z (wY (Y.pick (b := false) z z) z (WL.ren (v' := vB ((decide (a0.Kind = 1)) || (decide (a0.Kind = 2)))) 10 z (congrArg vB (orF d)) ?_)))))))
   exact nl (At.join () z (.cons z .nil))
 ·rintro _ _ rfl
  refine (show WL _ _ _ _ _ [(10, vB ((decide (a0.Kind = 1)) || (decide (a0.Kind = 2))))] _ from ?_)
  obtain ⟨U, t, h⟩ := lt1 h
  refine WL.yE (ya z) (congrArg vB t.symm) z (nl (th (rt ?_)))
  obtain rfl := some1 h
  have C : Stp [] (Lg.O0 A) w Q e := (su_ l z)
  exact At.res (.inl z) z (.tmp z .nil) ⟨z, (se_ C z z)⟩
theorem c_point_times {A : Nat → Prop} {v0_1 : Value} {v0_13 : Value} {v0_15 : Value} {a0 : api_Point} {w : World} (hs0_1 : Sl rep_api_Pair w A v0_1 a0.Attrs) (hs0_13 : Sl Rep.u w A v0_13 a0.Hist.Pos.Counts) (hs0_15 : Sl Rep.u w A v0_15 a0.Hist.Neg.Counts) {r0 : Bool} (h : point_times a0 = some r0) : Rets Try.prog 38 [ag [vs a0.Name, v0_1, vi a0.Kind, vi a0.Temp, vB a0.Mono, vi a0.Start, vi a0.Time, vi a0.Int_, vu a0.Re, vu a0.Im, vi a0.Hist.Scale, vu a0.Hist.Zero, vi a0.Hist.Pos.Offset, v0_13, vi a0.Hist.Neg.Offset, v0_15, vi a0.Flags]] w (fun v w' => v = vB r0 ∧ Ext w w') := by
 unfold point_times at h
 refine Rets.enter Try.func38 z z ?_
 have q : Sl rep_api_Pair w (imm (Lg.O0 A)) v0_1 a0.Attrs := (Sl.start hs0_1)
 have r : Sl Rep.u w (imm (Lg.O0 A)) v0_13 a0.Hist.Pos.Counts := (Sl.start hs0_13)
 have t : Sl Rep.u w (imm (Lg.O0 A)) v0_15 a0.Hist.Neg.Counts := (Sl.start hs0_15)
 refine (show WC _ _ _ _ [(0, ag [vs a0.Name, v0_1, vi a0.Kind, vi a0.Temp, vB a0.Mono, vi a0.Start, vi a0.Time, vi a0.Int_, vu a0.Re, vu a0.Im, vi a0.Hist.Scale, vu a0.Hist.Zero, vi a0.Hist.Pos.Offset, v0_13, vi a0.Hist.Neg.Offset, v0_15, vi a0.Flags])] _ from ?_)
 refine sq (rg ?_)
 have C := h
 obtain ⟨L, M, Q, rfl⟩ := q.shape
 have h := C
 have D := h
 obtain ⟨T, U, V, rfl⟩ := r.shape
 have h := D
 have F := h
 obtain ⟨W, Z, aa, rfl⟩ := t.shape
 have h := F
 refine WL.box (O := (Lg.O0 A)) 11 [vs a0.Name, (Value.slice L M Q), vi a0.Kind, vi a0.Temp, vB a0.Mono, vi a0.Start, vi a0.Time, vi a0.Int_, vu a0.Re, vu a0.Im, vi a0.Hist.Scale, vu a0.Hist.Zero, vi a0.Hist.Pos.Offset, (Value.slice T U V), vi a0.Hist.Neg.Offset, (Value.slice W Z aa), vi a0.Flags] z z z ?_
 intro p o e j d
 refine wY (ya z) z (nl (th (sq (sq (rg (wY (yf fo37_5 z) z (wY (yl ty3 z z (d.cell 5 _ z)) z (wY (Y.lss_i z z) z (wY (ym z) z ?_)))))))))
 refine WL.cut 4 (σ := Unit) (fun _ w' => e = w') (fun _ => [(1, pt p 0), (10, vB ((decide (a0.Start < 0)) || (decide (4503599627370496 < a0.Time))))]) ?_ ?_
 ·refine WL.part 6 z (fun l => ?_) (fun l => ?_)
  ·refine WL.gS z z z z (WL.gS z z z z (WL.gS z z z z (wY (Y.pick (b := true) z z) z (WL.ren (v' := vB ((decide (a0.Start < 0)) || (decide (4503599627370496 < a0.Time)))) 10 z (congrArg vB (orT l)) ?_))))
   exact nl (At.join () z (.cons z (.cons z .nil)))
  ·refine ug z z (wY (yf fo37_6 z) z (ug z z (wY (yl ty3 z z (d.cell 6 _ z)) z (ug z z (wY (Y.gtr_i z z) z (wY (Y.pick (b := false) z z) z (WL.ren (v' := vB ((decide (a0.Start < 0)) || (decide (4503599627370496 < a0.Time)))) 10 z (congrArg vB (orF l)) ?_)))))))
   exact nl (At.join () z (.cons z (.cons z .nil)))
 ·rintro _ _ rfl
  refine (show WL _ _ _ _ _ [(1, pt p 0), (10, vB ((decide (a0.Start < 0)) || (decide (4503599627370496 < a0.Time))))] _ from ?_)
  refine nl (th ?_)
  rcases cnd h with ⟨m, h⟩ | ⟨m, h⟩
  ·refine WC.condT' z m (sq (rg (wY (ya z) z (nl (th (rt (At.thenR ?_)))))))
   obtain rfl := some1 h
   have G : Stp [] (Lg.O0 A) w o e := (su_ j z)
   exact At.res (.inl z) z (.tmp z .nil) ⟨z, (se_ G z z)⟩
  ·refine WC.condF' z m (sk (th (sq (sq (rg (wY (yf fo37_2 z) z (wY (yl ty3 z z (d.cell 2 _ z)) z (wY (Y.eql_i z z) z (nl ?_)))))))))
   refine th ?_
   rcases cnd h with ⟨n, h⟩ | ⟨n, h⟩
   ·refine WC.condT' z n (sq (rg (wY (yf fo37_5 z) z (wY (yl ty3 z z (d.cell 5 _ z)) z (wY (yf fo37_6 z) z (wY (yl ty3 z z (d.cell 6 _ z)) z (wY (Y.eql_i z z) z ?_)))))))
    obtain ⟨ab, H, h⟩ := lt1 h
    refine WL.yE (ya z) (congrArg vB H.symm) z (nl (th (rt (At.thenR ?_))))
    obtain rfl := some1 h
    have I : Stp [] (Lg.O0 A) w o e := (su_ j z)
    exact At.res (.inl z) z (.tmp z .nil) ⟨z, (se_ I z z)⟩
   ·refine WC.condF' z n (sk (th (sq (rg (wY (yf fo37_5 z) z (wY (yl ty3 z z (d.cell 5 _ z)) z (wY (yf fo37_6 z) z (wY (yl ty3 z z (d.cell 6 _ z)) z (wY (Y.lss_i z z) z ?_)))))))))
    obtain ⟨ac, J, h⟩ := lt1 h
    refine WL.yE (ya z) (congrArg vB J.symm) z (nl (th (rt ?_)))
    obtain rfl := some1 h
    have K : Stp [] (Lg.O0 A) w o e := (su_ j z)
    exact At.res (.inl z) z (.tmp z .nil) ⟨z, (se_ K z z)⟩
theorem c_point_bare {A : Nat → Prop} {v0_3 : Value} {v0_5 : Value} {a0 : api_Hist} {w : World} (hs0_3 : Sl Rep.u w A v0_3 a0.Pos.Counts) (hs0_5 : Sl Rep.u w A v0_5 a0.Neg.Counts) {r0 : Bool} (h : point_bare a0 = some r0) : Rets Try.prog 71 [ag [vi a0.Scale, vu a0.Zero, vi a0.Pos.Offset, v0_3, vi a0.Neg.Offset, v0_5]] w (fun v w' => v = vB r0 ∧ Ext w w') := by
 unfold point_bare at h
 refine Rets.enter Try.func71 z z ?_
 have q : Sl Rep.u w (imm (Lg.O0 A)) v0_3 a0.Pos.Counts := (Sl.start hs0_3)
 have r : Sl Rep.u w (imm (Lg.O0 A)) v0_5 a0.Neg.Counts := (Sl.start hs0_5)
 refine (show WC _ _ _ _ [(0, ag [vi a0.Scale, vu a0.Zero, vi a0.Pos.Offset, v0_3, vi a0.Neg.Offset, v0_5])] _ from ?_)
 refine sq (rg ?_)
 have t := h
 obtain ⟨I, J, K, rfl⟩ := q.shape
 have h := t
 have C := h
 obtain ⟨L, M, Q, rfl⟩ := r.shape
 have h := C
 refine WL.box (O := (Lg.O0 A)) 11 [vi a0.Scale, vu a0.Zero, vi a0.Pos.Offset, (Value.slice I J K), vi a0.Neg.Offset, (Value.slice L M Q)] z z z ?_
 intro j T e l d
 refine wY (ya z) z (nl (th (sq (rg (wY (yf fo30_0 z) z (wY (yl ty3 z z (d.cell 0 _ z)) z (wY (Y.eql_i z z) z (wY (ym z) z ?_))))))))
 refine WL.cut 4 (σ := Unit) (fun _ w' => e = w') (fun _ => [(1, pt j 0), (10, vB ((decide (a0.Scale = 0)) && (decide (a0.Zero = 0))))]) ?_ ?_
 ·refine WL.part 6 z (fun m => ?_) (fun m => ?_)
  ·refine ug z z (wY (yf fo30_1 z) z (ug z z (wY (yl ty25 z z (d.cell 1 _ z)) z (ug z z (wY (Y.eql_u (b := 0) z z) z (wY (Y.pick (b := true) z z) z (WL.ren (v' := vB ((decide (a0.Scale = 0)) && (decide (a0.Zero = 0)))) 10 z (congrArg vB (andT m)) ?_)))))))
   exact nl (At.join () z (.cons z (.cons z .nil)))
  ·refine WL.gS z z z z (WL.gS z z z z (WL.gS z z z z (wY (Y.pick (b := false) z z) z (WL.ren (v' := vB ((decide (a0.Scale = 0)) && (decide (a0.Zero = 0)))) 10 z (congrArg vB (andF m)) ?_))))
   exact nl (At.join () z (.cons z (.cons z .nil)))
 ·rintro _ _ rfl
  refine (show WL _ _ _ _ _ [(1, pt j 0), (10, vB ((decide (a0.Scale = 0)) && (decide (a0.Zero = 0))))] _ from ?_)
  refine wY (ym z) z ?_
  refine WL.cut 5 (σ := Unit) (fun _ w' => e = w') (fun _ => [(1, pt j 0), (16, vB (((decide (a0.Scale = 0)) && (decide (a0.Zero = 0))) && (decide (a0.Pos.Offset = 0))))]) ?_ ?_
  ·refine WL.part 11 z (fun n => ?_) (fun n => ?_)
   ·refine ug z z (wY (yf fo30_2 z) z (ug z z (wY (yf fo28_0 z) z (ug z z (wY (yl ty3 z z (d.cell 2 _ z)) z (ug z z (wY (Y.eql_i z z) z (wY (Y.pick (b := true) z z) z (WL.ren (v' := vB (((decide (a0.Scale = 0)) && (decide (a0.Zero = 0))) && (decide (a0.Pos.Offset = 0)))) 16 z (congrArg vB (andT n)) ?_)))))))))
    exact nl (At.join () z (.cons z (.cons z .nil)))
   ·refine WL.gS z z z z (WL.gS z z z z (WL.gS z z z z (WL.gS z z z z (wY (Y.pick (b := false) z z) z (WL.ren (v' := vB (((decide (a0.Scale = 0)) && (decide (a0.Zero = 0))) && (decide (a0.Pos.Offset = 0)))) 16 z (congrArg vB (andF n)) ?_)))))
    exact nl (At.join () z (.cons z (.cons z .nil)))
  ·rintro _ _ rfl
   refine (show WL _ _ _ _ _ [(1, pt j 0), (16, vB (((decide (a0.Scale = 0)) && (decide (a0.Zero = 0))) && (decide (a0.Pos.Offset = 0))))] _ from ?_)
   refine wY (ym z) z ?_
   refine WL.cut 5 (σ := Unit) (fun _ w' => e = w') (fun _ => [(1, pt j 0), (22, vB ((((decide (a0.Scale = 0)) && (decide (a0.Zero = 0))) && (decide (a0.Pos.Offset = 0))) && (decide (a0.Neg.Offset = 0))))]) ?_ ?_
   ·refine WL.part 17 z (fun o => ?_) (fun o => ?_)
    ·refine ug z z (wY (yf fo30_3 z) z (ug z z (wY (yf fo28_0 z) z (ug z z (wY (yl ty3 z z (d.cell 4 _ z)) z (ug z z (wY (Y.eql_i z z) z (wY (Y.pick (b := true) z z) z (WL.ren (v' := vB ((((decide (a0.Scale = 0)) && (decide (a0.Zero = 0))) && (decide (a0.Pos.Offset = 0))) && (decide (a0.Neg.Offset = 0)))) 22 z (congrArg vB (andT o)) ?_)))))))))
     exact nl (At.join () z (.cons z (.cons z .nil)))
    ·refine WL.gS z z z z (WL.gS z z z z (WL.gS z z z z (WL.gS z z z z (wY (Y.pick (b := false) z z) z (WL.ren (v' := vB ((((decide (a0.Scale = 0)) && (decide (a0.Zero = 0))) && (decide (a0.Pos.Offset = 0))) && (decide (a0.Neg.Offset = 0)))) 22 z (congrArg vB (andF o)) ?_)))))
     exact nl (At.join () z (.cons z (.cons z .nil)))
   ·rintro _ _ rfl
    refine (show WL _ _ _ _ _ [(1, pt j 0), (22, vB ((((decide (a0.Scale = 0)) && (decide (a0.Zero = 0))) && (decide (a0.Pos.Offset = 0))) && (decide (a0.Neg.Offset = 0))))] _ from ?_)
    refine wY (ym z) z ?_
    refine WL.cut 11 (σ := Unit) (fun _ w' => e = w') (fun _ => [(34, vB (((((decide (a0.Scale = 0)) && (decide (a0.Zero = 0))) && (decide (a0.Pos.Offset = 0))) && (decide (a0.Neg.Offset = 0))) && (decide (w64 ((a0.Pos.Counts.length : Int) + (a0.Neg.Counts.length : Int)) = 0))))]) ?_ ?_
    ·refine WL.part 23 z (fun p => ?_) (fun p => ?_)
     ·refine ug z z (wY (yf fo30_2 z) z (ug z z (wY (yf fo28_1 z) z (ug z z (wY (yl ty26 z z (d.cell 3 _ z)) z (ug z z ?_))))))
      have D := q.i l z z
      refine wY (Y.len ty26 z D) z (ug z z (wY (yf fo30_3 z) z (ug z z (wY (yf fo28_1 z) z (ug z z (wY (yl ty26 z z (d.cell 5 _ z)) z (ug z z ?_)))))))
      have F := r.i l z z
      refine wY (Y.len ty26 z F) z (ug z z (wY (Y.add_i z z) z (ug z z (wY (Y.eql_i z z) z (wY (Y.pick (b := true) z z) z (WL.ren (v' := vB (((((decide (a0.Scale = 0)) && (decide (a0.Zero = 0))) && (decide (a0.Pos.Offset = 0))) && (decide (a0.Neg.Offset = 0))) && (decide (w64 ((a0.Pos.Counts.length : Int) + (a0.Neg.Counts.length : Int)) = 0)))) 34 z (congrArg vB (andT p)) ?_))))))
      exact nl (At.join () z (.cons z .nil))
     ·refine WL.gS z z z z (WL.gS z z z z (WL.gS z z z z (WL.gS z z z z (WL.gS z z z z (WL.gS z z z z (WL.gS z z z z (WL.gS z z z z (WL.gS z z z z (WL.gS z z z z ?_)))))))))
      refine wY (Y.pick (b := false) z z) z (WL.ren (v' := vB (((((decide (a0.Scale = 0)) && (decide (a0.Zero = 0))) && (decide (a0.Pos.Offset = 0))) && (decide (a0.Neg.Offset = 0))) && (decide (w64 ((a0.Pos.Counts.length : Int) + (a0.Neg.Counts.length : Int)) = 0)))) 34 z (congrArg vB (andF p)) ?_)
      exact nl (At.join () z (.cons z .nil))
    ·rintro _ _ rfl
     refine (show WL _ _ _ _ _ [(34, vB (((((decide (a0.Scale = 0)) && (decide (a0.Zero = 0))) && (decide (a0.Pos.Offset = 0))) && (decide (a0.Neg.Offset = 0))) && (decide (w64 ((a0.Pos.Counts.length : Int) + (a0.Neg.Counts.length : Int)) = 0))))] _ from ?_)
     obtain ⟨U, G, h⟩ := lt1 h
     refine WL.yE (ya z) (congrArg vB G.symm) z (nl (th (rt ?_)))
     obtain rfl := some1 h
     have H : Stp [] (Lg.O0 A) w T e := (su_ l z)
     exact At.res (.inl z) z (.tmp z .nil) ⟨z, (se_ H z z)⟩
theorem c_point_own {A : Nat → Prop} {v0_1 : Value} {v0_13 : Value} {v0_15 : Value} {a0 : api_Point} {w : World} (hs0_1 : Sl rep_api_Pair w A v0_1 a0.Attrs) (hs0_13 : Sl Rep.u w A v0_13 a0.Hist.Pos.Counts) (hs0_15 : Sl Rep.u w A v0_15 a0.Hist.Neg.Counts) {r0 : Bool} (h : point_own a0 = some r0) : Rets Try.prog 39 [ag [vs a0.Name, v0_1, vi a0.Kind, vi a0.Temp, vB a0.Mono, vi a0.Start, vi a0.Time, vi a0.Int_, vu a0.Re, vu a0.Im, vi a0.Hist.Scale, vu a0.Hist.Zero, vi a0.Hist.Pos.Offset, v0_13, vi a0.Hist.Neg.Offset, v0_15, vi a0.Flags]] w (fun v w' => v = vB r0 ∧ Ext w w') := by
 unfold point_own at h
 refine Rets.enter Try.func39 z z ?_
 have ak : Sl rep_api_Pair w (imm (Lg.O0 A)) v0_1 a0.Attrs := (Sl.start hs0_1)
 have Z : Sl Rep.u w (imm (Lg.O0 A)) v0_13 a0.Hist.Pos.Counts := (Sl.start hs0_13)
 have aa : Sl Rep.u w (imm (Lg.O0 A)) v0_15 a0.Hist.Neg.Counts := (Sl.start hs0_15)
 refine (show WC _ _ _ _ [(0, ag [vs a0.Name, v0_1, vi a0.Kind, vi a0.Temp, vB a0.Mono, vi a0.Start, vi a0.Time, vi a0.Int_, vu a0.Re, vu a0.Im, vi a0.Hist.Scale, vu a0.Hist.Zero, vi a0.Hist.Pos.Offset, v0_13, vi a0.Hist.Neg.Offset, v0_15, vi a0.Flags])] _ from ?_)
 refine sq (rg ?_)
 have al := h
 obtain ⟨aK, aL, aM, rfl⟩ := ak.shape
 have h := al
 have am := h
 obtain ⟨ab, ac, ad, rfl⟩ := Z.shape
 have h := am
 have an := h
 obtain ⟨ae, af, ah, rfl⟩ := aa.shape
 have h := an
 refine WL.box (O := (Lg.O0 A)) 11 [vs a0.Name, (Value.slice aK aL aM), vi a0.Kind, vi a0.Temp, vB a0.Mono, vi a0.Start, vi a0.Time, vi a0.Int_, vu a0.Re, vu a0.Im, vi a0.Hist.Scale, vu a0.Hist.Zero, vi a0.Hist.Pos.Offset, (Value.slice ab ac ad), vi a0.Hist.Neg.Offset, (Value.slice ae af ah), vi a0.Flags] z z z ?_
 intro m o e d l
 refine wY (ya z) z (nl (th (sq (rg (wY (yf fo37_2 z) z (wY (yl ty3 z z (l.cell 2 _ z)) z (wY (Y.eql_i z z) z (wY (ym z) z ?_))))))))
 refine WL.cut 4 (σ := Unit) (fun _ w' => e = w') (fun _ => [(1, pt m 0), (11, vB ((decide (a0.Kind = 2)) || (decide (a0.Kind = 3))))]) ?_ ?_
 ·refine WL.part 7 z (fun q => ?_) (fun q => ?_)
  ·refine WL.gS z z z z (WL.gS z z z z (WL.gS z z z z (wY (Y.pick (b := true) z z) z (WL.ren (v' := vB ((decide (a0.Kind = 2)) || (decide (a0.Kind = 3)))) 11 z (congrArg vB (orT q)) ?_))))
   exact nl (At.join () z (.cons z (.cons z .nil)))
  ·refine ug z z (wY (yf fo37_2 z) z (ug z z (wY (yl ty3 z z (l.cell 2 _ z)) z (ug z z (wY (Y.eql_i z z) z (wY (Y.pick (b := false) z z) z (WL.ren (v' := vB ((decide (a0.Kind = 2)) || (decide (a0.Kind = 3)))) 11 z (congrArg vB (orF q)) ?_)))))))
   exact nl (At.join () z (.cons z (.cons z .nil)))
 ·rintro _ _ rfl
  refine (show WL _ _ _ _ _ [(1, pt m 0), (11, vB ((decide (a0.Kind = 2)) || (decide (a0.Kind = 3))))] _ from ?_)
  refine wY (ym z) z ?_
  refine WL.cut 4 (σ := Unit) (fun _ w' => e = w') (fun _ => [(1, pt m 0), (16, vB (((decide (a0.Kind = 2)) || (decide (a0.Kind = 3))) || (decide (a0.Kind = 5))))]) ?_ ?_
  ·refine WL.part 12 z (fun r => ?_) (fun r => ?_)
   ·refine WL.gS z z z z (WL.gS z z z z (WL.gS z z z z (wY (Y.pick (b := true) z z) z (WL.ren (v' := vB (((decide (a0.Kind = 2)) || (decide (a0.Kind = 3))) || (decide (a0.Kind = 5)))) 16 z (congrArg vB (orT r)) ?_))))
    exact nl (At.join () z (.cons z (.cons z .nil)))
   ·refine ug z z (wY (yf fo37_2 z) z (ug z z (wY (yl ty3 z z (l.cell 2 _ z)) z (ug z z (wY (Y.eql_i z z) z (wY (Y.pick (b := false) z z) z (WL.ren (v' := vB (((decide (a0.Kind = 2)) || (decide (a0.Kind = 3))) || (decide (a0.Kind = 5)))) 16 z (congrArg vB (orF r)) ?_)))))))
    exact nl (At.join () z (.cons z (.cons z .nil)))
  ·rintro _ _ rfl
   refine (show WL _ _ _ _ _ [(1, pt m 0), (16, vB (((decide (a0.Kind = 2)) || (decide (a0.Kind = 3))) || (decide (a0.Kind = 5))))] _ from ?_)
   obtain ⟨j, t, h⟩ := lt1 h
   refine WL.yE (ya z) (congrArg vB t.symm) z (nl (th (sq (WC.block (sq (sq (rg (wY (yf fo37_2 z) z (wY (yl ty3 z z (l.cell 2 _ z)) z ?_)))))))))
   refine wY (Y.neq_i z z) z (wY (ym z) z ?_)
   refine WL.cut 4 (σ := Unit) (fun _ w' => e = w') (fun _ => [(1, pt m 0), (3, vB j), (25, vB ((!decide (a0.Kind = 1)) && (!decide (a0.Int_ = 0))))]) ?_ ?_
   ·refine WL.part 21 z (fun C => ?_) (fun C => ?_)
    ·refine ug z z (wY (yf fo37_7 z) z (ug z z (wY (yl ty3 z z (l.cell 7 _ z)) z (ug z z (wY (Y.neq_i z z) z (wY (Y.pick (b := true) z z) z (WL.ren (v' := vB ((!decide (a0.Kind = 1)) && (!decide (a0.Int_ = 0)))) 25 z (congrArg vB (andT C)) ?_)))))))
     exact nl (At.join () z (.cons z (.cons z (.cons z .nil))))
    ·refine WL.gS z z z z (WL.gS z z z z (WL.gS z z z z (wY (Y.pick (b := false) z z) z (WL.ren (v' := vB ((!decide (a0.Kind = 1)) && (!decide (a0.Int_ = 0)))) 25 z (congrArg vB (andF C)) ?_))))
     exact nl (At.join () z (.cons z (.cons z (.cons z .nil))))
   ·rintro _ _ rfl
    refine (show WL _ _ _ _ _ [(1, pt m 0), (3, vB j), (25, vB ((!decide (a0.Kind = 1)) && (!decide (a0.Int_ = 0))))] _ from ?_)
    obtain ⟨aW, ao, h⟩ := lt1 h
    refine WL.yE (ya z) (congrArg vB ao.symm) z (nl (th ?_))
    rcases cnd h with ⟨D, h⟩ | ⟨D, h⟩
    ·refine WC.condT' z D (sk (th ?_))
     rcases cnd h with ⟨F, h⟩ | ⟨F, h⟩
     ·refine WC.condT' z F (sq (rg (wY (ya z) z (nl (th (rt (At.inBlockR (At.thenR ?_))))))))
      obtain rfl := some1 h
      have ap : Stp [] (Lg.O0 A) w o e := (su_ d z)
      exact At.res (.inl z) z (.tmp z .nil) ⟨z, (se_ ap z z)⟩
     ·refine WC.condF' z F (sk (At.inBlock (th (sq (rg (wY (ya z) z (nl (th (rt ?_)))))))))
      obtain rfl := some1 h
      have aq : Stp [] (Lg.O0 A) w o e := (su_ d z)
      exact At.res (.inl z) z (.tmp z .nil) ⟨z, (se_ aq z z)⟩
    ·refine WC.condF' z D (sq (rg (wY (ym z) z (wY (Y.not z) z (wY (ym z) z ?_)))))
     refine WL.cut 4 (σ := Unit) (fun _ w' => e = w') (fun _ => [(1, pt m 0), (32, vB ((!j) && (!decide (a0.Re = 0))))]) ?_ ?_
     ·refine WL.part 28 z (fun G => ?_) (fun G => ?_)
      ·refine ug z z (wY (yf fo37_8 z) z (ug z z (wY (yl ty25 z z (l.cell 8 _ z)) z (ug z z (wY (Y.neq_u (b := 0) z z) z (wY (Y.pick (b := true) z z) z (WL.ren (v' := vB ((!j) && (!decide (a0.Re = 0)))) 32 z (congrArg vB (andT G)) ?_)))))))
       exact nl (At.join () z (.cons z (.cons z .nil)))
      ·refine WL.gS z z z z (WL.gS z z z z (WL.gS z z z z (wY (Y.pick (b := false) z z) z (WL.ren (v' := vB ((!j) && (!decide (a0.Re = 0)))) 32 z (congrArg vB (andF G)) ?_))))
       exact nl (At.join () z (.cons z (.cons z .nil)))
     ·rintro _ _ rfl
      refine (show WL _ _ _ _ _ [(1, pt m 0), (32, vB ((!j) && (!decide (a0.Re = 0))))] _ from ?_)
      obtain ⟨aX, ar, h⟩ := lt1 h
      refine WL.yE (ya z) (congrArg vB ar.symm) z (nl (th ?_))
      rcases cnd h with ⟨H, h⟩ | ⟨H, h⟩
      ·refine WC.condT' z H (sk (th ?_))
       rcases cnd h with ⟨I, h⟩ | ⟨I, h⟩
       ·refine WC.condT' z I (sq (rg (wY (ya z) z (nl (th (rt (At.inBlockR (At.thenR ?_))))))))
        obtain rfl := some1 h
        have au : Stp [] (Lg.O0 A) w o e := (su_ d z)
        exact At.res (.inl z) z (.tmp z .nil) ⟨z, (se_ au z z)⟩
       ·refine WC.condF' z I (sk (At.inBlock (th (sq (rg (wY (ya z) z (nl (th (rt ?_)))))))))
        obtain rfl := some1 h
        have av : Stp [] (Lg.O0 A) w o e := (su_ d z)
        exact At.res (.inl z) z (.tmp z .nil) ⟨z, (se_ av z z)⟩
      ·refine WC.condF' z H (sq (rg (wY (yf fo37_2 z) z (wY (yl ty3 z z (l.cell 2 _ z)) z (wY (Y.neq_i z z) z (wY (ym z) z ?_))))))
       refine WL.cut 4 (σ := Unit) (fun _ w' => e = w') (fun _ => [(1, pt m 0), (40, vB ((!decide (a0.Kind = 5)) && (!decide (a0.Im = 0))))]) ?_ ?_
       ·refine WL.part 36 z (fun J => ?_) (fun J => ?_)
        ·refine ug z z (wY (yf fo37_9 z) z (ug z z (wY (yl ty25 z z (l.cell 9 _ z)) z (ug z z (wY (Y.neq_u (b := 0) z z) z (wY (Y.pick (b := true) z z) z (WL.ren (v' := vB ((!decide (a0.Kind = 5)) && (!decide (a0.Im = 0)))) 40 z (congrArg vB (andT J)) ?_)))))))
         exact nl (At.join () z (.cons z (.cons z .nil)))
        ·refine WL.gS z z z z (WL.gS z z z z (WL.gS z z z z (wY (Y.pick (b := false) z z) z (WL.ren (v' := vB ((!decide (a0.Kind = 5)) && (!decide (a0.Im = 0)))) 40 z (congrArg vB (andF J)) ?_))))
         exact nl (At.join () z (.cons z (.cons z .nil)))
       ·rintro _ _ rfl
        refine (show WL _ _ _ _ _ [(1, pt m 0), (40, vB ((!decide (a0.Kind = 5)) && (!decide (a0.Im = 0))))] _ from ?_)
        obtain ⟨aY, aw, h⟩ := lt1 h
        refine WL.yE (ya z) (congrArg vB aw.symm) z (nl (th ?_))
        rcases cnd h with ⟨K, h⟩ | ⟨K, h⟩
        ·refine WC.condT' z K (sk (th ?_))
         rcases cnd h with ⟨L, h⟩ | ⟨L, h⟩
         ·refine WC.condT' z L (sq (rg (wY (ya z) z (nl (th (rt (At.inBlockR (At.thenR ?_))))))))
          obtain rfl := some1 h
          have ax : Stp [] (Lg.O0 A) w o e := (su_ d z)
          exact At.res (.inl z) z (.tmp z .nil) ⟨z, (se_ ax z z)⟩
         ·refine WC.condF' z L (sk (At.inBlock (th (sq (rg (wY (ya z) z (nl (th (rt ?_)))))))))
          obtain rfl := some1 h
          have ay : Stp [] (Lg.O0 A) w o e := (su_ d z)
          exact At.res (.inl z) z (.tmp z .nil) ⟨z, (se_ ay z z)⟩
        ·refine WC.condF' z K (sq (rg (wY (yf fo37_2 z) z (wY (yl ty3 z z (l.cell 2 _ z)) z (wY (Y.neq_i z z) z (wY (ym z) z ?_))))))
         obtain ⟨aN, h, az⟩ := bnd h
         refine WL.cut 5 (σ := (Bool × Own)) (fun x w' => x.1 = aN ∧ Stp [] o e x.2 w') (fun x => [(1, pt m 0), (49, vB x.1)]) ?_ ?_
         ·rcases cnd h with ⟨M, h⟩ | ⟨M, h⟩
          ·refine WL.ren 44 z (congrArg vB M) (ug z z (wY (yf fo37_10 z) z (ug z z (wY (yL ty30 z z (l.cells 10 [vi a0.Hist.Scale, vu a0.Hist.Zero, vi a0.Hist.Pos.Offset, (Value.slice ab ac ad), vi a0.Hist.Neg.Offset, (Value.slice ae af ah)] z) z) z (ug z z ?_)))))
           have aA := Z.i d z z
           have aC := aa.i d z z
           obtain ⟨aO, aD, h⟩ := bnd h
           refine WL.call (vals := [ag [vi a0.Hist.Scale, vu a0.Hist.Zero, vi a0.Hist.Pos.Offset, (Value.slice ab ac ad), vi a0.Hist.Neg.Offset, (Value.slice ae af ah)]]) kok71 z z (c_point_bare (A := fun _ => True) (a0 := a0.Hist) (Sl.all aA) (Sl.all aC) aD) ?_
           rintro aT aU ⟨rfl, aE⟩
           obtain ⟨aP, aQ, aR, aj⟩ := adoptE o (fun k => 1) aE
           refine ug z z (wY (Y.not z) z (wY (Y.pick (b := true) z z) z ?_))
           exact nl (At.join (σ := (Bool × Own)) ((!aO), aP) ⟨some1 h, (su_ aj z)⟩ (.cons z (.cons z .nil)))
          ·refine WL.ren 44 z (congrArg vB M) (WL.gS z z z z (WL.gS z z z z (WL.gS z z z z (WL.gS z z z z (wY (Y.pick (b := false) z z) z ?_)))))
           exact nl (At.join (σ := (Bool × Own)) (false, o) ⟨some1 h, (sr_ _ _ _)⟩ (.cons z (.cons z .nil)))
         ·rintro ⟨aS, W⟩ p ⟨rfl, n⟩
          replace h := az
          try dsimp only at h n
          refine (show WL _ _ _ _ _ [(1, pt m 0), (49, vB aS)] _ from ?_)
          refine wY (ya z) z (nl (th ?_))
          rcases cnd h with ⟨Q, h⟩ | ⟨Q, h⟩
          ·refine WC.condT' z Q (sk (th ?_))
           rcases cnd h with ⟨T, h⟩ | ⟨T, h⟩
           ·refine WC.condT' z T (sq (rg (wY (ya z) z (nl (th (rt (At.inBlockR (At.thenR ?_))))))))
            obtain rfl := some1 h
            have aF : Stp [] (Lg.O0 A) w W p := (tr_ (su_ d z) (su_ n z))
            exact At.res (.inl z) z (.tmp z .nil) ⟨z, (se_ aF z z)⟩
           ·refine WC.condF' z T (sk (At.inBlock (th (sq (rg (wY (ya z) z (nl (th (rt ?_)))))))))
            obtain rfl := some1 h
            have aG : Stp [] (Lg.O0 A) w W p := (tr_ (su_ d z) (su_ n z))
            exact At.res (.inl z) z (.tmp z .nil) ⟨z, (se_ aG z z)⟩
          ·refine WC.condF' z Q (rg (wY (yf fo37_11 z) z ?_))
           have ai := l.st n z
           refine wY (yl ty3 z z (ai.cell 16 _ z)) z (wY (Y.lss_i z z) z (wY (ym z) z ?_))
           refine WL.cut 4 (σ := Unit) (fun _ w' => p = w') (fun _ => [(57, vB ((decide (a0.Flags < 0)) || (decide (31 < a0.Flags))))]) ?_ ?_
           ·refine WL.part 53 z (fun U => ?_) (fun U => ?_)
            ·refine WL.gS z z z z (WL.gS z z z z (WL.gS z z z z (wY (Y.pick (b := true) z z) z (WL.ren (v' := vB ((decide (a0.Flags < 0)) || (decide (31 < a0.Flags)))) 57 z (congrArg vB (orT U)) ?_))))
             exact nl (At.join () z (.cons z .nil))
            ·refine ug z z (wY (yf fo37_11 z) z (ug z z (wY (yl ty3 z z (ai.cell 16 _ z)) z (ug z z (wY (Y.gtr_i z z) z (wY (Y.pick (b := false) z z) z (WL.ren (v' := vB ((decide (a0.Flags < 0)) || (decide (31 < a0.Flags)))) 57 z (congrArg vB (orF U)) ?_)))))))
             exact nl (At.join () z (.cons z .nil))
           ·rintro _ _ rfl
            refine (show WL _ _ _ _ _ [(57, vB ((decide (a0.Flags < 0)) || (decide (31 < a0.Flags))))] _ from ?_)
            obtain ⟨aZ, aH, h⟩ := lt1 h
            refine WL.yE (ya z) (congrArg vB aH.symm) z (nl (th ?_))
            rcases cnd h with ⟨V, h⟩ | ⟨V, h⟩
            ·refine WC.condT' z V (sq (rg (wY (ya z) z (nl (th (rt (At.inBlockR (At.thenR ?_))))))))
             obtain rfl := some1 h
             have aI : Stp [] (Lg.O0 A) w W p := (tr_ (su_ d z) (su_ n z))
             exact At.res (.inl z) z (.tmp z .nil) ⟨z, (se_ aI z z)⟩
            ·refine WC.condF' z V (sk (At.inBlock (th (sq (rg (wY (ya z) z (nl (th (rt ?_)))))))))
             obtain rfl := some1 h
             have aJ : Stp [] (Lg.O0 A) w W p := (tr_ (su_ d z) (su_ n z))
             exact At.res (.inl z) z (.tmp z .nil) ⟨z, (se_ aJ z z)⟩
theorem c_num_Finite {a0 : UInt64} {w : World} {r0 : Bool} (h : num_Finite a0 = some r0) : Rets Try.prog 40 [vu a0] w (fun v w' => v = vB r0 ∧ Ext w w') := by
 unfold num_Finite at h
 refine Rets.enter Try.func40 z z ?_
 refine (show WC _ _ _ _ [(0, vu a0)] _ from ?_)
 refine sq (rg (wY (ya z) z (nl (th (sq (rg (wY (ym z) z (wY (Y.and_u (b := 9218868437227405312) z z) z (wY (Y.neq_u (b := 9218868437227405312) z z) z ?_)))))))))
 obtain ⟨j, d, h⟩ := lt1 h
 refine WL.yE (ya z) (congrArg vB d.symm) z (nl (th (rt ?_)))
 obtain rfl := some1 h
 have e : Stp [] (Lg.O0 (fun _ => False)) w (Lg.O0 (fun _ => False)) w := (sr_ _ _ _)
 exact At.res (.inl z) z (.tmp z .nil) ⟨z, (se_ e z z)⟩
theorem c_num_of {a0 : UInt64} {w : World} : Rets Try.prog 72 [vu a0] w (fun v w' => v = .float .f64 a0.toNat ∧ Ext w w') := by
  refine Rets.enter Try.func72 z z ?_
  refine (show WC _ _ _ _ [(0, vu a0)] _ from ?_)
  refine sq (rg (wY (ya (v := .float .f64 0) z) z (nl (th ?_))))
  refine sq (rg ?_)
  refine wY (ym z) z (wY (Y.ffrom xfrom_95 z) z ?_)
  refine wY (ya z) z (nl (th (rt ?_)))
  exact At.res (.inl z) z (.tmp z .nil) ⟨z, Ext.refl w⟩
theorem c_num_Less {a0 : UInt64} {a1 : UInt64} {w : World} {r0 : Bool} (h : num_Less a0 a1 = some r0) : Rets Try.prog 41 [vu a0, vu a1] w (fun v w' => v = vB r0 ∧ Ext w w') := by
  unfold num_Less at h
  obtain rfl := some1 h
  refine Rets.enter Try.func41 z z ?_
  refine (show WC _ _ _ _ [(0, vu a0), (1, vu a1)] _ from ?_)
  refine sq (rg (wY (ya (v := .bool false) z) z (nl (th ?_))))
  refine sq (rg ?_)
  refine wY (ym z) z (WL.call (vals := [vu a0]) kok72 z z (c_num_of) ?_)
  rintro C D ⟨rfl, j⟩
  obtain ⟨r, n, o, d⟩ := adoptE (Lg.O0 (fun _ => False)) (fun k => 1) j
  refine wY (ym z) z (WL.call (vals := [vu a1]) kok72 z z (c_num_of) ?_)
  rintro F l ⟨rfl, m⟩
  obtain ⟨t, p, q, e⟩ := adoptE r (fun k => 1) m
  refine wY (Y.fless z z) z ?_
  refine wY (ya z) z (nl (th (rt ?_)))
  have hs : Stp [] (Lg.O0 (fun _ => False)) w t l := (tr_ (su_ d z) (su_ e z))
  exact At.res (.inl z) z (.tmp z .nil) ⟨z, se_ hs z z⟩
theorem c_point_Check {A : Nat → Prop} {v0_1 : Value} {v0_13 : Value} {v0_15 : Value} {a0 : api_Point} {w : World} (hs0_1 : Sl rep_api_Pair w A v0_1 a0.Attrs) (hs0_13 : Sl Rep.u w A v0_13 a0.Hist.Pos.Counts) (hs0_15 : Sl Rep.u w A v0_15 a0.Hist.Neg.Counts) {r0 : Int} (h : point_Check a0 = some r0) : Rets Try.prog 14 [ag [vs a0.Name, v0_1, vi a0.Kind, vi a0.Temp, vB a0.Mono, vi a0.Start, vi a0.Time, vi a0.Int_, vu a0.Re, vu a0.Im, vi a0.Hist.Scale, vu a0.Hist.Zero, vi a0.Hist.Pos.Offset, v0_13, vi a0.Hist.Neg.Offset, v0_15, vi a0.Flags]] w (fun v w' => v = vi r0 ∧ Ext w w') := by
 unfold point_Check at h
 refine Rets.enter Try.func14 z z ?_
 have aD : Sl rep_api_Pair w (imm (Lg.O0 A)) v0_1 a0.Attrs := (Sl.start hs0_1)
 have aE : Sl Rep.u w (imm (Lg.O0 A)) v0_13 a0.Hist.Pos.Counts := (Sl.start hs0_13)
 have aF : Sl Rep.u w (imm (Lg.O0 A)) v0_15 a0.Hist.Neg.Counts := (Sl.start hs0_15)
 refine (show WC _ _ _ _ [(0, ag [vs a0.Name, v0_1, vi a0.Kind, vi a0.Temp, vB a0.Mono, vi a0.Start, vi a0.Time, vi a0.Int_, vu a0.Re, vu a0.Im, vi a0.Hist.Scale, vu a0.Hist.Zero, vi a0.Hist.Pos.Offset, v0_13, vi a0.Hist.Neg.Offset, v0_15, vi a0.Flags])] _ from ?_)
 refine sq (rg ?_)
 have bq := h
 obtain ⟨H, I, J, rfl⟩ := aD.shape
 have h := bq
 have br := h
 obtain ⟨r, t, C, rfl⟩ := aE.shape
 have h := br
 have bs := h
 obtain ⟨D, F, G, rfl⟩ := aF.shape
 have h := bs
 refine WL.box (O := (Lg.O0 A)) 11 [vs a0.Name, (Value.slice H I J), vi a0.Kind, vi a0.Temp, vB a0.Mono, vi a0.Start, vi a0.Time, vi a0.Int_, vu a0.Re, vu a0.Im, vi a0.Hist.Scale, vu a0.Hist.Zero, vi a0.Hist.Pos.Offset, (Value.slice r t C), vi a0.Hist.Neg.Offset, (Value.slice D F G), vi a0.Flags] z z z ?_
 intro q cl cG j am
 refine wY (ya z) z (nl (th (sq (sq (rg (wY (yf fo37_0 z) z (wY (yl ty9 z z (am.cell 0 _ z)) z (wY (yf fo37_1 z) z (wY (yl ty35 z z (am.cell 1 _ z)) z ?_)))))))))
 have aG := aD.i j z z
 obtain ⟨cS, bt, h⟩ := bnd h
 refine WL.call (vals := [vs a0.Name, (Value.slice H I J)]) kok35 z z (c_label_Check (A := fun _ => True) (Sl.all aG) bt) ?_
 rintro cH bu ⟨rfl, bw⟩
 obtain ⟨bm, cm, cn, e⟩ := adoptE cl (fun k => 1) bw
 refine wY (ya z) z (nl (th (sq (rg (wY (ym z) z (wY (Y.neq_i z z) z (nl (th ?_))))))))
 rcases cnd h with ⟨an, h⟩ | ⟨an, h⟩
 ·refine WC.condT' z an (sq (rg (wY (ym z) z (wY (ya z) z (nl (th (rt (At.thenR ?_))))))))
  obtain rfl := some1 h
  have bx : Stp [] (Lg.O0 A) w bm bu := (tr_ (su_ j z) (su_ e z))
  exact At.res (.inl z) z (.tmp z .nil) ⟨z, (se_ bx z z)⟩
 ·refine WC.condF' z an (sk (th (sq (WC.block (sq (rg ?_))))))
  have ao := am.st e z
  refine wY (yL ty37 z z (ao.cells 0 [vs a0.Name, (Value.slice H I J), vi a0.Kind, vi a0.Temp, vB a0.Mono, vi a0.Start, vi a0.Time, vi a0.Int_, vu a0.Re, vu a0.Im, vi a0.Hist.Scale, vu a0.Hist.Zero, vi a0.Hist.Pos.Offset, (Value.slice r t C), vi a0.Hist.Neg.Offset, (Value.slice D F G), vi a0.Flags] z) z) z ?_
  have Q := aG.i e z z
  have bz := aE.i j z z
  have T := bz.i e z z
  have bA := aF.i j z z
  have U := bA.i e z z
  obtain ⟨cT, bB, h⟩ := bnd h
  refine WL.call (vals := [ag [vs a0.Name, (Value.slice H I J), vi a0.Kind, vi a0.Temp, vB a0.Mono, vi a0.Start, vi a0.Time, vi a0.Int_, vu a0.Re, vu a0.Im, vi a0.Hist.Scale, vu a0.Hist.Zero, vi a0.Hist.Pos.Offset, (Value.slice r t C), vi a0.Hist.Neg.Offset, (Value.slice D F G), vi a0.Flags]]) kok36 z z (c_point_kinds (A := fun _ => True) (a0 := a0) (Sl.all Q) (Sl.all T) (Sl.all U) bB) ?_
  rintro cI ap ⟨rfl, bC⟩
  obtain ⟨ak, co, cp, d⟩ := adoptE bm (fun k => 1) bC
  refine wY (Y.not z) z ?_
  obtain ⟨cU, bD, h⟩ := lt1 h
  refine WL.yE (ya z) (congrArg vB bD.symm) z (nl (th ?_))
  rcases cnd h with ⟨aq, h⟩ | ⟨aq, h⟩
  ·refine WC.condT' z aq (sq (rg (wY (ya z) z (nl (th (rt (At.inBlockR (At.thenR ?_))))))))
   obtain rfl := some1 h
   have bE : Stp [] (Lg.O0 A) w ak ap := (tr_ (su_ j z) (tr_ (su_ e z) (su_ d z)))
   exact At.res (.inl z) z (.tmp z .nil) ⟨z, (se_ bE z z)⟩
  ·refine WC.condF' z aq (sq ?_)
   obtain ⟨cq, h, bF⟩ := bnd h
   refine WC.join (σ := (Bool × Own)) (fun x w' => x.1 = cq ∧ Stp [] ak ap x.2 w') (fun x => [(1, pt q 0), (16, vB x.1)]) ?_ ?_
   ·refine sq (rg (wY (yf fo37_4 z) z ?_))
    have ar := ao.st d z
    refine wY (yl ty4 z z (ar.cell 4 _ z)) z (wY (ym z) z ?_)
    obtain ⟨cr, h, bG⟩ := bnd h
    refine WL.cut 4 (σ := (Bool × Own)) (fun x w' => x.1 = cr ∧ Stp [] ak ap x.2 w') (fun x => [(1, pt q 0), (23, vB x.1)]) ?_ ?_
    ·rcases cnd h with ⟨au, h⟩ | ⟨au, h⟩
     ·refine WL.ren 19 z (congrArg vB au) (ug z z (wY (yL ty37 z z (ar.cells 0 [vs a0.Name, (Value.slice H I J), vi a0.Kind, vi a0.Temp, vB a0.Mono, vi a0.Start, vi a0.Time, vi a0.Int_, vu a0.Re, vu a0.Im, vi a0.Hist.Scale, vu a0.Hist.Zero, vi a0.Hist.Pos.Offset, (Value.slice r t C), vi a0.Hist.Neg.Offset, (Value.slice D F G), vi a0.Flags] z) z) z (ug z z ?_)))
      have bH := Q.i d z z
      have bI := T.i d z z
      have bJ := U.i d z z
      obtain ⟨cs, bK, h⟩ := bnd h
      refine WL.call (vals := [ag [vs a0.Name, (Value.slice H I J), vi a0.Kind, vi a0.Temp, vB a0.Mono, vi a0.Start, vi a0.Time, vi a0.Int_, vu a0.Re, vu a0.Im, vi a0.Hist.Scale, vu a0.Hist.Zero, vi a0.Hist.Pos.Offset, (Value.slice r t C), vi a0.Hist.Neg.Offset, (Value.slice D F G), vi a0.Flags]]) kok37 z z (c_point_sum (A := fun _ => True) (a0 := a0) (Sl.all bH) (Sl.all bI) (Sl.all bJ) bK) ?_
      rintro cJ cK ⟨rfl, bL⟩
      obtain ⟨ct, cu, cw, aM⟩ := adoptE ak (fun k => 1) bL
      refine ug z z (wY (Y.not z) z (wY (Y.pick (b := true) z z) z ?_))
      exact nl (At.join (σ := (Bool × Own)) ((!cs), ct) ⟨some1 h, (su_ aM z)⟩ (.cons z (.cons z .nil)))
     ·refine WL.ren 19 z (congrArg vB au) (WL.gS z z z z (WL.gS z z z z (WL.gS z z z z (wY (Y.pick (b := false) z z) z ?_))))
      exact nl (At.join (σ := (Bool × Own)) (false, ak) ⟨some1 h, (sr_ _ _ _)⟩ (.cons z (.cons z .nil)))
    ·rintro ⟨bn, bo⟩ cL ⟨rfl, p⟩
     replace h := bG
     try dsimp only at h p
     refine (show WL _ _ _ _ _ [(1, pt q 0), (23, vB bn)] _ from ?_)
     refine wY (ya z) z (nl (th ?_))
     rcases cnd h with ⟨av, h⟩ | ⟨av, h⟩
     ·refine WC.condT' z av (sk ?_)
      exact At.join (σ := (Bool × Own)) (bn, bo) ⟨some1 h, (su_ p z)⟩ (.cons z (.cons z .nil))
     ·refine WC.condF' z av (rg ?_)
      have bM := ar.st p z
      refine wY (yL ty37 z z (bM.cells 0 [vs a0.Name, (Value.slice H I J), vi a0.Kind, vi a0.Temp, vB a0.Mono, vi a0.Start, vi a0.Time, vi a0.Int_, vu a0.Re, vu a0.Im, vi a0.Hist.Scale, vu a0.Hist.Zero, vi a0.Hist.Pos.Offset, (Value.slice r t C), vi a0.Hist.Neg.Offset, (Value.slice D F G), vi a0.Flags] z) z) z ?_
      have bO := Q.i d z z
      have bP := bO.i p z z
      have bQ := T.i d z z
      have bR := bQ.i p z z
      have bS := U.i d z z
      have bT := bS.i p z z
      obtain ⟨cV, bU, h⟩ := bnd h
      refine WL.call (vals := [ag [vs a0.Name, (Value.slice H I J), vi a0.Kind, vi a0.Temp, vB a0.Mono, vi a0.Start, vi a0.Time, vi a0.Int_, vu a0.Re, vu a0.Im, vi a0.Hist.Scale, vu a0.Hist.Zero, vi a0.Hist.Pos.Offset, (Value.slice r t C), vi a0.Hist.Neg.Offset, (Value.slice D F G), vi a0.Flags]]) kok38 z z (c_point_times (A := fun _ => True) (a0 := a0) (Sl.all bP) (Sl.all bR) (Sl.all bT) bU) ?_
      rintro cM cN ⟨rfl, bW⟩
      obtain ⟨bX, cb, cc, aH⟩ := adoptE bo (fun k => 1) bW
      refine wY (Y.not z) z ?_
      obtain ⟨bY, aN, h⟩ := lt1 h
      refine WL.yE (ya z) (congrArg vB aN.symm) z (nl ?_)
      exact At.join (σ := (Bool × Own)) (bY, bX) ⟨some1 h, (tr_ (su_ p z) (su_ aH z))⟩ (.cons z (.cons z .nil))
   ·rintro ⟨cx, bp⟩ bZ ⟨rfl, l⟩
    replace h := bF
    try dsimp only at h l
    refine (show At _ _ _ [(1, pt q 0), (16, vB cx)] _ from ?_)
    refine th ?_
    rcases cnd h with ⟨V, h⟩ | ⟨V, h⟩
    ·refine WC.condT' z V (sq (rg (wY (ya z) z (nl (th (rt (At.inBlockR (At.thenR ?_))))))))
     obtain rfl := some1 h
     have aO : Stp [] (Lg.O0 A) w bp bZ := (tr_ (su_ j z) (tr_ (su_ e z) (tr_ (su_ d z) (su_ l z))))
     exact At.res (.inl z) z (.tmp z .nil) ⟨z, (se_ aO z z)⟩
    ·refine WC.condF' z V (sq (rg ?_))
     have aP := ao.st d z
     have ax := aP.st l z
     refine wY (yL ty37 z z (ax.cells 0 [vs a0.Name, (Value.slice H I J), vi a0.Kind, vi a0.Temp, vB a0.Mono, vi a0.Start, vi a0.Time, vi a0.Int_, vu a0.Re, vu a0.Im, vi a0.Hist.Scale, vu a0.Hist.Zero, vi a0.Hist.Pos.Offset, (Value.slice r t C), vi a0.Hist.Neg.Offset, (Value.slice D F G), vi a0.Flags] z) z) z ?_
     have aQ := Q.i d z z
     have aR := aQ.i l z z
     have aS := T.i d z z
     have ay := aS.i l z z
     have aT := U.i d z z
     have az := aT.i l z z
     obtain ⟨cO, aU, h⟩ := bnd h
     refine WL.call (vals := [ag [vs a0.Name, (Value.slice H I J), vi a0.Kind, vi a0.Temp, vB a0.Mono, vi a0.Start, vi a0.Time, vi a0.Int_, vu a0.Re, vu a0.Im, vi a0.Hist.Scale, vu a0.Hist.Zero, vi a0.Hist.Pos.Offset, (Value.slice r t C), vi a0.Hist.Neg.Offset, (Value.slice D F G), vi a0.Flags]]) kok39 z z (c_point_own (A := fun _ => True) (a0 := a0) (Sl.all aR) (Sl.all ay) (Sl.all az) aU) ?_
     rintro cy W ⟨rfl, aW⟩
     obtain ⟨Z, cd, ce, m⟩ := adoptE bp (fun k => 1) aW
     refine wY (Y.not z) z ?_
     obtain ⟨cP, aX, h⟩ := lt1 h
     refine WL.yE (ya z) (congrArg vB aX.symm) z (nl (th ?_))
     rcases cnd h with ⟨aa, h⟩ | ⟨aa, h⟩
     ·refine WC.condT' z aa (sq (rg (wY (ya z) z (nl (th (rt (At.inBlockR (At.thenR ?_))))))))
      obtain rfl := some1 h
      have aY : Stp [] (Lg.O0 A) w Z W := (tr_ (su_ j z) (tr_ (su_ e z) (tr_ (su_ d z) (tr_ (su_ l z) (su_ m z)))))
      exact At.res (.inl z) z (.tmp z .nil) ⟨z, (se_ aY z z)⟩
     ·refine WC.condF' z aa (sq (rg (wY (yf fo37_4 z) z ?_)))
      have L := ax.st m z
      refine wY (yl ty4 z z (L.cell 4 _ z)) z (wY (ym z) z ?_)
      refine WL.cut 4 (σ := Unit) (fun _ w' => W = w') (fun _ => [(1, pt q 0), (38, vB (a0.Mono && (decide (a0.Kind = 2))))]) ?_ ?_
      ·refine WL.part 34 z (fun ab => ?_) (fun ab => ?_)
       ·refine ug z z (wY (yf fo37_2 z) z (ug z z (wY (yl ty3 z z (L.cell 2 _ z)) z (ug z z (wY (Y.eql_i z z) z (wY (Y.pick (b := true) z z) z (WL.ren (v' := vB (a0.Mono && (decide (a0.Kind = 2)))) 38 z (congrArg vB (andT ab)) ?_)))))))
        exact nl (At.join () z (.cons z (.cons z .nil)))
       ·refine WL.gS z z z z (WL.gS z z z z (WL.gS z z z z (wY (Y.pick (b := false) z z) z (WL.ren (v' := vB (a0.Mono && (decide (a0.Kind = 2)))) 38 z (congrArg vB (andF ab)) ?_))))
        exact nl (At.join () z (.cons z (.cons z .nil)))
      ·rintro _ _ rfl
       refine (show WL _ _ _ _ _ [(1, pt q 0), (38, vB (a0.Mono && (decide (a0.Kind = 2))))] _ from ?_)
       refine wY (ym z) z ?_
       obtain ⟨b0, h, aZ⟩ := bnd h
       refine WL.cut 5 (σ := (Bool × Own)) (fun x w' => x.1 = b0 ∧ Stp [] Z W x.2 w') (fun x => [(1, pt q 0), (44, vB x.1)]) ?_ ?_
       ·rcases cnd h with ⟨ac, h⟩ | ⟨ac, h⟩
        ·refine WL.ren 39 z (congrArg vB ac) (ug z z (wY (yf fo37_8 z) z (ug z z (wY (yl ty25 z z (L.cell 8 _ z)) z (ug z z ?_)))))
         obtain ⟨b1, a1, h⟩ := bnd h
         refine WL.call (vals := [vu a0.Re]) kok40 z z (c_num_Finite a1) ?_
         rintro cz cA ⟨rfl, a2⟩
         obtain ⟨b2, cf, cg, aI⟩ := adoptE Z (fun k => 1) a2
         refine ug z z (wY (Y.not z) z (wY (Y.pick (b := true) z z) z ?_))
         exact nl (At.join (σ := (Bool × Own)) ((!b1), b2) ⟨some1 h, (su_ aI z)⟩ (.cons z (.cons z .nil)))
        ·refine WL.ren 39 z (congrArg vB ac) (WL.gS z z z z (WL.gS z z z z (WL.gS z z z z (WL.gS z z z z (wY (Y.pick (b := false) z z) z ?_)))))
         exact nl (At.join (σ := (Bool × Own)) (false, Z) ⟨some1 h, (sr_ _ _ _)⟩ (.cons z (.cons z .nil)))
       ·rintro ⟨b3, K⟩ ad ⟨rfl, n⟩
        replace h := aZ
        try dsimp only at h n
        refine (show WL _ _ _ _ _ [(1, pt q 0), (44, vB b3)] _ from ?_)
        refine wY (ya z) z (nl (th ?_))
        rcases cnd h with ⟨ae, h⟩ | ⟨ae, h⟩
        ·refine WC.condT' z ae (sq (rg (wY (ya z) z (nl (th (rt (At.inBlockR (At.thenR ?_))))))))
         obtain rfl := some1 h
         have a3 : Stp [] (Lg.O0 A) w K ad := (tr_ (su_ j z) (tr_ (su_ e z) (tr_ (su_ d z) (tr_ (su_ l z) (tr_ (su_ m z) (su_ n z))))))
         exact At.res (.inl z) z (.tmp z .nil) ⟨z, (se_ a3 z z)⟩
        ·refine WC.condF' z ae (sq (rg (wY (yf fo37_4 z) z ?_)))
         have M := L.st n z
         refine wY (yl ty4 z z (M.cell 4 _ z)) z (wY (ym z) z ?_)
         obtain ⟨b4, h, a4⟩ := bnd h
         refine WL.cut 9 (σ := (Bool × Own)) (fun x w' => x.1 = b4 ∧ Stp [] K ad x.2 w') (fun x => [(1, pt q 0), (57, vB x.1)]) ?_ ?_
         ·rcases cnd h with ⟨af, h⟩ | ⟨af, h⟩
          ·refine WL.ren 48 z (congrArg vB af) (ug z z (wY (yf fo37_7 z) z (ug z z (wY (yl ty3 z z (M.cell 7 _ z)) z (ug z z (wY (Y.lss_i z z) z (ug z z (wY (ym z) z ?_))))))))
           obtain ⟨b5, h, a5⟩ := bnd h
           refine WL.cut 4 (σ := (Bool × Own)) (fun x w' => x.1 = b5 ∧ Stp [] K ad x.2 w') (fun x => [(1, pt q 0), (48, vB true), (56, vB x.1)]) ?_ ?_
           ·rcases cnd h with ⟨ah, h⟩ | ⟨ah, h⟩
            ·refine WL.ren 52 z (congrArg vB ah) (WL.gS z z z z (WL.gS z z z z (WL.gS z z z z (ug z z (wY (Y.pick (b := true) z z) z ?_)))))
             exact nl (At.join (σ := (Bool × Own)) (true, K) ⟨some1 h, (sr_ _ _ _)⟩ (.cons z (.cons z (.cons z .nil))))
            ·refine WL.ren 52 z (congrArg vB ah) (ug z z (wY (yf fo37_8 z) z (ug z z (wY (yl ty25 z z (M.cell 8 _ z)) z (ug z z ?_)))))
             obtain ⟨b6, a6, h⟩ := bnd h
             refine WL.call (vals := [vu a0.Re, vu 0]) kok41 z z (c_num_Less a6) ?_
             rintro cC cD ⟨rfl, a7⟩
             obtain ⟨b7, ch, ci, aJ⟩ := adoptE K (fun k => 1) a7
             refine ug z z (wY (Y.pick (b := false) z z) z ?_)
             exact nl (At.join (σ := (Bool × Own)) (b6, b7) ⟨some1 h, (su_ aJ z)⟩ (.cons z (.cons z (.cons z .nil))))
           ·rintro ⟨aK, b8⟩ cE ⟨rfl, al⟩
            replace h := a5
            try dsimp only at h al
            refine (show WL _ _ _ _ _ [(1, pt q 0), (48, vB true), (56, vB aK)] _ from ?_)
            refine wY (Y.pick (b := true) z z) z ?_
            exact nl (At.join (σ := (Bool × Own)) (aK, b8) ⟨some1 h, (su_ al z)⟩ (.cons z (.cons z .nil)))
          ·refine WL.ren 48 z (congrArg vB af) (WL.gS z z z z (WL.gS z z z z (WL.gS z z z z (WL.gS z z z z (WL.gS z z z z (WL.gS z z z z (WL.gS z z z z (WL.gS z z z z (wY (Y.pick (b := false) z z) z ?_)))))))))
           exact nl (At.join (σ := (Bool × Own)) (false, K) ⟨some1 h, (sr_ _ _ _)⟩ (.cons z (.cons z .nil)))
         ·rintro ⟨b9, aw⟩ aA ⟨rfl, o⟩
          replace h := a4
          try dsimp only at h o
          refine (show WL _ _ _ _ _ [(1, pt q 0), (57, vB b9)] _ from ?_)
          refine wY (ya z) z (nl (th ?_))
          rcases cnd h with ⟨ai, h⟩ | ⟨ai, h⟩
          ·refine WC.condT' z ai (sq (rg (wY (ya z) z (nl (th (rt (At.inBlockR (At.thenR ?_))))))))
           obtain rfl := some1 h
           have a8 : Stp [] (Lg.O0 A) w aw aA := (tr_ (su_ j z) (tr_ (su_ e z) (tr_ (su_ d z) (tr_ (su_ l z) (tr_ (su_ m z) (tr_ (su_ n z) (su_ o z)))))))
           exact At.res (.inl z) z (.tmp z .nil) ⟨z, (se_ a8 z z)⟩
          ·refine WC.condF' z ai (sq (rg (wY (yf fo37_2 z) z ?_)))
           have aC := M.st o z
           refine wY (yl ty3 z z (aC.cell 2 _ z)) z (wY (Y.eql_i z z) z ?_)
           obtain ⟨cQ, a9, h⟩ := lt1 h
           refine WL.yE (ya z) (congrArg vB a9.symm) z (nl (th ?_))
           rcases cnd h with ⟨aj, h⟩ | ⟨aj, h⟩
           ·refine WC.condT' z aj (sq (rg (wY (yf fo37_10 z) z (wY (yL ty30 z z (aC.cells 10 [vi a0.Hist.Scale, vu a0.Hist.Zero, vi a0.Hist.Pos.Offset, (Value.slice r t C), vi a0.Hist.Neg.Offset, (Value.slice D F G)] z) z) z ?_))))
            have ba := ay.i m z z
            have bb := ba.i n z z
            have bc := bb.i o z z
            have bd := az.i m z z
            have bf := bd.i n z z
            have bg := bf.i o z z
            obtain ⟨cR, bh, h⟩ := bnd h
            refine WL.call (vals := [ag [vi a0.Hist.Scale, vu a0.Hist.Zero, vi a0.Hist.Pos.Offset, (Value.slice r t C), vi a0.Hist.Neg.Offset, (Value.slice D F G)]]) kok28 z z (c_hist_Check (A := fun _ => True) (a0 := a0.Hist) (Sl.all bc) (Sl.all bg) bh) ?_
            rintro cF bi ⟨rfl, bj⟩
            obtain ⟨ca, cj, ck, aL⟩ := adoptE aw (fun k => 1) bj
            refine wY (ya z) z (nl (th (rt (At.inBlockR (At.thenR ?_)))))
            obtain rfl := some1 h
            have bk : Stp [] (Lg.O0 A) w ca bi := (tr_ (su_ j z) (tr_ (su_ e z) (tr_ (su_ d z) (tr_ (su_ l z) (tr_ (su_ m z) (tr_ (su_ n z) (tr_ (su_ o z) (su_ aL z))))))))
            exact At.res (.inl z) z (.tmp z .nil) ⟨z, (se_ bk z z)⟩
           ·refine WC.condF' z aj (sk (At.inBlock (th (sq (rg (wY (ya z) z (nl (th (rt ?_)))))))))
            obtain rfl := some1 h
            have bl : Stp [] (Lg.O0 A) w aw aA := (tr_ (su_ j z) (tr_ (su_ e z) (tr_ (su_ d z) (tr_ (su_ l z) (tr_ (su_ m z) (tr_ (su_ n z) (su_ o z)))))))
            exact At.res (.inl z) z (.tmp z .nil) ⟨z, (se_ bl z z)⟩
theorem c_hist_span {A : Nat → Prop} {v0_1 : Value} {a0 : api_Side} {a1 : UInt64} {w : World} (hs0_1 : Sl Rep.u w A v0_1 a0.Counts) {r0 : Int} (h : hist_span a0 a1 = some r0) : Rets Try.prog 73 [ag [vi a0.Offset, v0_1], vu a1] w (fun v w' => v = vi r0 ∧ Ext w w') := by
 unfold hist_span at h
 refine Rets.enter Try.func73 z z ?_
 have l : Sl Rep.u w (imm (Lg.O0 A)) v0_1 a0.Counts := (Sl.start hs0_1)
 refine (show WC _ _ _ _ [(0, ag [vi a0.Offset, v0_1]), (1, vu a1)] _ from ?_)
 refine sq (rg ?_)
 have p := h
 obtain ⟨D, F, G, rfl⟩ := l.shape
 have h := p
 refine WL.box (O := (Lg.O0 A)) 11 [vi a0.Offset, (Value.slice D F G)] z z z ?_
 intro I o m d e
 refine wY (ya z) z (nl (th (sq (rg (wY (yf fo28_1 z) z (wY (yl ty26 z z (e.cell 1 _ z)) z ?_))))))
 have q := l.i d z z
 refine wY (Y.len ty26 z q) z ?_
 obtain ⟨H, n, h⟩ := lt1 h
 refine WL.yE (ya z) (congrArg vi n.symm) z (nl (th (sq (sq (rg (wY (ym z) z (wY (Y.eql_i z z) z (nl (th ?_)))))))))
 rcases cnd h with ⟨j, h⟩ | ⟨j, h⟩
 ·refine WC.condT' z j (sq (rg (wY (ya z) z (nl (th (rt (At.thenR ?_)))))))
  obtain rfl := some1 h
  have r : Stp [] (Lg.O0 A) w o m := (su_ d z)
  exact At.res (.inl z) z (.tmp z .nil) ⟨z, (se_ r z z)⟩
 ·refine WC.condF' z j (sk (th (sq (rg (wY (yf fo28_0 z) z (wY (yl ty3 z z (e.cell 0 _ z)) z (wY (ym z) z (wY (Y.add_i z z) z (wY (Y.sub_i z z) z ?_)))))))))
  refine wY (ym z) z (wY (Y.shr_iu z z) z (wY (yf fo28_0 z) z (wY (yl ty3 z z (e.cell 0 _ z)) z (wY (ym z) z (wY (Y.shr_iu z z) z (wY (Y.sub_i z z) z (wY (Y.add_i z z) z ?_)))))))
  obtain ⟨J, t, h⟩ := lt1 h
  refine WL.yE (ya z) (congrArg vi t.symm) z (nl (th (rt ?_)))
  obtain rfl := some1 h
  have C : Stp [] (Lg.O0 A) w o m := (su_ d z)
  exact At.res (.inl z) z (.tmp z .nil) ⟨z, (se_ C z z)⟩
theorem c_hist_down {A : Nat → Prop} {v0_1 : Value} {a0 : api_Side} {a1 : UInt64} {w : World} (hs0_1 : Sl Rep.u w A v0_1 a0.Counts) {r0 : api_Side} (h : hist_down a0 a1 = some r0) : Rets Try.prog 60 [ag [vi a0.Offset, v0_1], vu a1] w (fun v w' => ∃ (aO : Value), v = ag [vi r0.Offset, aO] ∧ Ext w w' ∧ Sl Rep.u w' (fun k => w.heap.size ≤ k) aO r0.Counts) := by
 unfold hist_down at h
 refine Rets.enter Try.func60 z z ?_
 have aP : Sl Rep.u w (imm (Lg.O0 A)) v0_1 a0.Counts := (Sl.start hs0_1)
 refine (show WC _ _ _ _ [(0, ag [vi a0.Offset, v0_1]), (1, vu a1)] _ from ?_)
 refine sq (rg ?_)
 have cw := h
 obtain ⟨V, W, Z, rfl⟩ := aP.shape
 have h := cw
 refine WL.box (O := (Lg.O0 A)) 11 [vi a0.Offset, (Value.slice V W Z)] z z z ?_
 intro aa dd dI ab cx
 refine WL.alloc (O := dd) 12 [vi 0, Value.slice none 0 0] ty28 z z ?_
 intro r ak dJ t aQ
 refine nl (th (sq (sq (rg (wY (yf fo28_1 z) z ?_)))))
 have ac := cx.st t z
 refine wY (yl ty26 z z (ac.cell 1 _ z)) z ?_
 have cy := aP.i ab z z
 have ad := cy.i t z z
 refine wY (Y.len ty26 z ad) z (wY (Y.eql_i z z) z (nl (th ?_)))
 rcases cnd h with ⟨ap, h⟩ | ⟨ap, h⟩
 ·refine WC.condT' z ap (sq (rg (wY (yb (vals := []) (cells := [vi 0, Value.slice none 0 0]) (fe_ z) (by kernel_rfl)) z (WL.store (v := ag [vi 0, Value.slice none 0 0]) (cells' := [vi 0, Value.slice none 0 0]) ty28 z z aQ z (le_ z) z z ?_))))
  intro cz bh cA
  refine nl (th (rt (At.thenR ?_)))
  obtain rfl := some1 h
  have cC : Stp [12] (Lg.O0 A) w ak cz := (tr_ (su_ ab z) (tr_ (su_ t z) (su_ bh z)))
  exact At.res (.inl z) z (.cell z (cA.runAg 0 [vi 0, Value.slice none 0 0] ty28 z z z) .nil) ⟨Value.slice none 0 0, z, (se_ cC z z), (Or.inl ⟨z, z⟩)⟩
 ·refine WC.condF' z ap (sk (th (sq (WC.drawH [13, 14, 15, 16, 17, 18, 1001, 1002] [0, 1, 2, 3, 4, 5, 6, 7, 8, 9] ak 11 fmix z (by kernel_rfl) ?_))))
  intro cD d
  refine WD.y 0 z (by kernel_rfl) (fun _ _ _ => yf fo28_0 z) z (WD.y 1 z (by kernel_rfl) (fun dK d7 bi => have cE := ac.st d z; have cF := cE.st bi z; yl ty3 z z (cF.cell 0 _ z)) z (WD.y 2 z (by kernel_rfl) (fun _ _ _ => ym z) z (WD.y 3 z (by kernel_rfl) (fun _ _ _ => Y.shr_iu z z) z (WD.y 4 z (by kernel_rfl) (fun dL d8 bj => have cG := ac.st d z; have cH := cG.st bj z; yL ty28 z z (cH.cells 0 [vi a0.Offset, (Value.slice V W Z)] z) z) z (WD.y 5 z (by kernel_rfl) (fun _ _ _ => ym z) z ?_)))))
  obtain ⟨de, h, cI⟩ := bnd h
  refine WD.join (σ := (List UInt64 × Own × Nat × Value)) (f' := 1) [9, 8, 7, 6, 5, 4, 3, 2, 1, 0] (fun x O' w' => x.1 = de ∧ Stp [13, 14, 15, 16, 17, 18, 1001, 1002] ak cD x.2.1 w' ∧ Blk 1003 x.2.1 w' x.2.2.1 28 [vi 0, Value.slice none 0 0] ∧ OwnSl 1004 Rep.u 25 x.2.1 w' x.2.2.2 x.1 ∧ x.2.1 = O') (fun x => [(1, vu a1), (2, pt aa 0), (4, pt r 0), (5, Value.pointer (some ⟨x.2.2.1, 0, none⟩)), (21, ag [vi (shrI a0.Offset a1.toNat), x.2.2.2])]) (fun aR => ?_) ?_
  ·refine WD.heavy2 6 9 z z (by kernel_rfl) ?_ ?_
   ·have cJ := ad.i d z z
    obtain ⟨d9, cK, h⟩ := bnd h
    refine WL.call (vals := [ag [vi a0.Offset, (Value.slice V W Z)], vu a1]) kok73 z z (c_hist_span (A := fun _ => True) (a0 := a0) (Sl.all cJ) cK) ?_
    rintro dM cL ⟨rfl, cM⟩
    obtain ⟨aS, df, dg, az⟩ := adoptE ak (fun k => 1) cM
    refine nl (At.dq (su_ az z) ?_)
    obtain ⟨dh, h, cN⟩ := bnd h
    refine WD.join (σ := (List UInt64 × Own × Nat × Value)) (f' := 1) [9, 8, 7, 6, 5, 4, 3, 2, 1, 0] (fun x O' w' => x.1 = dh ∧ Stp [13, 14, 15, 16] aS cL x.2.1 w' ∧ Blk 1001 x.2.1 w' x.2.2.1 28 [vi 0, Value.slice none 0 0] ∧ OwnSl 1002 Rep.u 25 x.2.1 w' x.2.2.2 x.1 ∧ x.2.1 = O') (fun x => [(1, vu a1), (2, pt aa 0), (4, pt r 0), (5, Value.pointer (some ⟨x.2.2.1, 0, none⟩)), (21, ag [vi (shrI a0.Offset a1.toNat), x.2.2.2])]) (fun aT => ?_) ?_
    ·refine WD.heavy2 7 9 z z (by kernel_rfl) ?_ ?_
     ·obtain ⟨di, cO, h⟩ := bnd h
      refine WL.make (O := aS) (R := Rep.u) (zx := (0 : UInt64)) 13 (by decide) ty26 ty25 z (by decide) (by decide) z z (fun _ _ => z) cO z ?_
      intro ea dj dN aA aU
      refine nl (At.dq (su_ aA z) ?_)
      have cP := h
      obtain ⟨aW, aX, aY, rfl⟩ := aU.shape
      have h := cP
      refine WD.y 8 z (by kernel_rfl) (fun _ _ _ => yb (vals := [(0, vi (shrI a0.Offset a1.toNat)), (1, (Value.slice aW aX aY))]) (cells := [vi (shrI a0.Offset a1.toNat), (Value.slice aW aX aY)]) (fe_ z) (by kernel_rfl)) z (WD.heavy 9 z (by kernel_rfl) (WL.alloc (O := dj) 14 [vi 0, Value.slice none 0 0] ty28 z z ?_))
      intro cQ dO du C bk
      refine nl (At.dq (su_ C z) ?_)
      obtain ⟨dP, D, bl⟩ := Blk.rlb 1001 rfl bk
      have bm := aU.st C z z z
      have bn := bm.st D z z z
      obtain ⟨cR, F, bo⟩ := OwnSl.rlb 1002 rfl bn
      have bp := bl.st F z
      refine WD.own (tr_ (su_ D z) (su_ F z)) (WD.perm _ [9, 8, 7, 6, 5, 4, 3, 2, 1, 0] (by kernel_rfl) ?_)
      exact aT (di, cR, cQ, (Value.slice aW aX aY)) _ _ _ ⟨some1 h, (tr_ (su_ aA z) (tr_ (su_ C z) (tr_ (su_ D z) (su_ F z)))), bp, bo, z⟩ (.cons z (.cons z (.cons z (.cons z (.cons z .nil)))))
     ·try simp only [Option.bind_assoc] at h
      try simp only [Option.bind_some] at h
      refine WL.alloc (O := aS) 15 [vi 0, Value.slice none 0 0] ty28 z z ?_
      intro cS cT dw al bq
      refine nl (At.dq (su_ al z) (WD.heavy 7 z (by kernel_rfl) ?_))
      obtain ⟨cU, br, h⟩ := bnd h
      refine WL.make (O := cT) (R := Rep.u) (zx := (0 : UInt64)) 16 (by decide) ty26 ty25 z (by decide) (by decide) z z (fun _ _ => z) br z ?_
      intro dQ dR dx G aC
      refine nl (At.dq (su_ G z) ?_)
      have bs := h
      obtain ⟨aq, ar, au, rfl⟩ := aC.shape
      have h := bs
      refine WD.y 8 z (by kernel_rfl) (fun _ _ _ => yb (vals := [(0, vi (shrI a0.Offset a1.toNat)), (1, (Value.slice aq ar au))]) (cells := [vi (shrI a0.Offset a1.toNat), (Value.slice aq ar au)]) (fe_ z) (by kernel_rfl)) z ?_
      have bt := bq.st G z
      obtain ⟨dS, H, bu⟩ := Blk.rlb 1001 rfl bt
      have bw := aC.st H z z z
      obtain ⟨cV, I, bx⟩ := OwnSl.rlb 1002 rfl bw
      have bz := bu.st I z
      refine WD.own (tr_ (su_ H z) (su_ I z)) (WD.perm _ [9, 8, 7, 6, 5, 4, 3, 2, 1, 0] (by kernel_rfl) ?_)
      exact aT (cU, cV, cS, (Value.slice aq ar au)) _ _ _ ⟨some1 h, (tr_ (su_ al z) (tr_ (su_ G z) (tr_ (su_ H z) (su_ I z)))), bz, bx, z⟩ (.cons z (.cons z (.cons z (.cons z (.cons z .nil)))))
    ·rintro ⟨dk, eb, cs, ct⟩ _ dT ⟨rfl, aD, aZ, a2, rfl⟩
     replace h := cN
     try dsimp only at h aD aZ a2
     refine (show WD _ _ _ _ _ _ _ _ [(1, vu a1), (2, pt aa 0), (4, pt r 0), (5, pt cs 0), (21, ag [vi (shrI a0.Offset a1.toNat), ct])] _ _ from ?_)
     obtain ⟨dU, J, bA⟩ := Blk.rlb 1003 rfl aZ
     have bB := a2.st J z z z
     obtain ⟨cW, K, bC⟩ := OwnSl.rlb 1004 rfl bB
     have bD := bA.st K z
     refine WD.own (tr_ (su_ J z) (su_ K z)) (WD.perm _ [9, 8, 7, 6, 5, 4, 3, 2, 1, 0] (by kernel_rfl) ?_)
     exact aR (dk, cW, cs, ct) _ _ _ ⟨some1 h, (tr_ (su_ az z) (tr_ (su_ aD z) (tr_ (su_ J z) (su_ K z)))), bD, bC, z⟩ (.cons z (.cons z (.cons z (.cons z (.cons z .nil)))))
   ·try simp only [Option.bind_assoc] at h
    try simp only [Option.bind_some] at h
    refine WL.alloc (O := ak) 17 [vi 0, Value.slice none 0 0] ty28 z z ?_
    intro cX cY dy L bE
    refine nl (At.dq (su_ L z) (WD.heavy 6 z (by kernel_rfl) ?_))
    have bF := ad.i d z z
    have bG := bF.i L z z
    obtain ⟨dV, bH, h⟩ := bnd h
    refine WL.call (vals := [ag [vi a0.Offset, (Value.slice V W Z)], vu a1]) kok73 z z (c_hist_span (A := fun _ => True) (a0 := a0) (Sl.all bG) bH) ?_
    rintro dz dA ⟨rfl, bI⟩
    obtain ⟨cZ, db, dc, M⟩ := adoptE cY (fun k => 1) bI
    refine nl (At.dq (su_ M z) (WD.heavy 7 z (by kernel_rfl) ?_))
    obtain ⟨c0, bJ, h⟩ := bnd h
    refine WL.make (O := cZ) (R := Rep.u) (zx := (0 : UInt64)) 18 (by decide) ty26 ty25 z (by decide) (by decide) z z (fun _ _ => z) bJ z ?_
    intro dW dX dB Q aE
    refine nl (At.dq (su_ Q z) ?_)
    have bK := h
    obtain ⟨av, aw, ax, rfl⟩ := aE.shape
    have h := bK
    refine WD.y 8 z (by kernel_rfl) (fun _ _ _ => yb (vals := [(0, vi (shrI a0.Offset a1.toNat)), (1, (Value.slice av aw ax))]) (cells := [vi (shrI a0.Offset a1.toNat), (Value.slice av aw ax)]) (fe_ z) (by kernel_rfl)) z ?_
    have bL := bE.st M z
    have bM := bL.st Q z
    obtain ⟨dY, T, bO⟩ := Blk.rlb 1003 rfl bM
    have bP := aE.st T z z z
    obtain ⟨c1, U, bQ⟩ := OwnSl.rlb 1004 rfl bP
    have bR := bO.st U z
    refine WD.own (tr_ (su_ T z) (su_ U z)) (WD.perm _ [9, 8, 7, 6, 5, 4, 3, 2, 1, 0] (by kernel_rfl) ?_)
    exact aR (c0, c1, cX, (Value.slice av aw ax)) _ _ _ ⟨some1 h, (tr_ (su_ L z) (tr_ (su_ M z) (tr_ (su_ Q z) (tr_ (su_ T z) (su_ U z))))), bR, bQ, z⟩ (.cons z (.cons z (.cons z (.cons z (.cons z .nil)))))
  ·rintro ⟨dl, cu, am, dm⟩ _ dZ ⟨rfl, p, a3, ay, rfl⟩
   replace h := cI
   try dsimp only at h p a3 ay
   refine (show WD _ _ _ _ _ _ _ _ [(1, vu a1), (2, pt aa 0), (4, pt r 0), (5, pt am 0), (21, ag [vi (shrI a0.Offset a1.toNat), dm])] _ _ from ?_)
   refine WD.phase [1003] [0, 1, 2, 3, 4, 5, 6, 7, 8, 9, 10] (by kernel_rfl) (by kernel_rfl) (WD.heavy 10 z (by kernel_rfl) ?_)
   have bS := h
   obtain ⟨l, m, n, rfl⟩ := ay.shape
   have h := bS
   refine WL.store (v := ag [vi (shrI a0.Offset a1.toNat), (Value.slice l m n)]) (cells' := [vi (shrI a0.Offset a1.toNat), (Value.slice l m n)]) ty28 z z a3 z (le_ z) z z ?_
   intro aF e aG
   refine nl (At.dq (su_ e z) (WD.done_ (by kernel_rfl) (th (sq (sq (rg (wY (yf fo28_1 z) z ?_)))))))
   have bT := ac.st d z
   have bU := bT.st p z
   have aH := bU.st e z
   refine wY (yl ty26 z z (aH.cell 1 _ z)) z ?_
   have bW := ad.i d z z
   have bX := bW.i p z z
   have aI := bX.i e z z
   refine wY (Y.len ty26 z aI) z (wY (ym z) z (nl (th (WC.block ?_))))
   obtain ⟨a4, h, bY⟩ := flow1 h
   obtain ⟨a5, h⟩ := loop_some h
   refine WC.joinB 0 (σ := (List UInt64 × Own)) (fun x w' => a4 = .go x.1 ∧ Stp [1004, 1005] cu aF x.2 w' ∧ OwnSl 1006 Rep.u 25 x.2 w' (Value.slice l m n) x.1) (fun x => [(4, pt r 0), (5, pt am 0)]) ?_ ?_
   ·have bZ := ay.st e z z z
    obtain ⟨c2, a6, b0⟩ := OwnSl.rlb 1005 rfl bZ
    refine WC.loop (σ := (List UInt64 × Int × Own)) (fun x k w' => loopN k (hist_down_lp1 a0 a1) (x.1, x.2.1) = some a4 ∧ Stp [1004, 1005] cu aF x.2.2 w' ∧ OwnSl 1005 Rep.u 25 x.2.2 w' (Value.slice l m n) x.1) (fun x => [(1, vu a1), (2, pt aa 0), (4, pt r 0), (5, pt am 0), (23, (Value.slice V W Z)), (24, vi (a0.Counts.length : Int)), (25, vi x.2.1)]) (dl, 0, c2) a5 (.cons z (.cons z (.cons z (.cons z (.cons z (.cons z (.cons z .nil))))))) ⟨h, (su_ a6 z), b0⟩ ?_
    rintro ⟨c3, a7, c4⟩ a5 dC ⟨h, j, o⟩
    obtain ⟨c5, d0, rfl, h, aJ⟩ := rnd1 h
    unfold hist_down_lp1 at h
    try dsimp only at h j o
    refine (show WC _ _ _ _ [(1, vu a1), (2, pt aa 0), (4, pt r 0), (5, pt am 0), (23, (Value.slice V W Z)), (24, vi (a0.Counts.length : Int)), (25, vi a7)] _ from ?_)
    refine sq (rg (wY (Y.lss_i z z) z (nl (th (sq ?_)))))
    rcases cnd h with ⟨ae, h⟩ | ⟨ae, h⟩
    ·refine WC.condT' z ae (sk (th (sq (WC.block (sq (rg (wY (ym z) z ?_)))))))
     obtain ⟨c6, b1, h⟩ := bnd h
     have b2 := aI.i j z z
     obtain ⟨d1, dn, dp, dD, b3, b4, b5, af, a8, b6⟩ := Sl.at2 b2 b1
     obtain rfl := a8
     replace af : CellsAt _ _ _ [vu c6] := af
     have a9 := CAt.imm af b6
     refine wY (Y.indexAddr ty26 ty25 z b3 z b4 b5) z (wY (yl ty25 z z a9.at_) z (wY (ya z) z (wY (ya z) z (nl (th (rg (wY (yf fo28_1 z) z ?_)))))))
     have aK := aG.st j z
     refine wY (yl ty26 z z (aK.cell 1 _ z)) z (wY (yf fo28_0 z) z ?_)
     have b7 := aH.st j z
     refine wY (yl ty3 z z (b7.cell 0 _ z)) z (wY (ym z) z (wY (Y.add_i z z) z (wY (ym z) z (wY (Y.shr_iu z z) z (wY (yf fo28_0 z) z (wY (yl ty3 z z (aK.cell 0 _ z)) z (wY (Y.sub_i z z) z ?_)))))))
     obtain ⟨c7, b8, h⟩ := bnd h
     obtain ⟨d2, dr, dE, aL, b9, ca, ah, ba⟩ := OwnSl.at o b8
     obtain rfl := ba
     replace ah : CellsAt _ _ _ [vu c7] := ah
     have bb := CAt.own o aL ah
     refine wY (Y.indexAddr ty26 ty25 z aL z b9 ca) z (wY (yl ty25 z z bb.at_) z (wY (ym z) z (wY (Y.add_u z z) z ?_)))
     obtain ⟨c8, cb, h⟩ := bnd h
     obtain ⟨d3, ds, dF, ai, cc, cd, aj, bc⟩ := OwnSl.at o cb
     obtain rfl := bc
     replace aj : CellsAt _ _ _ [vu c8] := aj
     have dt := CAt.own o ai aj
     refine wY (Y.indexAddr ty26 ty25 z ai z cc cd) z ?_
     obtain ⟨d4, ce, h⟩ := lt1 h
     refine WL.ren 44 z (congrArg vu ce.symm) ?_
     obtain ⟨cf, bd, h⟩ := bnd h
     refine WL.storeOwn (by decide) ty25 z z z o ai bd ?_
     intro dG bf cg
     refine nl (At.inBlock (th (rg (wY (Y.add_i z z) z (wY (ym z) z (nl ?_))))))
     exact At.round (cf, w64 (a7 + 1), c4) c5 (Nat.lt_succ_self _) ⟨next1 h aJ, (tr_ (su_ j z) (su_ bf z)), cg⟩ (.cons z (.cons z (.cons z (.cons z (.cons z (.cons z (.cons z .nil)))))))
    ·refine WC.condF' z ae (WC.exit (At.thenX (At.loopX ?_)))
     obtain ⟨c9, bg, ch⟩ := OwnSl.rlb 1006 rfl o
     exact At.hitB (σ := (List UInt64 × Own)) (c3, c9) ⟨brk1 h aJ, (tr_ (su_ j z) (su_ bg z)), ch⟩ (.cons z (.cons z .nil))
   ·rintro ⟨d5, d6⟩ dH ⟨rfl, q, aM⟩
    replace h := flowK_go bY
    try dsimp only at h q aM
    refine (show At _ _ _ [(4, pt r 0), (5, pt am 0)] _ from ?_)
    refine At.inBlockHit (th (sq (rg ?_)))
    have ci := aG.st q z
    refine wY (yL ty28 z z (ci.cells 0 [vi (shrI a0.Offset a1.toNat), (Value.slice l m n)] z) z) z ?_
    have cj := aQ.st d z
    have ck := cj.st p z
    have cl := ck.st e z
    have cm := cl.st q z
    refine WL.store (v := ag [vi (shrI a0.Offset a1.toNat), (Value.slice l m n)]) (cells' := [vi (shrI a0.Offset a1.toNat), (Value.slice l m n)]) ty28 z z cm z (le_ z) z z ?_
    intro cn an co
    refine nl (th (rt ?_))
    obtain rfl := some1 h
    have cp := aM.st an z z z
    obtain ⟨da, ao, cq⟩ := OwnSl.giveF rfl Flat.u cp
    have aN : Stp [12, 13, 14, 15, 16, 17, 18, 1001, 1002, 1003, 1004, 1005, 1006] (Lg.O0 A) w da cn := (tr_ (su_ ab z) (tr_ (su_ t z) (tr_ (su_ d z) (tr_ (su_ p z) (tr_ (su_ e z) (tr_ (su_ q z) (tr_ (su_ an z) (su_ ao z))))))))
    have cr := co.st ao z
    exact At.res (.inl z) z (.cell z (cr.runAg 0 [vi (shrI a0.Offset a1.toNat), (Value.slice l m n)] ty28 z z z) .nil) ⟨(Value.slice l m n), z, (se_ aN z z), (Sl.outF cq aN low0)⟩
theorem c_hist_Down {A : Nat → Prop} {v0_3 : Value} {v0_5 : Value} {a0 : api_Hist} {a1 : Int} {w : World} (hs0_3 : Sl Rep.u w A v0_3 a0.Pos.Counts) (hs0_5 : Sl Rep.u w A v0_5 a0.Neg.Counts) {r0 : api_Hist} {r1 : Int} (h : hist_Down a0 a1 = some (r0, r1)) : Rets Try.prog 31 [ag [vi a0.Scale, vu a0.Zero, vi a0.Pos.Offset, v0_3, vi a0.Neg.Offset, v0_5], vi a1] w (fun v w' => ∃ (af : Value) (ah : Value), v = Value.tuple (List.toArray [ag [vi r0.Scale, vu r0.Zero, vi r0.Pos.Offset, af, vi r0.Neg.Offset, ah], vi r1]) ∧ Ext w w' ∧ Sl Rep.u w' (fun k => w.heap.size ≤ k) af r0.Pos.Counts ∧ Sl Rep.u w' (fun k => w.heap.size ≤ k) ah r0.Neg.Counts) := by
 unfold hist_Down at h
 refine Rets.enter Try.func31 z z ?_
 have ai : Sl Rep.u w (imm (Lg.O0 A)) v0_3 a0.Pos.Counts := (Sl.start hs0_3)
 have aj : Sl Rep.u w (imm (Lg.O0 A)) v0_5 a0.Neg.Counts := (Sl.start hs0_5)
 refine (show WC _ _ _ _ [(0, ag [vi a0.Scale, vu a0.Zero, vi a0.Pos.Offset, v0_3, vi a0.Neg.Offset, v0_5]), (1, vi a1)] _ from ?_)
 refine sq (rg ?_)
 have aZ := h
 obtain ⟨J, K, L, rfl⟩ := ai.shape
 have h := aZ
 have a2 := h
 obtain ⟨M, Q, T, rfl⟩ := aj.shape
 have h := a2
 refine WL.box (O := (Lg.O0 A)) 11 [vi a0.Scale, vu a0.Zero, vi a0.Pos.Offset, (Value.slice J K L), vi a0.Neg.Offset, (Value.slice M Q T)] z z z ?_
 intro aX bA bH l a3
 refine WL.alloc (O := bA) 12 [vi 0, vu 0, vi 0, Value.slice none 0 0, vi 0, Value.slice none 0 0] ty30 z z ?_
 intro aY bB bI j U
 refine wY (ya z) z (nl (th (sq (sq (rg ?_)))))
 have p := a3.st j z
 refine wY (yL ty30 z z (p.cells 0 [vi a0.Scale, vu a0.Zero, vi a0.Pos.Offset, (Value.slice J K L), vi a0.Neg.Offset, (Value.slice M Q T)] z) z) z ?_
 have a4 := ai.i l z z
 have ak := a4.i j z z
 have a5 := aj.i l z z
 have al := a5.i j z z
 obtain ⟨bQ, a6, h⟩ := bnd h
 refine WL.call (vals := [ag [vi a0.Scale, vu a0.Zero, vi a0.Pos.Offset, (Value.slice J K L), vi a0.Neg.Offset, (Value.slice M Q T)]]) kok28 z z (c_hist_Check (A := fun _ => True) (a0 := a0) (Sl.all ak) (Sl.all al) a6) ?_
 rintro bJ a7 ⟨rfl, a8⟩
 obtain ⟨aa, bC, bD, d⟩ := adoptE bB (fun k => 1) a8
 refine wY (ya z) z (nl (th (sq (rg (wY (ym z) z (wY (Y.neq_i z z) z (nl (th ?_))))))))
 rcases cnd h with ⟨V, h⟩ | ⟨V, h⟩
 ·refine WC.condT' z V (sq (rg (wY (yb (vals := []) (cells := [vi 0, vu 0, vi 0, Value.slice none 0 0, vi 0, Value.slice none 0 0]) (fe_ z) (by kernel_rfl)) z (wY (ym z) z ?_))))
  have a9 := U.st d z
  refine WL.store (v := ag [vi 0, vu 0, vi 0, Value.slice none 0 0, vi 0, Value.slice none 0 0]) (cells' := [vi 0, vu 0, vi 0, Value.slice none 0 0, vi 0, Value.slice none 0 0]) ty30 z z a9 z (le_ z) z z ?_
  intro ba ap bb
  refine wY (ya z) z (nl (th (rt (At.thenR ?_))))
  obtain ⟨rfl, rfl⟩ := tup2 h
  have bc : Stp [12] (Lg.O0 A) w aa ba := (tr_ (su_ l z) (tr_ (su_ j z) (tr_ (su_ d z) (su_ ap z))))
  exact At.res (.inl z) z (.cell z (bb.runAg 0 [vi 0, vu 0, vi 0, Value.slice none 0 0, vi 0, Value.slice none 0 0] ty30 z z z) (.tmp z .nil)) ⟨Value.slice none 0 0, Value.slice none 0 0, z, (se_ bc z z), (Or.inl ⟨z, z⟩), (Or.inl ⟨z, z⟩)⟩
 ·refine WC.condF' z V (sk (th (sq (sq (rg (wY (ym z) z (wY (Y.lss_i z z) z (wY (ym z) z ?_))))))))
  refine WL.cut 6 (σ := Unit) (fun _ w' => a7 = w') (fun _ => [(1, vi a1), (2, pt aX 0), (4, pt aY 0), (21, vB ((decide (a1 < 0)) || (decide (w64 (a0.Scale - (-10)) < a1))))]) ?_ ?_
  ·refine WL.part 15 z (fun W => ?_) (fun W => ?_)
   ·refine WL.gS z z z z (WL.gS z z z z (WL.gS z z z z (WL.gS z z z z (WL.gS z z z z (wY (Y.pick (b := true) z z) z (WL.ren (v' := vB ((decide (a1 < 0)) || (decide (w64 (a0.Scale - (-10)) < a1)))) 21 z (congrArg vB (orT W)) ?_))))))
    exact nl (At.join () z (.cons z (.cons z (.cons z (.cons z .nil)))))
   ·refine ug z z (wY (ym z) z (ug z z (wY (yf fo30_0 z) z (ug z z ?_))))
    have bd := p.st d z
    refine wY (yl ty3 z z (bd.cell 0 _ z)) z (ug z z (wY (Y.sub_i z z) z (ug z z (wY (Y.gtr_i z z) z (wY (Y.pick (b := false) z z) z (WL.ren (v' := vB ((decide (a1 < 0)) || (decide (w64 (a0.Scale - (-10)) < a1)))) 21 z (congrArg vB (orF W)) ?_))))))
    exact nl (At.join () z (.cons z (.cons z (.cons z (.cons z .nil)))))
  ·rintro _ _ rfl
   refine (show WL _ _ _ _ _ [(1, vi a1), (2, pt aX 0), (4, pt aY 0), (21, vB ((decide (a1 < 0)) || (decide (w64 (a0.Scale - (-10)) < a1))))] _ from ?_)
   refine nl (th ?_)
   rcases cnd h with ⟨Z, h⟩ | ⟨Z, h⟩
   ·refine WC.condT' z Z (sq (rg (wY (yb (vals := []) (cells := [vi 0, vu 0, vi 0, Value.slice none 0 0, vi 0, Value.slice none 0 0]) (fe_ z) (by kernel_rfl)) z ?_)))
    have bf := U.st d z
    refine WL.store (v := ag [vi 0, vu 0, vi 0, Value.slice none 0 0, vi 0, Value.slice none 0 0]) (cells' := [vi 0, vu 0, vi 0, Value.slice none 0 0, vi 0, Value.slice none 0 0]) ty30 z z bf z (le_ z) z z ?_
    intro bg aq bh
    refine wY (ya z) z (nl (th (rt (At.thenR ?_))))
    obtain ⟨rfl, rfl⟩ := tup2 h
    have bi : Stp [12] (Lg.O0 A) w aa bg := (tr_ (su_ l z) (tr_ (su_ j z) (tr_ (su_ d z) (su_ aq z))))
    exact At.res (.inl z) z (.cell z (bh.runAg 0 [vi 0, vu 0, vi 0, Value.slice none 0 0, vi 0, Value.slice none 0 0] ty30 z z z) (.tmp z .nil)) ⟨Value.slice none 0 0, Value.slice none 0 0, z, (se_ bi z z), (Or.inl ⟨z, z⟩), (Or.inl ⟨z, z⟩)⟩
   ·refine WC.condF' z Z (sk (th (sq (WC.drawH [] [0, 1, 2, 3, 4, 5, 6, 7, 8, 9, 10, 11, 12, 13, 14, 15, 16] aa 19 fmix z (by kernel_rfl) ?_))))
    intro bK e
    refine WD.y 0 z (by kernel_rfl) (fun _ _ _ => yf fo30_0 z) z (WD.y 1 z (by kernel_rfl) (fun bL bR ar => have bj := p.st d z; have bk := bj.st e z; have bl := bk.st ar z; yl ty3 z z (bl.cell 0 _ z)) z (WD.y 2 z (by kernel_rfl) (fun _ _ _ => ym z) z (WD.y 3 z (by kernel_rfl) (fun _ _ _ => Y.sub_i z z) z (WD.y 4 z (by kernel_rfl) (fun _ _ _ => yf fo30_1 z) z (WD.y 5 z (by kernel_rfl) (fun bM bS au => have bm := p.st d z; have bn := bm.st e z; have bo := bn.st au z; yl ty25 z z (bo.cell 1 _ z)) z (WD.y 6 z (by kernel_rfl) (fun _ _ _ => yf fo30_2 z) z (WD.y 7 z (by kernel_rfl) (fun bO bT av => have bp := p.st d z; have bq := bp.st e z; have br := bq.st av z; yL ty28 z z (br.cells 2 [vi a0.Pos.Offset, (Value.slice J K L)] z) z) z (WD.y 8 z (by kernel_rfl) (fun _ _ _ => ym z) z (WD.y 9 z (by kernel_rfl) (fun _ _ _ => Y.conv_iu ty3.u ty92.u z) z ?_)))))))))
    refine WD.y 11 z (by kernel_rfl) (fun _ _ _ => yf fo30_3 z) z (WD.y 12 z (by kernel_rfl) (fun bE bP am => have aw := p.st d z; have ax := aw.st e z; have ay := ax.st am z; yL ty28 z z (ay.cells 4 [vi a0.Neg.Offset, (Value.slice M Q T)] z) z) z (WD.y 13 z (by kernel_rfl) (fun _ _ _ => ym z) z (WD.y 14 z (by kernel_rfl) (fun _ _ _ => Y.conv_iu ty3.u ty92.u z) z (WD.heavy 10 z (by kernel_rfl) ?_))))
    have az := ak.i d z z
    have aA := az.i e z z
    obtain ⟨q, aC, h⟩ := bnd h
    refine WL.call (vals := [ag [vi a0.Pos.Offset, (Value.slice J K L)], vu (toU64 a1)]) kok60 z z (c_hist_down (A := fun _ => True) (a0 := a0.Pos) (Sl.all aA) aC) ?_
    rintro bF aD ⟨bs, rfl, aE, bt⟩
    obtain ⟨an, bx, ad, m⟩ := adoptE aa (fun k => 1) aE
    have aF : Sl Rep.u aD (frs an) bs q.Counts := Sl.adoptF bt (fun k hk => ⟨hk, z⟩) ad
    refine nl (At.dq (su_ m z) (WD.heavy 15 z (by kernel_rfl) ?_))
    have aG := al.i d z z
    have aH := aG.i e z z
    have aI := aH.i m z z
    obtain ⟨r, aJ, h⟩ := bnd h
    refine WL.call (vals := [ag [vi a0.Neg.Offset, (Value.slice M Q T)], vu (toU64 a1)]) kok60 z z (c_hist_down (A := fun _ => True) (a0 := a0.Neg) (Sl.all aI) aJ) ?_
    rintro bG aK ⟨bu, rfl, aL, bw⟩
    obtain ⟨ao, bz, ae, n⟩ := adoptE an (fun k => 1) aL
    have ab : Sl Rep.u aK (frs ao) bu r.Counts := Sl.adoptF bw (fun k hk => ⟨hk, z⟩) ae
    refine nl (At.dq (su_ n z) ?_)
    have ac := aF.f n z
    have aM := h
    obtain ⟨t, C, D, rfl⟩ := ac.shape
    have h := aM
    have aN := h
    obtain ⟨F, G, H, rfl⟩ := ab.shape
    have h := aN
    refine WD.y 16 z (by kernel_rfl) (fun _ _ _ => yb (vals := [(0, vi (w64 (a0.Scale - a1))), (1, vu a0.Zero), (2, ag [vi q.Offset, (Value.slice t C D)]), (3, ag [vi r.Offset, (Value.slice F G H)])]) (cells := [vi (w64 (a0.Scale - a1)), vu a0.Zero, vi q.Offset, (Value.slice t C D), vi r.Offset, (Value.slice F G H)]) (fe_ z) (by kernel_rfl)) z (WD.phase [12] [0, 1, 2, 3, 4, 5, 6, 7, 8, 9, 10, 11, 12, 13, 14, 15, 16, 17, 18] (by kernel_rfl) (by kernel_rfl) (WD.heavy 17 z (by kernel_rfl) ?_))
    have aO := U.st d z
    have aP := aO.st e z
    have aQ := aP.st m z
    have aR := aQ.st n z
    refine WL.store (v := ag [vi (w64 (a0.Scale - a1)), vu a0.Zero, vi q.Offset, (Value.slice t C D), vi r.Offset, (Value.slice F G H)]) (cells' := [vi (w64 (a0.Scale - a1)), vu a0.Zero, vi q.Offset, (Value.slice t C D), vi r.Offset, (Value.slice F G H)]) ty30 z z aR z (le_ z) z z ?_
    intro aS o aT
    refine nl (At.dq (su_ o z) (WD.y 18 z (by kernel_rfl) (fun _ _ _ => ya z) z (WD.done_ (by kernel_rfl) (th (rt ?_)))))
    obtain ⟨rfl, rfl⟩ := tup2 h
    have I : Stp [12] (Lg.O0 A) w ao aS := (tr_ (su_ l z) (tr_ (su_ j z) (tr_ (su_ d z) (tr_ (su_ e z) (tr_ (su_ m z) (tr_ (su_ n z) (su_ o z)))))))
    have aU := ac.f o z
    have aW := ab.f o z
    exact At.res (.inl z) z (.cell z (aT.runAg 0 [vi (w64 (a0.Scale - a1)), vu a0.Zero, vi q.Offset, (Value.slice t C D), vi r.Offset, (Value.slice F G H)] ty30 z z z) (.tmp z .nil)) ⟨(Value.slice t C D), (Value.slice F G H), z, (se_ I z z), (Sl.outF aU I low0), (Sl.outF aW I low0)⟩
theorem c_hist_Fit {A : Nat → Prop} {v0_3 : Value} {v0_5 : Value} {a0 : api_Hist} {a1 : Int} {w : World} (hs0_3 : Sl Rep.u w A v0_3 a0.Pos.Counts) (hs0_5 : Sl Rep.u w A v0_5 a0.Neg.Counts) {r0 : api_Hist} {r1 : Int} (h : hist_Fit a0 a1 = some (r0, r1)) : Rets Try.prog 43 [ag [vi a0.Scale, vu a0.Zero, vi a0.Pos.Offset, v0_3, vi a0.Neg.Offset, v0_5], vi a1] w (fun v w' => ∃ (ao : Value) (ap : Value), v = Value.tuple (List.toArray [ag [vi r0.Scale, vu r0.Zero, vi r0.Pos.Offset, ao, vi r0.Neg.Offset, ap], vi r1]) ∧ Ext w w' ∧ Sl Rep.u w' (fun k => w.heap.size ≤ k) ao r0.Pos.Counts ∧ Sl Rep.u w' (fun k => w.heap.size ≤ k) ap r0.Neg.Counts) := by
 unfold hist_Fit at h
 refine Rets.enter Try.func43 z z ?_
 have aq : Sl Rep.u w (imm (Lg.O0 A)) v0_3 a0.Pos.Counts := (Sl.start hs0_3)
 have ar : Sl Rep.u w (imm (Lg.O0 A)) v0_5 a0.Neg.Counts := (Sl.start hs0_5)
 refine (show WC _ _ _ _ [(0, ag [vi a0.Scale, vu a0.Zero, vi a0.Pos.Offset, v0_3, vi a0.Neg.Offset, v0_5]), (1, vi a1)] _ from ?_)
 refine sq (rg ?_)
 have bn := h
 obtain ⟨q, r, t, rfl⟩ := aq.shape
 have h := bn
 have bo := h
 obtain ⟨C, D, F, rfl⟩ := ar.shape
 have h := bo
 refine WL.box (O := (Lg.O0 A)) 11 [vi a0.Scale, vu a0.Zero, vi a0.Pos.Offset, (Value.slice q r t), vi a0.Neg.Offset, (Value.slice C D F)] z z z ?_
 intro bk bQ b2 p bp
 refine WL.alloc (O := bQ) 12 [vi 0, vu 0, vi 0, Value.slice none 0 0, vi 0, Value.slice none 0 0] ty30 z z ?_
 intro af bR b3 o aa
 refine wY (ya z) z (nl (th (sq (sq (rg ?_)))))
 have au := bp.st o z
 refine wY (yL ty30 z z (au.cells 0 [vi a0.Scale, vu a0.Zero, vi a0.Pos.Offset, (Value.slice q r t), vi a0.Neg.Offset, (Value.slice C D F)] z) z) z ?_
 have bq := aq.i p z z
 have av := bq.i o z z
 have br := ar.i p z z
 have aw := br.i o z z
 obtain ⟨cd, bs, h⟩ := bnd h
 refine WL.call (vals := [ag [vi a0.Scale, vu a0.Zero, vi a0.Pos.Offset, (Value.slice q r t), vi a0.Neg.Offset, (Value.slice C D F)]]) kok28 z z (c_hist_Check (A := fun _ => True) (a0 := a0) (Sl.all av) (Sl.all aw) bs) ?_
 rintro b4 ax ⟨rfl, bt⟩
 obtain ⟨ah, bS, bT, e⟩ := adoptE bR (fun k => 1) bt
 refine wY (ya z) z (nl (th (sq (rg (wY (ym z) z (wY (Y.neq_i z z) z (nl (th ?_))))))))
 rcases cnd h with ⟨ab, h⟩ | ⟨ab, h⟩
 ·refine WC.condT' z ab (sq (rg (wY (yb (vals := []) (cells := [vi 0, vu 0, vi 0, Value.slice none 0 0, vi 0, Value.slice none 0 0]) (fe_ z) (by kernel_rfl)) z (wY (ym z) z ?_))))
  have bu := aa.st e z
  refine WL.store (v := ag [vi 0, vu 0, vi 0, Value.slice none 0 0, vi 0, Value.slice none 0 0]) (cells' := [vi 0, vu 0, vi 0, Value.slice none 0 0, vi 0, Value.slice none 0 0]) ty30 z z bu z (le_ z) z z ?_
  intro bw aE bx
  refine wY (ya z) z (nl (th (rt (At.thenR ?_))))
  obtain ⟨rfl, rfl⟩ := tup2 h
  have bz : Stp [12] (Lg.O0 A) w ah bw := (tr_ (su_ p z) (tr_ (su_ o z) (tr_ (su_ e z) (su_ aE z))))
  exact At.res (.inl z) z (.cell z (bx.runAg 0 [vi 0, vu 0, vi 0, Value.slice none 0 0, vi 0, Value.slice none 0 0] ty30 z z z) (.tmp z .nil)) ⟨Value.slice none 0 0, Value.slice none 0 0, z, (se_ bz z z), (Or.inl ⟨z, z⟩), (Or.inl ⟨z, z⟩)⟩
 ·refine WC.condF' z ab (sk (th (sq (sq (rg (wY (ya z) z (nl (th (WC.block ?_)))))))))
  obtain ⟨bl, h, ay⟩ := flow1 h
  obtain ⟨bm, h⟩ := loop_some h
  refine WC.joinB 0 (σ := Own) (fun x w' => bl = .go () ∧ Stp [] ah ax x w') (fun x => [(4, pt af 0)]) ?_ ?_
  ·refine WC.loop (σ := (Int × Own)) (fun x k w' => loopN k (hist_Fit_lp1 a0 a1) x.1 = some bl ∧ Stp [] ah ax x.2 w') (fun x => [(1, vi a1), (2, pt bk 0), (4, pt af 0), (7, vi x.1)]) (0, ah) bm (.cons z (.cons z (.cons z (.cons z .nil)))) ⟨h, (sr_ _ _ _)⟩ ?_
   rintro ⟨I, az⟩ bm b5 ⟨h, m⟩
   obtain ⟨bU, ce, rfl, h, ac⟩ := rnd1 h
   unfold hist_Fit_lp1 at h
   try dsimp only at h m
   refine (show WC _ _ _ _ [(1, vi a1), (2, pt bk 0), (4, pt af 0), (7, vi I)] _ from ?_)
   refine sq (sq (rg (wY (ym z) z (wY (yf fo30_0 z) z ?_))))
   have bA := au.st e z
   have J := bA.st m z
   refine wY (yl ty3 z z (J.cell 0 _ z)) z (wY (Y.sub_i z z) z (wY (Y.leq_i z z) z (nl (th ?_))))
   rcases cnd h with ⟨ad, h⟩ | ⟨ad, h⟩
   ·refine WC.condT' z ad (sk (th (sq (WC.block (sq (WC.drawH [] [0, 1, 2, 3, 4, 5, 6, 7, 8, 9, 10, 11, 12] az 13 fmix z (by kernel_rfl) ?_))))))
    intro b6 n
    refine WD.y 0 z (by kernel_rfl) (fun _ _ _ => yf fo30_2 z) z (WD.y 1 z (by kernel_rfl) (fun b7 cf aF => have bB := J.st n z; have bC := bB.st aF z; yL ty28 z z (bC.cells 2 [vi a0.Pos.Offset, (Value.slice q r t)] z) z) z (WD.y 2 z (by kernel_rfl) (fun _ _ _ => ym z) z (WD.y 3 z (by kernel_rfl) (fun _ _ _ => Y.conv_iu ty3.u ty92.u z) z (WD.y 5 z (by kernel_rfl) (fun _ _ _ => yf fo30_3 z) z (WD.y 6 z (by kernel_rfl) (fun b8 cg aG => have bD := J.st n z; have bE := bD.st aG z; yL ty28 z z (bE.cells 4 [vi a0.Neg.Offset, (Value.slice C D F)] z) z) z (WD.y 7 z (by kernel_rfl) (fun _ _ _ => ym z) z (WD.y 8 z (by kernel_rfl) (fun _ _ _ => Y.conv_iu ty3.u ty92.u z) z (WD.y 11 z (by kernel_rfl) (fun _ _ _ => ym z) z (WD.heavy 4 z (by kernel_rfl) ?_)))))))))
    have aH := av.i e z z
    have aI := aH.i m z z
    have ai := aI.i n z z
    obtain ⟨b9, aJ, h⟩ := bnd h
    refine WL.call (vals := [ag [vi a0.Pos.Offset, (Value.slice q r t)], vu (toU64 I)]) kok73 z z (c_hist_span (A := fun _ => True) (a0 := a0.Pos) (Sl.all ai) aJ) ?_
    rintro bX bY ⟨rfl, aK⟩
    obtain ⟨bF, bK, bL, j⟩ := adoptE az (fun k => 1) aK
    refine nl (At.dq (su_ j z) (WD.heavy 9 z (by kernel_rfl) ?_))
    have aL := aw.i e z z
    have aM := aL.i m z z
    have aN := aM.i n z z
    have aj := aN.i j z z
    obtain ⟨ca, aO, h⟩ := bnd h
    refine WL.call (vals := [ag [vi a0.Neg.Offset, (Value.slice C D F)], vu (toU64 I)]) kok73 z z (c_hist_span (A := fun _ => True) (a0 := a0.Neg) (Sl.all aj) aO) ?_
    rintro bZ b0 ⟨rfl, aP⟩
    obtain ⟨aA, bM, bO, l⟩ := adoptE bF (fun k => 1) aP
    refine nl (At.dq (su_ l z) (WD.y 10 z (by kernel_rfl) (fun _ _ _ => Y.max_i z z) z (WD.y 12 z (by kernel_rfl) (fun _ _ _ => Y.leq_i z z) z (WD.done_ (by kernel_rfl) (th ?_)))))
    rcases cnd h with ⟨K, h⟩ | ⟨K, h⟩
    ·refine WC.condT' z K (sq (rg ?_))
     have aQ := J.st n z
     have aR := aQ.st j z
     have aS := aR.st l z
     refine wY (yL ty30 z z (aS.cells 0 [vi a0.Scale, vu a0.Zero, vi a0.Pos.Offset, (Value.slice q r t), vi a0.Neg.Offset, (Value.slice C D F)] z) z) z (wY (ym z) z ?_)
     have aT := ai.i j z z
     have aU := aT.i l z z
     have aW := aj.i l z z
     obtain ⟨⟨d, cb⟩, aX, h⟩ := bnd h
     refine WL.call (vals := [ag [vi a0.Scale, vu a0.Zero, vi a0.Pos.Offset, (Value.slice q r t), vi a0.Neg.Offset, (Value.slice C D F)], vi I]) kok31 z z (c_hist_Down (A := fun _ => True) (a0 := a0) (Sl.all aU) (Sl.all aW) aX) ?_
     rintro b1 ak ⟨bG, bH, rfl, aY, bI, bJ⟩
     obtain ⟨ae, bP, H, Z⟩ := adoptE aA (fun k => 1) aY
     have al : Sl Rep.u ak (frs ae) bG d.Pos.Counts := Sl.adoptF bI (fun k hk => ⟨hk, z⟩) H
     have am : Sl Rep.u ak (frs ae) bH d.Neg.Counts := Sl.adoptF bJ (fun k hk => ⟨hk, z⟩) H
     refine wY (yx z z) z (wY (yx z z) z ?_)
     have aZ := h
     obtain ⟨L, M, Q, rfl⟩ := al.shape
     have h := aZ
     have a2 := h
     obtain ⟨T, U, V, rfl⟩ := am.shape
     have h := a2
     have a3 := aa.st e z
     have a4 := a3.st m z
     have a5 := a4.st n z
     have a6 := a5.st j z
     have a7 := a6.st l z
     have a8 := a7.st Z z
     refine WL.store (v := ag [vi d.Scale, vu d.Zero, vi d.Pos.Offset, (Value.slice L M Q), vi d.Neg.Offset, (Value.slice T U V)]) (cells' := [vi d.Scale, vu d.Zero, vi d.Pos.Offset, (Value.slice L M Q), vi d.Neg.Offset, (Value.slice T U V)]) ty30 z z a8 z (le_ z) z z ?_
     intro a9 G ba
     refine wY (ya z) z (nl (th (rt (At.inBlockR (At.thenR (At.loopR ?_))))))
     have h := outr1 h ac ay
     refine At.joinBR (At.inBlockR (At.thenR ?_))
     obtain ⟨rfl, rfl⟩ := tup2 h
     have W : Stp [12] (Lg.O0 A) w ae a9 := (tr_ (su_ p z) (tr_ (su_ o z) (tr_ (su_ e z) (tr_ (su_ m z) (tr_ (su_ n z) (tr_ (su_ j z) (tr_ (su_ l z) (tr_ (su_ Z z) (su_ G z)))))))))
     have bb := al.f G z
     have bc := am.f G z
     exact At.res (.inl z) z (.cell z (ba.runAg 0 [vi d.Scale, vu d.Zero, vi d.Pos.Offset, (Value.slice L M Q), vi d.Neg.Offset, (Value.slice T U V)] ty30 z z z) (.tmp z .nil)) ⟨(Value.slice L M Q), (Value.slice T U V), z, (se_ W z z), (Sl.outF bb W low0), (Sl.outF bc W low0)⟩
    ·refine WC.condF' z K (sk (At.inBlock (th (rg (wY (ym z) z (wY (Y.add_i z z) z ?_))))))
     obtain ⟨bd, aC, h⟩ := lt1 h
     refine WL.yE (ya z) (congrArg vi aC.symm) z (nl ?_)
     exact At.round (bd, aA) bU (Nat.lt_succ_self _) ⟨next1 h ac, (tr_ (su_ m z) (tr_ (su_ n z) (tr_ (su_ j z) (su_ l z))))⟩ (.cons z (.cons z (.cons z (.cons z .nil))))
   ·refine WC.condF' z ad (WC.exit (At.thenX (At.loopX ?_)))
    exact At.hitB (σ := Own) az ⟨brk1 h ac, (su_ m z)⟩ (.cons z .nil)
  ·rintro bW cc ⟨rfl, an⟩
   replace h := flowK_go ay
   refine (show At _ _ _ [(4, pt af 0)] _ from ?_)
   refine At.inBlockHit (th (sq (rg (wY (yb (vals := []) (cells := [vi 0, vu 0, vi 0, Value.slice none 0 0, vi 0, Value.slice none 0 0]) (fe_ z) (by kernel_rfl)) z ?_))))
   have bf := aa.st e z
   have bg := bf.st an z
   refine WL.store (v := ag [vi 0, vu 0, vi 0, Value.slice none 0 0, vi 0, Value.slice none 0 0]) (cells' := [vi 0, vu 0, vi 0, Value.slice none 0 0, vi 0, Value.slice none 0 0]) ty30 z z bg z (le_ z) z z ?_
   intro bh aD bi
   refine wY (ya z) z (nl (th (rt ?_)))
   obtain ⟨rfl, rfl⟩ := tup2 h
   have bj : Stp [12] (Lg.O0 A) w bW bh := (tr_ (su_ p z) (tr_ (su_ o z) (tr_ (su_ e z) (tr_ (su_ an z) (su_ aD z)))))
   exact At.res (.inl z) z (.cell z (bi.runAg 0 [vi 0, vu 0, vi 0, Value.slice none 0 0, vi 0, Value.slice none 0 0] ty30 z z z) (.tmp z .nil)) ⟨Value.slice none 0 0, Value.slice none 0 0, z, (se_ bj z z), (Or.inl ⟨z, z⟩), (Or.inl ⟨z, z⟩)⟩
theorem c_tocum_check {A : Nat → Prop} {v0_9 : Value} {v0_11 : Value} {a0 : api_State} {v1_1 : Value} {v1_13 : Value} {v1_15 : Value} {a1 : api_Point} {w : World} (hs0_9 : Sl Rep.u w A v0_9 a0.Hist.Pos.Counts) (hs0_11 : Sl Rep.u w A v0_11 a0.Hist.Neg.Counts) (hs1_1 : Sl rep_api_Pair w A v1_1 a1.Attrs) (hs1_13 : Sl Rep.u w A v1_13 a1.Hist.Pos.Counts) (hs1_15 : Sl Rep.u w A v1_15 a1.Hist.Neg.Counts) {r0 : Int} (h : tocum_check a0 a1 = some r0) : Rets Try.prog 44 [ag [vB a0.Some, vi a0.Start, vi a0.Time, vi a0.Int_, vu a0.Re, vu a0.Im, vi a0.Hist.Scale, vu a0.Hist.Zero, vi a0.Hist.Pos.Offset, v0_9, vi a0.Hist.Neg.Offset, v0_11], ag [vs a1.Name, v1_1, vi a1.Kind, vi a1.Temp, vB a1.Mono, vi a1.Start, vi a1.Time, vi a1.Int_, vu a1.Re, vu a1.Im, vi a1.Hist.Scale, vu a1.Hist.Zero, vi a1.Hist.Pos.Offset, v1_13, vi a1.Hist.Neg.Offset, v1_15, vi a1.Flags]] w (fun v w' => v = vi r0 ∧ Ext w w') := by
 unfold tocum_check at h
 refine Rets.enter Try.func44 z z ?_
 have r : Sl Rep.u w (imm (Lg.O0 A)) v0_9 a0.Hist.Pos.Counts := (Sl.start hs0_9)
 have t : Sl Rep.u w (imm (Lg.O0 A)) v0_11 a0.Hist.Neg.Counts := (Sl.start hs0_11)
 have C : Sl rep_api_Pair w (imm (Lg.O0 A)) v1_1 a1.Attrs := (Sl.start hs1_1)
 have D : Sl Rep.u w (imm (Lg.O0 A)) v1_13 a1.Hist.Pos.Counts := (Sl.start hs1_13)
 have F : Sl Rep.u w (imm (Lg.O0 A)) v1_15 a1.Hist.Neg.Counts := (Sl.start hs1_15)
 refine (show WC _ _ _ _ [(0, ag [vB a0.Some, vi a0.Start, vi a0.Time, vi a0.Int_, vu a0.Re, vu a0.Im, vi a0.Hist.Scale, vu a0.Hist.Zero, vi a0.Hist.Pos.Offset, v0_9, vi a0.Hist.Neg.Offset, v0_11]), (1, ag [vs a1.Name, v1_1, vi a1.Kind, vi a1.Temp, vB a1.Mono, vi a1.Start, vi a1.Time, vi a1.Int_, vu a1.Re, vu a1.Im, vi a1.Hist.Scale, vu a1.Hist.Zero, vi a1.Hist.Pos.Offset, v1_13, vi a1.Hist.Neg.Offset, v1_15, vi a1.Flags])] _ from ?_)
 refine sq (rg ?_)
 have G := h
 obtain ⟨ad, ae, af, rfl⟩ := r.shape
 have h := G
 have H := h
 obtain ⟨ah, ai, aj, rfl⟩ := t.shape
 have h := H
 refine WL.box (O := (Lg.O0 A)) 11 [vB a0.Some, vi a0.Start, vi a0.Time, vi a0.Int_, vu a0.Re, vu a0.Im, vi a0.Hist.Scale, vu a0.Hist.Zero, vi a0.Hist.Pos.Offset, (Value.slice ad ae af), vi a0.Hist.Neg.Offset, (Value.slice ah ai aj)] z z z ?_
 intro ax ak aw d I
 have J := C.i d z z
 have K := h
 obtain ⟨al, am, an, rfl⟩ := J.shape
 have h := K
 have L := D.i d z z
 have M := h
 obtain ⟨ao, ap, aq, rfl⟩ := L.shape
 have h := M
 have Q := F.i d z z
 have T := h
 obtain ⟨ar, au, av, rfl⟩ := Q.shape
 have h := T
 refine WL.box (O := ak) 12 [vs a1.Name, (Value.slice al am an), vi a1.Kind, vi a1.Temp, vB a1.Mono, vi a1.Start, vi a1.Time, vi a1.Int_, vu a1.Re, vu a1.Im, vi a1.Hist.Scale, vu a1.Hist.Zero, vi a1.Hist.Pos.Offset, (Value.slice ao ap aq), vi a1.Hist.Neg.Offset, (Value.slice ar au av), vi a1.Flags] z z z ?_
 intro ay p j e q
 refine wY (ya z) z (nl (th (sq (WC.block (sq (rg (wY (yf fo32_0 z) z ?_)))))))
 have l := I.st e z
 refine wY (yl ty4 z z (l.cell 0 _ z)) z (wY (Y.not z) z ?_)
 obtain ⟨az, U, h⟩ := lt1 h
 refine WL.yE (ya z) (congrArg vB U.symm) z (nl (th ?_))
 rcases cnd h with ⟨m, h⟩ | ⟨m, h⟩
 ·refine WC.condT' z m (sk (At.inBlock (th (sq (rg (wY (ya z) z (nl (th (rt ?_)))))))))
  obtain rfl := some1 h
  have V : Stp [] (Lg.O0 A) w p j := (tr_ (su_ d z) (su_ e z))
  exact At.res (.inl z) z (.tmp z .nil) ⟨z, (se_ V z z)⟩
 ·refine WC.condF' z m (sq (rg (wY (yf fo37_6 z) z (wY (yl ty3 z z (q.cell 6 _ z)) z (wY (yf fo32_2 z) z (wY (yl ty3 z z (l.cell 2 _ z)) z (wY (Y.leq_i z z) z ?_)))))))
  obtain ⟨aA, W, h⟩ := lt1 h
  refine WL.yE (ya z) (congrArg vB W.symm) z (nl (th ?_))
  rcases cnd h with ⟨n, h⟩ | ⟨n, h⟩
  ·refine WC.condT' z n (sq (rg (wY (ya z) z (nl (th (rt (At.inBlockR (At.thenR ?_))))))))
   obtain rfl := some1 h
   have Z : Stp [] (Lg.O0 A) w p j := (tr_ (su_ d z) (su_ e z))
   exact At.res (.inl z) z (.tmp z .nil) ⟨z, (se_ Z z z)⟩
  ·refine WC.condF' z n (sq (rg (wY (yf fo37_5 z) z (wY (yl ty3 z z (q.cell 5 _ z)) z (wY (yf fo32_2 z) z (wY (yl ty3 z z (l.cell 2 _ z)) z (wY (Y.lss_i z z) z ?_)))))))
   obtain ⟨aC, aa, h⟩ := lt1 h
   refine WL.yE (ya z) (congrArg vB aa.symm) z (nl (th ?_))
   rcases cnd h with ⟨o, h⟩ | ⟨o, h⟩
   ·refine WC.condT' z o (sq (rg (wY (ya z) z (nl (th (rt (At.inBlockR (At.thenR ?_))))))))
    obtain rfl := some1 h
    have ab : Stp [] (Lg.O0 A) w p j := (tr_ (su_ d z) (su_ e z))
    exact At.res (.inl z) z (.tmp z .nil) ⟨z, (se_ ab z z)⟩
   ·refine WC.condF' z o (sk (At.inBlock (th (sq (rg (wY (ya z) z (nl (th (rt ?_)))))))))
    obtain rfl := some1 h
    have ac : Stp [] (Lg.O0 A) w p j := (tr_ (su_ d z) (su_ e z))
    exact At.res (.inl z) z (.tmp z .nil) ⟨z, (se_ ac z z)⟩
theorem c_fold_Level {A : Nat → Prop} {v0_3 : Value} {v0_5 : Value} {a0 : api_Hist} {v1_3 : Value} {v1_5 : Value} {a1 : api_Hist} {w : World} (hs0_3 : Sl Rep.u w A v0_3 a0.Pos.Counts) (hs0_5 : Sl Rep.u w A v0_5 a0.Neg.Counts) (hs1_3 : Sl Rep.u w A v1_3 a1.Pos.Counts) (hs1_5 : Sl Rep.u w A v1_5 a1.Neg.Counts) {r0 : api_Hist} {r1 : api_Hist} {r2 : Int} (h : fold_Level a0 a1 = some (r0, r1, r2)) : Rets Try.prog 52 [ag [vi a0.Scale, vu a0.Zero, vi a0.Pos.Offset, v0_3, vi a0.Neg.Offset, v0_5], ag [vi a1.Scale, vu a1.Zero, vi a1.Pos.Offset, v1_3, vi a1.Neg.Offset, v1_5]] w (fun v w' => ∃ (bd : Value) (bf : Value) (bg : Value) (bh : Value), v = Value.tuple (List.toArray [ag [vi r0.Scale, vu r0.Zero, vi r0.Pos.Offset, bd, vi r0.Neg.Offset, bf], ag [vi r1.Scale, vu r1.Zero, vi r1.Pos.Offset, bg, vi r1.Neg.Offset, bh], vi r2]) ∧ Ext w w' ∧ Sl Rep.u w' (fun k => w.heap.size ≤ k) bd r0.Pos.Counts ∧ Sl Rep.u w' (fun k => w.heap.size ≤ k) bf r0.Neg.Counts ∧ Sl Rep.u w' (fun k => w.heap.size ≤ k) bg r1.Pos.Counts ∧ Sl Rep.u w' (fun k => w.heap.size ≤ k) bh r1.Neg.Counts) := by
 unfold fold_Level at h
 refine Rets.enter Try.func52 z z ?_
 have aP : Sl Rep.u w (imm (Lg.O0 A)) v0_3 a0.Pos.Counts := (Sl.start hs0_3)
 have aQ : Sl Rep.u w (imm (Lg.O0 A)) v0_5 a0.Neg.Counts := (Sl.start hs0_5)
 have c9 : Sl Rep.u w (imm (Lg.O0 A)) v1_3 a1.Pos.Counts := (Sl.start hs1_3)
 have da : Sl Rep.u w (imm (Lg.O0 A)) v1_5 a1.Neg.Counts := (Sl.start hs1_5)
 refine (show WC _ _ _ _ [(0, ag [vi a0.Scale, vu a0.Zero, vi a0.Pos.Offset, v0_3, vi a0.Neg.Offset, v0_5]), (1, ag [vi a1.Scale, vu a1.Zero, vi a1.Pos.Offset, v1_3, vi a1.Neg.Offset, v1_5])] _ from ?_)
 refine sq (rg ?_)
 have db := h
 obtain ⟨K, L, M, rfl⟩ := aP.shape
 have h := db
 have dc := h
 obtain ⟨Q, T, U, rfl⟩ := aQ.shape
 have h := dc
 refine WL.box (O := (Lg.O0 A)) 11 [vi a0.Scale, vu a0.Zero, vi a0.Pos.Offset, (Value.slice K L M), vi a0.Neg.Offset, (Value.slice Q T U)] z z z ?_
 intro av dU ee V dd
 have aR := c9.i V z z
 have de := h
 obtain ⟨r, t, C, rfl⟩ := aR.shape
 have h := de
 have aS := da.i V z z
 have df := h
 obtain ⟨D, F, G, rfl⟩ := aS.shape
 have h := df
 refine WL.box (O := dU) 12 [vi a1.Scale, vu a1.Zero, vi a1.Pos.Offset, (Value.slice r t C), vi a1.Neg.Offset, (Value.slice D F G)] z z z ?_
 intro aw dV ef n dg
 refine WL.alloc (O := dV) 13 [vi 0, vu 0, vi 0, Value.slice none 0 0, vi 0, Value.slice none 0 0] ty30 z z ?_
 intro ax dW eg m bi
 refine WL.alloc (O := dW) 14 [vi 0, vu 0, vi 0, Value.slice none 0 0, vi 0, Value.slice none 0 0] ty30 z z ?_
 intro ay aY aT j bj
 refine wY (ya z) z (nl (th (sq (sq (rg ?_)))))
 have dh := dd.st n z
 have di := dh.st m z
 have bk := di.st j z
 refine wY (yL ty30 z z (bk.cells 0 [vi a0.Scale, vu a0.Zero, vi a0.Pos.Offset, (Value.slice K L M), vi a0.Neg.Offset, (Value.slice Q T U)] z) z) z ?_
 have dj := dg.st m z
 have bl := dj.st j z
 refine wY (yL ty30 z z (bl.cells 0 [vi a1.Scale, vu a1.Zero, vi a1.Pos.Offset, (Value.slice r t C), vi a1.Neg.Offset, (Value.slice D F G)] z) z) z (wY (yb (vals := [(0, ag [vi a0.Scale, vu a0.Zero, vi a0.Pos.Offset, (Value.slice K L M), vi a0.Neg.Offset, (Value.slice Q T U)]), (1, ag [vi a1.Scale, vu a1.Zero, vi a1.Pos.Offset, (Value.slice r t C), vi a1.Neg.Offset, (Value.slice D F G)])]) (cells := [vi a0.Scale, vu a0.Zero, vi a0.Pos.Offset, (Value.slice K L M), vi a0.Neg.Offset, (Value.slice Q T U), vi a1.Scale, vu a1.Zero, vi a1.Pos.Offset, (Value.slice r t C), vi a1.Neg.Offset, (Value.slice D F G)]) (fe_ z) (by kernel_rfl)) z (wY (ym z) z (nl (th ?_))))
 obtain ⟨dX, h, bm⟩ := flow1 h
 refine WC.join (σ := Own) (fun x w' => dX = .go () ∧ Stp [15] aY aT x w') (fun x => [(2, pt av 0), (3, pt aw 0), (4, pt ax 0), (5, pt ay 0)]) ?_ ?_
 ·refine WC.block ?_
  obtain ⟨c6, h, bn⟩ := flow1 h
  obtain ⟨c7, h⟩ := loop_some h
  refine WC.joinB 0 (σ := Own) (fun x w' => c6 = .go () ∧ Stp [15] aY aT x w') (fun x => [(2, pt av 0), (3, pt aw 0), (4, pt ax 0), (5, pt ay 0)]) ?_ ?_
  ·refine WC.loop (σ := (Int × Own)) (fun x k w' => loopN k (fold_Level_lp1 a0 a1) x.1 = some c6 ∧ Stp [15] aY aT x.2 w') (fun x => [(2, pt av 0), (3, pt aw 0), (4, pt ax 0), (5, pt ay 0), (13, ag [vi a0.Scale, vu a0.Zero, vi a0.Pos.Offset, (Value.slice K L M), vi a0.Neg.Offset, (Value.slice Q T U), vi a1.Scale, vu a1.Zero, vi a1.Pos.Offset, (Value.slice r t C), vi a1.Neg.Offset, (Value.slice D F G)]), (14, vi x.1)]) (0, aY) c7 (.cons z (.cons z (.cons z (.cons z (.cons z (.cons z .nil)))))) ⟨h, (sr_ _ _ _)⟩ ?_
   rintro ⟨c8, bo⟩ c7 dk ⟨h, o⟩
   obtain ⟨dY, er, rfl, h, aU⟩ := rnd1 h
   unfold fold_Level_lp1 at h
   try dsimp only at h o
   refine (show WC _ _ _ _ [(2, pt av 0), (3, pt aw 0), (4, pt ax 0), (5, pt ay 0), (13, ag [vi a0.Scale, vu a0.Zero, vi a0.Pos.Offset, (Value.slice K L M), vi a0.Neg.Offset, (Value.slice Q T U), vi a1.Scale, vu a1.Zero, vi a1.Pos.Offset, (Value.slice r t C), vi a1.Neg.Offset, (Value.slice D F G)]), (14, vi c8)] _ from ?_)
   refine sq (rg (wY (Y.lss_i z z) z (nl (th (sq ?_)))))
   rcases cnd h with ⟨aW, h⟩ | ⟨aW, h⟩
   ·refine WC.condT' z aW (sk (th (sq (WC.block (sq (rg ?_))))))
    have dl := aP.i V z z
    have dm := dl.i n z z
    have dn := dm.i m z z
    have dp := dn.i j z z
    have dr := dp.i o z z
    have ds := aQ.i V z z
    have dt := ds.i n z z
    have du := dt.i m z z
    have dw := du.i j z z
    have dx := dw.i o z z
    have dy := aR.i n z z
    have dz := dy.i m z z
    have dA := dz.i j z z
    have dB := dA.i o z z
    have dC := aS.i n z z
    have dD := dC.i m z z
    have dE := dD.i j z z
    have dF := dE.i o z z
    obtain ⟨l, bp, h⟩ := bnd h
    obtain ⟨eh, aC, bs⟩ := arrAt (R := rep_api_Hist) (w := dk) (A := imm bo) (cells := [vi a0.Scale, vu a0.Zero, vi a0.Pos.Offset, (Value.slice K L M), vi a0.Neg.Offset, (Value.slice Q T U), vi a1.Scale, vu a1.Zero, vi a1.Pos.Offset, (Value.slice r t C), vi a1.Neg.Offset, (Value.slice D F G)]) (xs := [a0, a1]) ⟨[vi a0.Scale, vu a0.Zero, vi a0.Pos.Offset, (Value.slice K L M), vi a0.Neg.Offset, (Value.slice Q T U)], [vi a1.Scale, vu a1.Zero, vi a1.Pos.Offset, (Value.slice r t C), vi a1.Neg.Offset, (Value.slice D F G)], rfl, ⟨[vi a0.Scale], [vu a0.Zero, vi a0.Pos.Offset, (Value.slice K L M), vi a0.Neg.Offset, (Value.slice Q T U)], rfl, rfl, ⟨[vu a0.Zero], [vi a0.Pos.Offset, (Value.slice K L M), vi a0.Neg.Offset, (Value.slice Q T U)], rfl, rfl, ⟨[vi a0.Pos.Offset, (Value.slice K L M)], [vi a0.Neg.Offset, (Value.slice Q T U)], rfl, ⟨[vi a0.Pos.Offset], [(Value.slice K L M)], rfl, rfl, ⟨_, rfl, dr⟩⟩, ⟨[vi a0.Neg.Offset], [(Value.slice Q T U)], rfl, rfl, ⟨_, rfl, dx⟩⟩⟩⟩⟩, ⟨[vi a1.Scale, vu a1.Zero, vi a1.Pos.Offset, (Value.slice r t C), vi a1.Neg.Offset, (Value.slice D F G)], [], rfl, ⟨[vi a1.Scale], [vu a1.Zero, vi a1.Pos.Offset, (Value.slice r t C), vi a1.Neg.Offset, (Value.slice D F G)], rfl, rfl, ⟨[vu a1.Zero], [vi a1.Pos.Offset, (Value.slice r t C), vi a1.Neg.Offset, (Value.slice D F G)], rfl, rfl, ⟨[vi a1.Pos.Offset, (Value.slice r t C)], [vi a1.Neg.Offset, (Value.slice D F G)], rfl, ⟨[vi a1.Pos.Offset], [(Value.slice r t C)], rfl, rfl, ⟨_, rfl, dB⟩⟩, ⟨[vi a1.Neg.Offset], [(Value.slice D F G)], rfl, rfl, ⟨_, rfl, dF⟩⟩⟩⟩⟩, rfl⟩⟩ bp
    obtain ⟨_, _, rfl, rfl, ⟨_, _, rfl, rfl, ⟨_, _, rfl, ⟨_, _, rfl, rfl, ⟨dZ, rfl, bt⟩⟩, ⟨_, _, rfl, rfl, ⟨dG, rfl, bu⟩⟩⟩⟩⟩ := bs
    replace aC : _ = [vi l.Scale, vu l.Zero, vi l.Pos.Offset, dZ, vi l.Neg.Offset, dG] := aC
    refine wY (Y.indexArrAg ty118 ty30 z z aC bp) z (WL.alloc (O := bo) 15 [vi 0, vu 0, vi 0, Value.slice none 0 0, vi 0, Value.slice none 0 0] ty30 z z ?_)
    intro ei dH d2 W bw
    have aZ := bt.i W z z
    have bx := h
    obtain ⟨aD, aE, aF, rfl⟩ := aZ.shape
    have h := bx
    have a2 := bu.i W z z
    have bz := h
    obtain ⟨aG, aH, aI, rfl⟩ := a2.shape
    have h := bz
    refine WL.store (v := ag [vi l.Scale, vu l.Zero, vi l.Pos.Offset, (Value.slice aD aE aF), vi l.Neg.Offset, (Value.slice aG aH aI)]) (cells' := [vi l.Scale, vu l.Zero, vi l.Pos.Offset, (Value.slice aD aE aF), vi l.Neg.Offset, (Value.slice aG aH aI)]) ty30 z z bw z (le_ z) z z ?_
    intro d3 Z bA
    refine nl (th (sq (rg (wY (yL ty30 z z (bA.cells 0 [vi l.Scale, vu l.Zero, vi l.Pos.Offset, (Value.slice aD aE aF), vi l.Neg.Offset, (Value.slice aG aH aI)] z) z) z ?_))))
    have bB := aZ.i Z z z
    have bC := a2.i Z z z
    obtain ⟨ej, bD, h⟩ := bnd h
    refine WL.call (vals := [ag [vi l.Scale, vu l.Zero, vi l.Pos.Offset, (Value.slice aD aE aF), vi l.Neg.Offset, (Value.slice aG aH aI)]]) kok28 z z (c_hist_Check (A := fun _ => True) (a0 := l) (Sl.all bB) (Sl.all bC) bD) ?_
    rintro d4 d5 ⟨rfl, bE⟩
    obtain ⟨bq, dQ, dR, aq⟩ := adoptE dH (fun k => 1) bE
    refine wY (ya z) z (nl (th (sq (rg (wY (ym z) z (wY (Y.neq_i z z) z (nl (th ?_))))))))
    rcases cnd h with ⟨aJ, h⟩ | ⟨aJ, h⟩
    ·refine WC.condT' z aJ (sq (rg (wY (yb (vals := []) (cells := [vi 0, vu 0, vi 0, Value.slice none 0 0, vi 0, Value.slice none 0 0]) (fe_ z) (by kernel_rfl)) z (wY (yb (vals := []) (cells := [vi 0, vu 0, vi 0, Value.slice none 0 0, vi 0, Value.slice none 0 0]) (fe_ z) (by kernel_rfl)) z (wY (ym z) z ?_)))))
     have bF := bi.st j z
     have bG := bF.st o z
     have bH := bG.st W z
     have bI := bH.st Z z
     have bJ := bI.st aq z
     refine WL.store (v := ag [vi 0, vu 0, vi 0, Value.slice none 0 0, vi 0, Value.slice none 0 0]) (cells' := [vi 0, vu 0, vi 0, Value.slice none 0 0, vi 0, Value.slice none 0 0]) ty30 z z bJ z (le_ z) z z ?_
     intro d6 aM bK
     have bL := bj.st o z
     have bM := bL.st W z
     have bO := bM.st Z z
     have bP := bO.st aq z
     have bQ := bP.st aM z
     refine WL.store (v := ag [vi 0, vu 0, vi 0, Value.slice none 0 0, vi 0, Value.slice none 0 0]) (cells' := [vi 0, vu 0, vi 0, Value.slice none 0 0, vi 0, Value.slice none 0 0]) ty30 z z bQ z (le_ z) z z ?_
     intro bR aN bS
     refine wY (ya z) z (nl (th (rt (At.inBlockR (At.thenR (At.loopR ?_))))))
     have h := outr1 h aU bn
     refine At.joinBR (At.inBlockR ?_)
     have h := outs1 h bm
     refine At.joinR (At.thenR ?_)
     obtain ⟨rfl, rfl, rfl⟩ := tup3 h
     have bT : Stp [13, 14, 15] (Lg.O0 A) w bq bR := (tr_ (su_ V z) (tr_ (su_ n z) (tr_ (su_ m z) (tr_ (su_ j z) (tr_ (su_ o z) (tr_ (su_ W z) (tr_ (su_ Z z) (tr_ (su_ aq z) (tr_ (su_ aM z) (su_ aN z))))))))))
     have bU := bK.st aN z
     exact At.res (.inl z) z (.cell z (bU.runAg 0 [vi 0, vu 0, vi 0, Value.slice none 0 0, vi 0, Value.slice none 0 0] ty30 z z z) (.cell z (bS.runAg 0 [vi 0, vu 0, vi 0, Value.slice none 0 0, vi 0, Value.slice none 0 0] ty30 z z z) (.tmp z .nil))) ⟨Value.slice none 0 0, Value.slice none 0 0, Value.slice none 0 0, Value.slice none 0 0, z, (se_ bT z z), (Or.inl ⟨z, z⟩), (Or.inl ⟨z, z⟩), (Or.inl ⟨z, z⟩), (Or.inl ⟨z, z⟩)⟩
    ·refine WC.condF' z aJ (sk (At.inBlock (th (rg (wY (Y.add_i z z) z (wY (ym z) z (nl ?_)))))))
     exact At.round (w64 (c8 + 1), bq) dY (Nat.lt_succ_self _) ⟨next1 h aU, (tr_ (su_ o z) (tr_ (su_ W z) (tr_ (su_ Z z) (su_ aq z))))⟩ (.cons z (.cons z (.cons z (.cons z (.cons z (.cons z .nil))))))
   ·refine WC.condF' z aW (WC.exit (At.thenX (At.loopX ?_)))
    exact At.hitB (σ := Own) bo ⟨brk1 h aU, (su_ o z)⟩ (.cons z (.cons z (.cons z (.cons z .nil))))
  ·rintro d0 ek ⟨rfl, bW⟩
   replace h := flowK_go bn
   refine (show At _ _ _ [(2, pt av 0), (3, pt aw 0), (4, pt ax 0), (5, pt ay 0)] _ from ?_)
   refine At.inBlockHit ?_
   exact At.join (σ := Own) d0 ⟨go2 h, (su_ bW z)⟩ (.cons z (.cons z (.cons z (.cons z .nil))))
 ·rintro d1 em ⟨rfl, q⟩
  replace h := flowK_go bm
  refine (show At _ _ _ [(2, pt av 0), (3, pt aw 0), (4, pt ax 0), (5, pt ay 0)] _ from ?_)
  refine th (sq (rg (wY (yf fo30_0 z) z ?_)))
  have aK := bk.st q z
  refine wY (yl ty3 z z (aK.cell 0 _ z)) z (wY (yf fo30_0 z) z ?_)
  have a3 := bl.st q z
  refine wY (yl ty3 z z (a3.cell 0 _ z)) z (wY (Y.min_i z z) z ?_)
  obtain ⟨au, aO, h⟩ := lt1 h
  refine WL.yE (ya z) (congrArg vi aO.symm) z (nl (th (sq (rg (wY (yL ty30 z z (aK.cells 0 [vi a0.Scale, vu a0.Zero, vi a0.Pos.Offset, (Value.slice K L M), vi a0.Neg.Offset, (Value.slice Q T U)] z) z) z (wY (yf fo30_0 z) z (wY (yl ty3 z z (aK.cell 0 _ z)) z (wY (ym z) z (wY (Y.sub_i z z) z ?_)))))))))
  have bX := aP.i V z z
  have bY := bX.i n z z
  have bZ := bY.i m z z
  have b0 := bZ.i j z z
  have b1 := b0.i q z z
  have b2 := aQ.i V z z
  have b3 := b2.i n z z
  have b4 := b3.i m z z
  have b5 := b4.i j z z
  have b6 := b5.i q z z
  obtain ⟨⟨d, en⟩, b7, h⟩ := bnd h
  refine WL.call (vals := [ag [vi a0.Scale, vu a0.Zero, vi a0.Pos.Offset, (Value.slice K L M), vi a0.Neg.Offset, (Value.slice Q T U)], vi (w64 (a0.Scale - au))]) kok31 z z (c_hist_Down (A := fun _ => True) (a0 := a0) (Sl.all b1) (Sl.all b6) b7) ?_
  rintro d7 a4 ⟨dI, dJ, rfl, b8, dK, dL⟩
  obtain ⟨aX, dS, az, aa⟩ := adoptE d1 (fun k => 1) b8
  have a5 : Sl Rep.u a4 (frs aX) dI d.Pos.Counts := Sl.adoptF dK (fun k hk => ⟨hk, z⟩) az
  have a6 : Sl Rep.u a4 (frs aX) dJ d.Neg.Counts := Sl.adoptF dL (fun k hk => ⟨hk, z⟩) az
  refine wY (ym z) z (wY (yx z z) z (wY (yx z z) z ?_))
  have b9 := h
  obtain ⟨ad, ae, af, rfl⟩ := a5.shape
  have h := b9
  have ca := h
  obtain ⟨ah, ai, aj, rfl⟩ := a6.shape
  have h := ca
  have cb := bi.st j z
  have cc := cb.st q z
  have cd := cc.st aa z
  refine WL.store (v := ag [vi d.Scale, vu d.Zero, vi d.Pos.Offset, (Value.slice ad ae af), vi d.Neg.Offset, (Value.slice ah ai aj)]) (cells' := [vi d.Scale, vu d.Zero, vi d.Pos.Offset, (Value.slice ad ae af), vi d.Neg.Offset, (Value.slice ah ai aj)]) ty30 z z cd z (le_ z) z z ?_
  intro d8 H ce
  refine nl (th (sq (rg ?_)))
  have cf := a3.st aa z
  have a7 := cf.st H z
  refine wY (yL ty30 z z (a7.cells 0 [vi a1.Scale, vu a1.Zero, vi a1.Pos.Offset, (Value.slice r t C), vi a1.Neg.Offset, (Value.slice D F G)] z) z) z (wY (yf fo30_0 z) z (wY (yl ty3 z z (a7.cell 0 _ z)) z (wY (ym z) z (wY (Y.sub_i z z) z ?_))))
  have cg := aR.i n z z
  have ch := cg.i m z z
  have ci := ch.i j z z
  have cj := ci.i q z z
  have ck := cj.i aa z z
  have cl := ck.i H z z
  have cm := aS.i n z z
  have cn := cm.i m z z
  have co := cn.i j z z
  have cp := co.i q z z
  have cq := cp.i aa z z
  have cr := cq.i H z z
  obtain ⟨⟨e, eo⟩, cs, h⟩ := bnd h
  refine WL.call (vals := [ag [vi a1.Scale, vu a1.Zero, vi a1.Pos.Offset, (Value.slice r t C), vi a1.Neg.Offset, (Value.slice D F G)], vi (w64 (a1.Scale - au))]) kok31 z z (c_hist_Down (A := fun _ => True) (a0 := a1) (Sl.all cl) (Sl.all cr) cs) ?_
  rintro d9 a8 ⟨dM, dN, rfl, ct, dO, dP⟩
  obtain ⟨aL, dT, aA, ac⟩ := adoptE aX (fun k => 1) ct
  have a9 : Sl Rep.u a8 (frs aL) dM e.Pos.Counts := Sl.adoptF dO (fun k hk => ⟨hk, z⟩) aA
  have ba : Sl Rep.u a8 (frs aL) dN e.Neg.Counts := Sl.adoptF dP (fun k hk => ⟨hk, z⟩) aA
  refine wY (ym z) z (wY (yx z z) z (wY (yx z z) z ?_))
  have cu := h
  obtain ⟨ak, al, am, rfl⟩ := a9.shape
  have h := cu
  have cw := h
  obtain ⟨an, ao, ap, rfl⟩ := ba.shape
  have h := cw
  have cx := bj.st q z
  have cy := cx.st aa z
  have cz := cy.st H z
  have cA := cz.st ac z
  refine WL.store (v := ag [vi e.Scale, vu e.Zero, vi e.Pos.Offset, (Value.slice ak al am), vi e.Neg.Offset, (Value.slice an ao ap)]) (cells' := [vi e.Scale, vu e.Zero, vi e.Pos.Offset, (Value.slice ak al am), vi e.Neg.Offset, (Value.slice an ao ap)]) ty30 z z cA z (le_ z) z z ?_
  intro ea ab bb
  refine nl (th (sq (WC.drawH [13] [0, 1, 2] aL 5 fmix z (by kernel_rfl) ?_)))
  intro eb p
  refine WD.y 1 z (by kernel_rfl) (fun ec ep br => have cC := bb.st p z; have cD := cC.st br z; yL ty30 z z (cD.cells 0 [vi e.Scale, vu e.Zero, vi e.Pos.Offset, (Value.slice ak al am), vi e.Neg.Offset, (Value.slice an ao ap)] z) z) z (WD.heavy 0 z (by kernel_rfl) ?_)
  have cE := ce.st ac z
  have cF := cE.st ab z
  have bc := cF.st p z
  refine wY (yL ty30 z z (bc.cells 0 [vi d.Scale, vu d.Zero, vi d.Pos.Offset, (Value.slice ad ae af), vi d.Neg.Offset, (Value.slice ah ai aj)] z) z) z (nl (At.dq (sr_ _ _ _) (WD.heavy 2 z (by kernel_rfl) (WL.store (v := ag [vi d.Scale, vu d.Zero, vi d.Pos.Offset, (Value.slice ad ae af), vi d.Neg.Offset, (Value.slice ah ai aj)]) (cells' := [vi d.Scale, vu d.Zero, vi d.Pos.Offset, (Value.slice ad ae af), vi d.Neg.Offset, (Value.slice ah ai aj)]) ty30 z z bc z (le_ z) z z ?_))))
  intro ed I cG
  refine nl (At.dq (su_ I z) (WD.phase [14] [0, 1, 2, 3, 4] (by kernel_rfl) (by kernel_rfl) (WD.heavy 3 z (by kernel_rfl) ?_)))
  have cH := bb.st p z
  have cI := cH.st I z
  refine WL.store (v := ag [vi e.Scale, vu e.Zero, vi e.Pos.Offset, (Value.slice ak al am), vi e.Neg.Offset, (Value.slice an ao ap)]) (cells' := [vi e.Scale, vu e.Zero, vi e.Pos.Offset, (Value.slice ak al am), vi e.Neg.Offset, (Value.slice an ao ap)]) ty30 z z cI z (le_ z) z z ?_
  intro cJ J cK
  refine nl (At.dq (su_ J z) (WD.y 4 z (by kernel_rfl) (fun _ _ _ => ya z) z (WD.done_ (by kernel_rfl) (th (rt ?_)))))
  obtain ⟨rfl, rfl, rfl⟩ := tup3 h
  have ar : Stp [13, 14, 15] (Lg.O0 A) w aL cJ := (tr_ (su_ V z) (tr_ (su_ n z) (tr_ (su_ m z) (tr_ (su_ j z) (tr_ (su_ q z) (tr_ (su_ aa z) (tr_ (su_ H z) (tr_ (su_ ac z) (tr_ (su_ ab z) (tr_ (su_ p z) (tr_ (su_ I z) (su_ J z))))))))))))
  have cL := a5.f H z
  have cM := cL.f ac z
  have cN := cM.f ab z
  have cO := cN.f p z
  have cP := cO.f I z
  have cQ := cP.f J z
  have cR := a6.f H z
  have cS := cR.f ac z
  have cT := cS.f ab z
  have cU := cT.f p z
  have cV := cU.f I z
  have cW := cV.f J z
  have cX := a9.f ab z
  have cY := cX.f p z
  have cZ := cY.f I z
  have c0 := cZ.f J z
  have c1 := ba.f ab z
  have c2 := c1.f p z
  have c3 := c2.f I z
  have c4 := c3.f J z
  have c5 := cG.st J z
  exact At.res (.inl z) z (.cell z (c5.runAg 0 [vi d.Scale, vu d.Zero, vi d.Pos.Offset, (Value.slice ad ae af), vi d.Neg.Offset, (Value.slice ah ai aj)] ty30 z z z) (.cell z (cK.runAg 0 [vi e.Scale, vu e.Zero, vi e.Pos.Offset, (Value.slice ak al am), vi e.Neg.Offset, (Value.slice an ao ap)] ty30 z z z) (.tmp z .nil))) ⟨(Value.slice ad ae af), (Value.slice ah ai aj), (Value.slice ak al am), (Value.slice an ao ap), z, (se_ ar z z), (Sl.outF cQ ar low0), (Sl.outF cW ar low0), (Sl.outF c0 ar low0), (Sl.outF c4 ar low0)⟩
theorem c_fold_ends {A : Nat → Prop} {v0_1 : Value} {a0 : api_Side} {w : World} (hs0_1 : Sl Rep.u w A v0_1 a0.Counts) {r0 : Int} {r1 : Int} (h : fold_ends a0 = some (r0, r1)) : Rets Try.prog 87 [ag [vi a0.Offset, v0_1]] w (fun v w' => v = tp [vi r0, vi r1] ∧ Ext w w') := by
 unfold fold_ends at h
 refine Rets.enter Try.func87 z z ?_
 have l : Sl Rep.u w (imm (Lg.O0 A)) v0_1 a0.Counts := (Sl.start hs0_1)
 refine (show WC _ _ _ _ [(0, ag [vi a0.Offset, v0_1])] _ from ?_)
 refine sq (rg ?_)
 have o := h
 obtain ⟨D, F, G, rfl⟩ := l.shape
 have h := o
 refine WL.box (O := (Lg.O0 A)) 11 [vi a0.Offset, (Value.slice D F G)] z z z ?_
 intro J n H j p
 refine wY (ya z) z (wY (ya z) z (nl (th (sq (WC.draw 9 n fmix (by kernel_rfl) ?_)))))
 intro q d
 refine WS.y (yf fo28_0 z) z ?_
 have e := p.st d z
 refine WS.y (yl ty3 z z (e.cell 0 _ z)) z (WS.y (yf fo28_0 z) z (WS.y (yl ty3 z z (e.cell 0 _ z)) z (WS.y (yf fo28_1 z) z (WS.y (yl ty26 z z (e.cell 1 _ z)) z ?_))))
 have r := l.i j z z
 have t := r.i d z z
 refine WS.y (Y.len ty26 z t) z (WS.y (Y.add_i z z) z (WS.y (ya z) z (WS.tail ?_)))
 obtain ⟨I, m, h⟩ := lt1 h
 refine WL.yE (ya z) (congrArg vi m.symm) z (nl (th (rt ?_)))
 obtain ⟨rfl, rfl⟩ := tup2 h
 have C : Stp [] (Lg.O0 A) w n q := (tr_ (su_ j z) (su_ d z))
 exact At.res (.inl z) z (.tmp z (.tmp z .nil)) ⟨z, (se_ C z z)⟩
theorem c_fold_cover {A : Nat → Prop} {v0_1 : Value} {a0 : api_Side} {v1_1 : Value} {a1 : api_Side} {w : World} (hs0_1 : Sl Rep.u w A v0_1 a0.Counts) (hs1_1 : Sl Rep.u w A v1_1 a1.Counts) {r0 : Int} {r1 : Int} (h : fold_cover a0 a1 = some (r0, r1)) : Rets Try.prog 61 [ag [vi a0.Offset, v0_1], ag [vi a1.Offset, v1_1]] w (fun v w' => v = tp [vi r0, vi r1] ∧ Ext w w') := by
 unfold fold_cover at h
 refine Rets.enter Try.func61 z z ?_
 have F : Sl Rep.u w (imm (Lg.O0 A)) v0_1 a0.Counts := (Sl.start hs0_1)
 have ab : Sl Rep.u w (imm (Lg.O0 A)) v1_1 a1.Counts := (Sl.start hs1_1)
 refine (show WC _ _ _ _ [(0, ag [vi a0.Offset, v0_1]), (1, ag [vi a1.Offset, v1_1])] _ from ?_)
 refine sq (rg ?_)
 have ac := h
 obtain ⟨G, H, I, rfl⟩ := F.shape
 have h := ac
 refine WL.box (O := (Lg.O0 A)) 11 [vi a0.Offset, (Value.slice G H I)] z z z ?_
 intro aQ ay aI e ad
 have o := ab.i e z z
 have ae := h
 obtain ⟨J, K, L, rfl⟩ := o.shape
 have h := ae
 refine WL.box (O := ay) 12 [vi a1.Offset, (Value.slice J K L)] z z z ?_
 intro aR n aJ d p
 refine wY (ya z) z (wY (ya z) z (nl (th (sq (sq (rg (wY (yf fo28_1 z) z ?_)))))))
 have q := ad.st d z
 refine wY (yl ty26 z z (q.cell 1 _ z)) z ?_
 have af := F.i e z z
 have r := af.i d z z
 refine wY (Y.len ty26 z r) z (wY (Y.eql_i z z) z (nl (th ?_)))
 rcases cnd h with ⟨t, h⟩ | ⟨t, h⟩
 ·refine WC.condT' z t (sq (WC.draw 6 n fmix (by kernel_rfl) ?_))
  intro ah j
  refine WS.y (yf fo28_0 z) z ?_
  have M := p.st j z
  refine WS.y (yl ty3 z z (M.cell 0 _ z)) z (WS.y (yf fo28_1 z) z (WS.y (yl ty26 z z (M.cell 1 _ z)) z ?_))
  have ai := o.i d z z
  have aj := ai.i j z z
  refine WS.y (Y.len ty26 z aj) z (WS.y (ya z) z (WS.tail ?_))
  obtain ⟨aK, V, h⟩ := lt1 h
  refine WL.yE (ya z) (congrArg vi V.symm) z (nl (th (rt (At.thenR ?_))))
  obtain ⟨rfl, rfl⟩ := tup2 h
  have ak : Stp [] (Lg.O0 A) w n ah := (tr_ (su_ e z) (tr_ (su_ d z) (su_ j z)))
  exact At.res (.inl z) z (.tmp z (.tmp z .nil)) ⟨z, (se_ ak z z)⟩
 ·refine WC.condF' z t (sk (th (sq (sq (rg (wY (yf fo28_1 z) z (wY (yl ty26 z z (p.cell 1 _ z)) z ?_)))))))
  have Q := o.i d z z
  refine wY (Y.len ty26 z Q) z (wY (Y.eql_i z z) z (nl (th ?_)))
  rcases cnd h with ⟨C, h⟩ | ⟨C, h⟩
  ·refine WC.condT' z C (sq (WC.draw 6 n fmix (by kernel_rfl) ?_))
   intro al l
   refine WS.y (yf fo28_0 z) z ?_
   have T := q.st l z
   refine WS.y (yl ty3 z z (T.cell 0 _ z)) z (WS.y (yf fo28_1 z) z (WS.y (yl ty26 z z (T.cell 1 _ z)) z ?_))
   have am := r.i l z z
   refine WS.y (Y.len ty26 z am) z (WS.y (ya z) z (WS.tail ?_))
   obtain ⟨aL, W, h⟩ := lt1 h
   refine WL.yE (ya z) (congrArg vi W.symm) z (nl (th (rt (At.thenR ?_))))
   obtain ⟨rfl, rfl⟩ := tup2 h
   have an : Stp [] (Lg.O0 A) w n al := (tr_ (su_ e z) (tr_ (su_ d z) (su_ l z)))
   exact At.res (.inl z) z (.tmp z (.tmp z .nil)) ⟨z, (se_ an z z)⟩
  ·refine WC.condF' z C (sk (th (sq (rg (wY (yL ty28 z z (q.cells 0 [vi a0.Offset, (Value.slice G H I)] z) z) z ?_)))))
   obtain ⟨⟨aS, aT⟩, ao, h⟩ := bnd h
   refine WL.call (vals := [ag [vi a0.Offset, (Value.slice G H I)]]) kok87 z z (c_fold_ends (A := fun _ => True) (a0 := a0) (Sl.all r) ao) ?_
   rintro aM aN ⟨rfl, ap⟩
   obtain ⟨az, aA, aC, m⟩ := adoptE n (fun k => 1) ap
   refine wY (ym z) z (wY (yx z z) z (wY (yx z z) z (wY (ya z) z (wY (ya z) z (nl (th (sq (rg ?_))))))))
   have aq := p.st m z
   refine wY (yL ty28 z z (aq.cells 0 [vi a1.Offset, (Value.slice J K L)] z) z) z ?_
   have ar := Q.i m z z
   obtain ⟨⟨aU, aW⟩, au, h⟩ := bnd h
   refine WL.call (vals := [ag [vi a1.Offset, (Value.slice J K L)]]) kok87 z z (c_fold_ends (A := fun _ => True) (a0 := a1) (Sl.all ar) au) ?_
   rintro aO av ⟨rfl, aw⟩
   obtain ⟨aD, aE, aF, Z⟩ := adoptE az (fun k => 1) aw
   refine wY (ym z) z (wY (yx z z) z (wY (yx z z) z (wY (ya z) z (wY (ya z) z (nl (th (sq (rg (wY (ym z) z ?_)))))))))
   refine wY (ym z) z (wY (Y.min_i z z) z (wY (ym z) z (wY (ym z) z (wY (Y.max_i z z) z ?_))))
   obtain ⟨aG, D, h⟩ := lt1 h
   refine WL.yE (ya z) (congrArg vi D.symm) z ?_
   obtain ⟨aH, U, h⟩ := lt1 h
   refine WL.yE (ya z) (congrArg vi U.symm) z (nl (th (sq (rg (wY (ym z) z (wY (ym z) z (wY (ym z) z (wY (Y.sub_i z z) z (wY (ya z) z ?_)))))))))
   obtain ⟨aP, aa, h⟩ := lt1 h
   refine WL.yE (ya z) (congrArg vi aa.symm) z (nl (th (rt ?_)))
   obtain ⟨rfl, rfl⟩ := tup2 h
   have ax : Stp [] (Lg.O0 A) w aD av := (tr_ (su_ e z) (tr_ (su_ d z) (tr_ (su_ m z) (su_ Z z))))
   exact At.res (.inl z) z (.tmp z (.tmp z .nil)) ⟨z, (se_ ax z z)⟩
theorem c_hist_At {A : Nat → Prop} {v0_1 : Value} {a0 : api_Side} {a1 : Int} {w : World} (hs0_1 : Sl Rep.u w A v0_1 a0.Counts) {r0 : UInt64} (h : hist_At a0 a1 = some r0) : Rets Try.prog 62 [ag [vi a0.Offset, v0_1], vi a1] w (fun v w' => v = vu r0 ∧ Ext w w') := by
 unfold hist_At at h
 refine Rets.enter Try.func62 z z ?_
 have j : Sl Rep.u w (imm (Lg.O0 A)) v0_1 a0.Counts := (Sl.start hs0_1)
 refine (show WC _ _ _ _ [(0, ag [vi a0.Offset, v0_1]), (1, vi a1)] _ from ?_)
 refine sq (rg ?_)
 have C := h
 obtain ⟨Q, T, U, rfl⟩ := j.shape
 have h := C
 refine WL.box (O := (Lg.O0 A)) 11 [vi a0.Offset, (Value.slice Q T U)] z z z ?_
 intro r t l d e
 refine wY (ya (v := vu 0) z) z (nl (th (sq (sq (rg (wY (ym z) z (wY (yf fo28_0 z) z (wY (yl ty3 z z (e.cell 0 _ z)) z (wY (Y.lss_i z z) z ?_)))))))))
 refine wY (ym z) z ?_
 refine WL.cut 12 (σ := Unit) (fun _ w' => l = w') (fun _ => [(1, vi a1), (2, pt r 0), (21, vB ((decide (a1 < a0.Offset)) || (decide (toU64 (a0.Counts.length : Int) ≤ ((toU64 a1) - (toU64 a0.Offset))))))]) ?_ ?_
 ·refine WL.part 9 z (fun m => ?_) (fun m => ?_)
  ·refine WL.gS z z z z (WL.gS z z z z (WL.gS z z z z (WL.gS z z z z (WL.gS z z z z (WL.gS z z z z (WL.gS z z z z (WL.gS z z z z (WL.gS z z z z (WL.gS z z z z ?_)))))))))
   refine WL.gS z z z z (wY (Y.pick (b := true) z z) z (WL.ren (v' := vB ((decide (a1 < a0.Offset)) || (decide (toU64 (a0.Counts.length : Int) ≤ ((toU64 a1) - (toU64 a0.Offset)))))) 21 z (congrArg vB (orT m)) ?_))
   exact nl (At.join () z (.cons z (.cons z (.cons z .nil))))
  ·refine ug z z (wY (ym z) z (ug z z (wY (Y.conv_iu ty3.u ty25.u z) z (ug z z (wY (yf fo28_0 z) z (ug z z (wY (yl ty3 z z (e.cell 0 _ z)) z (ug z z (wY (Y.conv_iu ty3.u ty25.u z) z ?_)))))))))
   refine ug z z (wY (Y.sub_u z z) z (ug z z (wY (yf fo28_1 z) z (ug z z (wY (yl ty26 z z (e.cell 1 _ z)) z (ug z z ?_))))))
   have D := j.i d z z
   refine wY (Y.len ty26 z D) z (ug z z (wY (Y.conv_iu ty3.u ty25.u z) z (ug z z (wY (Y.geq_u z z) z (wY (Y.pick (b := false) z z) z (WL.ren (v' := vB ((decide (a1 < a0.Offset)) || (decide (toU64 (a0.Counts.length : Int) ≤ ((toU64 a1) - (toU64 a0.Offset)))))) 21 z (congrArg vB (orF m)) ?_))))))
   exact nl (At.join () z (.cons z (.cons z (.cons z .nil))))
 ·rintro _ _ rfl
  refine (show WL _ _ _ _ _ [(1, vi a1), (2, pt r 0), (21, vB ((decide (a1 < a0.Offset)) || (decide (toU64 (a0.Counts.length : Int) ≤ ((toU64 a1) - (toU64 a0.Offset))))))] _ from ?_)
  refine nl (th ?_)
  rcases cnd h with ⟨n, h⟩ | ⟨n, h⟩
  ·refine WC.condT' z n (sq (rg (wY (ya (v := vu 0) z) z (nl (th (rt (At.thenR ?_)))))))
   obtain rfl := some1 h
   have F : Stp [] (Lg.O0 A) w t l := (su_ d z)
   exact At.res (.inl z) z (.tmp z .nil) ⟨z, (se_ F z z)⟩
  ·refine WC.condF' z n (sk (th (sq (rg (wY (yf fo28_1 z) z (wY (yl ty26 z z (e.cell 1 _ z)) z (wY (ym z) z (wY (yf fo28_0 z) z (wY (yl ty3 z z (e.cell 0 _ z)) z ?_)))))))))
   refine wY (Y.sub_i z z) z ?_
   obtain ⟨V, G, h⟩ := bnd h
   have H := j.i d z z
   obtain ⟨ab, W, Z, aa, I, J, K, o, p, L⟩ := Sl.at2 H G
   obtain rfl := p
   replace o : CellsAt _ _ _ [vu V] := o
   have q := CAt.imm o L
   refine wY (Y.indexAddr ty26 ty25 z I z J K) z (wY (yl ty25 z z q.at_) z (wY (ya z) z (nl (th (rt ?_)))))
   obtain rfl := some1 h
   have M : Stp [] (Lg.O0 A) w t l := (su_ d z)
   exact At.res (.inl z) z (.tmp z .nil) ⟨z, (se_ M z z)⟩
end Go.Lg
