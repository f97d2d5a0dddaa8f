/- The walks of TocumTogether and of what it calls, printed by gen.py. -/
import Derived.Test.YtoiklipabcecfaaTgLgPart2
import Derived.Test.YtoiklipabcecfaaTgLgPart5
import Derived.Test.YtoiklipabcecfaaProg
set_option linter.unusedVariables false
namespace Go.Lg
open Go Go.Proofs
set_option maxRecDepth 100000
set_option maxHeartbeats 4000000
theorem fmix : Try.prog.follows .mixedOrders = true := by kernel_rfl
theorem ty3 : TyOk Try.prog 3 (.int .i64) 1 8 (.int .i64 0) := tyOk Try.underlying3 (by kernel_rfl)
theorem ty4 : TyOk Try.prog 4 .bool 1 1 (.bool false) := tyOk Try.underlying4 (by kernel_rfl)
theorem ty5 : TyOk Try.prog 5 (.int .u8) 1 1 (.int .u8 0) := tyOk Try.underlying5 (by kernel_rfl)
theorem ty9 : TyOk Try.prog 9 .string 1 16 (.string ⟨#[]⟩) := tyOk Try.underlying9 (by kernel_rfl)
theorem ty25 : TyOk Try.prog 25 (.int .u64) 1 8 (.int .u64 0) := tyOk Try.underlying25 (by kernel_rfl)
theorem ty26 : TyOk Try.prog 26 (.slice 25) 1 24 (.slice none 0 0) := tyOk Try.underlying26 (by kernel_rfl)
theorem ty28 : TyOk Try.prog 28 (.struct #[(Field.mk "Offset" 3 0 false "" "" 0), (Field.mk "Counts" 26 1 false "" "" 8)]) 2 32 (.agg #[(.int .i64 0), (.slice none 0 0)]) := tyOk Try.underlying28 (by kernel_rfl)
theorem ty30 : TyOk Try.prog 30 (.struct #[(Field.mk "Scale" 3 0 false "" "" 0), (Field.mk "Zero" 25 1 false "" "" 8), (Field.mk "Pos" 28 2 false "" "" 16), (Field.mk "Neg" 28 4 false "" "" 48)]) 6 80 (.agg #[(.int .i64 0), (.int .u64 0), (.int .i64 0), (.slice none 0 0), (.int .i64 0), (.slice none 0 0)]) := tyOk Try.underlying30 (by kernel_rfl)
theorem ty32 : TyOk Try.prog 32 (.struct #[(Field.mk "Some" 4 0 false "" "" 0), (Field.mk "Start" 3 1 false "" "" 8), (Field.mk "Time" 3 2 false "" "" 16), (Field.mk "Int" 3 3 false "" "" 24), (Field.mk "Re" 25 4 false "" "" 32), (Field.mk "Im" 25 5 false "" "" 40), (Field.mk "Hist" 30 6 false "" "" 48)]) 12 128 (.agg #[(.bool false), (.int .i64 0), (.int .i64 0), (.int .i64 0), (.int .u64 0), (.int .u64 0), (.int .i64 0), (.int .u64 0), (.int .i64 0), (.slice none 0 0), (.int .i64 0), (.slice none 0 0)]) := tyOk Try.underlying32 (by kernel_rfl)
theorem ty35 : TyOk Try.prog 35 (.slice 107) 1 24 (.slice none 0 0) := tyOk Try.underlying35 (by kernel_rfl)
theorem ty37 : TyOk Try.prog 37 (.struct #[(Field.mk "Name" 9 0 false "" "" 0), (Field.mk "Attrs" 35 1 false "" "" 16), (Field.mk "Kind" 3 2 false "" "" 40), (Field.mk "Temp" 3 3 false "" "" 48), (Field.mk "Mono" 4 4 false "" "" 56), (Field.mk "Start" 3 5 false "" "" 64), (Field.mk "Time" 3 6 false "" "" 72), (Field.mk "Int" 3 7 false "" "" 80), (Field.mk "Re" 25 8 false "" "" 88), (Field.mk "Im" 25 9 false "" "" 96), (Field.mk "Hist" 30 10 false "" "" 104), (Field.mk "Flags" 3 16 false "" "" 184)]) 17 192 (.agg #[(.string ⟨#[]⟩), (.slice none 0 0), (.int .i64 0), (.int .i64 0), (.bool false), (.int .i64 0), (.int .i64 0), (.int .i64 0), (.int .u64 0), (.int .u64 0), (.int .i64 0), (.int .u64 0), (.int .i64 0), (.slice none 0 0), (.int .i64 0), (.slice none 0 0), (.int .i64 0)]) := tyOk Try.underlying37 (by kernel_rfl)
theorem ty38 : TyOk Try.prog 38 (.int .i64) 1 8 (.int .i64 0) := tyOk Try.underlying38 (by kernel_rfl)
theorem ty83 : TyOk Try.prog 83 (.struct #[(Field.mk "X" 30 0 false "" "" 0), (Field.mk "Y" 30 6 false "" "" 80), (Field.mk "E" 38 12 false "" "" 160)]) 13 168 (.agg #[(.int .i64 0), (.int .u64 0), (.int .i64 0), (.slice none 0 0), (.int .i64 0), (.slice none 0 0), (.int .i64 0), (.int .u64 0), (.int .i64 0), (.slice none 0 0), (.int .i64 0), (.slice none 0 0), (.int .i64 0)]) := tyOk Try.underlying83 (by kernel_rfl)
theorem ty86 : TyOk Try.prog 86 (.array 2 28) 4 64 (.agg #[(.int .i64 0), (.slice none 0 0), (.int .i64 0), (.slice none 0 0)]) := tyOk Try.underlying86 (by kernel_rfl)
theorem ty92 : TyOk Try.prog 92 (.int .u64) 1 8 (.int .u64 0) := tyOk Try.underlying92 (by kernel_rfl)
theorem ty93 : TyOk Try.prog 93 (.pointer 28) 1 8 (.pointer none) := tyOk Try.underlying93 (by kernel_rfl)
theorem ty94 : TyOk Try.prog 94 (.struct #[(Field.mk "to" 93 0 false "" "limnograph/fold" 0), (Field.mk "a" 28 1 false "" "limnograph/fold" 8), (Field.mk "b" 28 3 false "" "limnograph/fold" 40)]) 5 72 (.agg #[(.pointer none), (.int .i64 0), (.slice none 0 0), (.int .i64 0), (.slice none 0 0)]) := tyOk Try.underlying94 (by kernel_rfl)
theorem ty95 : TyOk Try.prog 95 (.slice 94) 1 24 (.slice none 0 0) := tyOk Try.underlying95 (by kernel_rfl)
theorem ty107 : TyOk Try.prog 107 (.struct #[(Field.mk "Key" 9 0 false "" "" 0), (Field.mk "Val" 9 1 false "" "" 16)]) 2 32 (.agg #[(.string ⟨#[]⟩), (.string ⟨#[]⟩)]) := tyOk Try.underlying107 (by kernel_rfl)
theorem ty118 : TyOk Try.prog 118 (.array 2 30) 12 160 (.agg #[(.int .i64 0), (.int .u64 0), (.int .i64 0), (.slice none 0 0), (.int .i64 0), (.slice none 0 0), (.int .i64 0), (.int .u64 0), (.int .i64 0), (.slice none 0 0), (.int .i64 0), (.slice none 0 0)]) := tyOk Try.underlying118 (by kernel_rfl)
theorem ty124 : TyOk Try.prog 124 (.slice 5) 1 24 (.slice none 0 0) := tyOk Try.underlying124 (by kernel_rfl)
theorem fo28_0 : FieldOk Try.prog 28 0 0 := fieldOk Try.underlying28 rfl rfl (by kernel_rfl)
theorem fo28_1 : FieldOk Try.prog 28 1 1 := fieldOk Try.underlying28 rfl rfl (by kernel_rfl)
theorem fo30_0 : FieldOk Try.prog 30 0 0 := fieldOk Try.underlying30 rfl rfl (by kernel_rfl)
theorem fo30_1 : FieldOk Try.prog 30 1 1 := fieldOk Try.underlying30 rfl rfl (by kernel_rfl)
theorem fo30_2 : FieldOk Try.prog 30 2 2 := fieldOk Try.underlying30 rfl rfl (by kernel_rfl)
theorem fo30_3 : FieldOk Try.prog 30 3 4 := fieldOk Try.underlying30 rfl rfl (by kernel_rfl)
theorem fo32_0 : FieldOk Try.prog 32 0 0 := fieldOk Try.underlying32 rfl rfl (by kernel_rfl)
theorem fo32_1 : FieldOk Try.prog 32 1 1 := fieldOk Try.underlying32 rfl rfl (by kernel_rfl)
theorem fo32_2 : FieldOk Try.prog 32 2 2 := fieldOk Try.underlying32 rfl rfl (by kernel_rfl)
theorem fo32_3 : FieldOk Try.prog 32 3 3 := fieldOk Try.underlying32 rfl rfl (by kernel_rfl)
theorem fo32_4 : FieldOk Try.prog 32 4 4 := fieldOk Try.underlying32 rfl rfl (by kernel_rfl)
theorem fo32_5 : FieldOk Try.prog 32 5 5 := fieldOk Try.underlying32 rfl rfl (by kernel_rfl)
theorem fo32_6 : FieldOk Try.prog 32 6 6 := fieldOk Try.underlying32 rfl rfl (by kernel_rfl)
theorem fo37_0 : FieldOk Try.prog 37 0 0 := fieldOk Try.underlying37 rfl rfl (by kernel_rfl)
theorem fo37_1 : FieldOk Try.prog 37 1 1 := fieldOk Try.underlying37 rfl rfl (by kernel_rfl)
theorem fo37_2 : FieldOk Try.prog 37 2 2 := fieldOk Try.underlying37 rfl rfl (by kernel_rfl)
theorem fo37_3 : FieldOk Try.prog 37 3 3 := fieldOk Try.underlying37 rfl rfl (by kernel_rfl)
theorem fo37_4 : FieldOk Try.prog 37 4 4 := fieldOk Try.underlying37 rfl rfl (by kernel_rfl)
theorem fo37_5 : FieldOk Try.prog 37 5 5 := fieldOk Try.underlying37 rfl rfl (by kernel_rfl)
theorem fo37_6 : FieldOk Try.prog 37 6 6 := fieldOk Try.underlying37 rfl rfl (by kernel_rfl)
theorem fo37_7 : FieldOk Try.prog 37 7 7 := fieldOk Try.underlying37 rfl rfl (by kernel_rfl)
theorem fo37_8 : FieldOk Try.prog 37 8 8 := fieldOk Try.underlying37 rfl rfl (by kernel_rfl)
theorem fo37_9 : FieldOk Try.prog 37 9 9 := fieldOk Try.underlying37 rfl rfl (by kernel_rfl)
theorem fo37_10 : FieldOk Try.prog 37 10 10 := fieldOk Try.underlying37 rfl rfl (by kernel_rfl)
theorem fo37_11 : FieldOk Try.prog 37 11 16 := fieldOk Try.underlying37 rfl rfl (by kernel_rfl)
theorem fo83_0 : FieldOk Try.prog 83 0 0 := fieldOk Try.underlying83 rfl rfl (by kernel_rfl)
theorem fo83_1 : FieldOk Try.prog 83 1 6 := fieldOk Try.underlying83 rfl rfl (by kernel_rfl)
theorem fo83_2 : FieldOk Try.prog 83 2 12 := fieldOk Try.underlying83 rfl rfl (by kernel_rfl)
theorem fo94_0 : FieldOk Try.prog 94 0 0 := fieldOk Try.underlying94 rfl rfl (by kernel_rfl)
theorem fo94_1 : FieldOk Try.prog 94 1 1 := fieldOk Try.underlying94 rfl rfl (by kernel_rfl)
theorem fo94_2 : FieldOk Try.prog 94 2 3 := fieldOk Try.underlying94 rfl rfl (by kernel_rfl)
theorem fo107_0 : FieldOk Try.prog 107 0 0 := fieldOk Try.underlying107 rfl rfl (by kernel_rfl)
theorem fo107_1 : FieldOk Try.prog 107 1 1 := fieldOk Try.underlying107 rfl rfl (by kernel_rfl)
theorem x64_58 : X64 Try.prog 58 := x64 Try.func58 (by kernel_rfl) rfl (by kernel_rfl) (by kernel_rfl)
theorem xfrom_95 : XFrom Try.prog 95 := xfrom Try.func95 (by kernel_rfl) rfl (by kernel_rfl) (by kernel_rfl)
theorem xbits_115 : XBits Try.prog 115 := xbits Try.func115 (by kernel_rfl) rfl (by kernel_rfl) (by kernel_rfl)
theorem kok14 : CallOk Try.prog 14 := callOk Try.func14 (by kernel_rfl) rfl
theorem kok16 : CallOk Try.prog 16 := callOk Try.func16 (by kernel_rfl) rfl
theorem kok18 : CallOk Try.prog 18 := callOk Try.func18 (by kernel_rfl) rfl
theorem kok20 : CallOk Try.prog 20 := callOk Try.func20 (by kernel_rfl) rfl
theorem kok24 : CallOk Try.prog 24 := callOk Try.func24 (by kernel_rfl) rfl
theorem kok25 : CallOk Try.prog 25 := callOk Try.func25 (by kernel_rfl) rfl
theorem kok26 : CallOk Try.prog 26 := callOk Try.func26 (by kernel_rfl) rfl
theorem kok27 : CallOk Try.prog 27 := callOk Try.func27 (by kernel_rfl) rfl
theorem kok28 : CallOk Try.prog 28 := callOk Try.func28 (by kernel_rfl) rfl
theorem kok31 : CallOk Try.prog 31 := callOk Try.func31 (by kernel_rfl) rfl
theorem kok32 : CallOk Try.prog 32 := callOk Try.func32 (by kernel_rfl) rfl
theorem kok35 : CallOk Try.prog 35 := callOk Try.func35 (by kernel_rfl) rfl
theorem kok36 : CallOk Try.prog 36 := callOk Try.func36 (by kernel_rfl) rfl
theorem kok37 : CallOk Try.prog 37 := callOk Try.func37 (by kernel_rfl) rfl
theorem kok38 : CallOk Try.prog 38 := callOk Try.func38 (by kernel_rfl) rfl
theorem kok39 : CallOk Try.prog 39 := callOk Try.func39 (by kernel_rfl) rfl
theorem kok40 : CallOk Try.prog 40 := callOk Try.func40 (by kernel_rfl) rfl
theorem kok41 : CallOk Try.prog 41 := callOk Try.func41 (by kernel_rfl) rfl
theorem kok43 : CallOk Try.prog 43 := callOk Try.func43 (by kernel_rfl) rfl
theorem kok44 : CallOk Try.prog 44 := callOk Try.func44 (by kernel_rfl) rfl
theorem kok45 : CallOk Try.prog 45 := callOk Try.func45 (by kernel_rfl) rfl
theorem kok46 : CallOk Try.prog 46 := callOk Try.func46 (by kernel_rfl) rfl
theorem kok47 : CallOk Try.prog 47 := callOk Try.func47 (by kernel_rfl) rfl
theorem kok52 : CallOk Try.prog 52 := callOk Try.func52 (by kernel_rfl) rfl
theorem kok53 : CallOk Try.prog 53 := callOk Try.func53 (by kernel_rfl) rfl
theorem kok54 : CallOk Try.prog 54 := callOk Try.func54 (by kernel_rfl) rfl
theorem kok55 : CallOk Try.prog 55 := callOk Try.func55 (by kernel_rfl) rfl
theorem kok56 : CallOk Try.prog 56 := callOk Try.func56 (by kernel_rfl) rfl
theorem kok57 : CallOk Try.prog 57 := callOk Try.func57 (by kernel_rfl) rfl
theorem kok59 : CallOk Try.prog 59 := callOk Try.func59 (by kernel_rfl) rfl
theorem kok60 : CallOk Try.prog 60 := callOk Try.func60 (by kernel_rfl) rfl
theorem kok61 : CallOk Try.prog 61 := callOk Try.func61 (by kernel_rfl) rfl
theorem kok62 : CallOk Try.prog 62 := callOk Try.func62 (by kernel_rfl) rfl
theorem kok64 : CallOk Try.prog 64 := callOk Try.func64 (by kernel_rfl) rfl
theorem kok67 : CallOk Try.prog 67 := callOk Try.func67 (by kernel_rfl) rfl
theorem kok68 : CallOk Try.prog 68 := callOk Try.func68 (by kernel_rfl) rfl
theorem kok69 : CallOk Try.prog 69 := callOk Try.func69 (by kernel_rfl) rfl
theorem kok70 : CallOk Try.prog 70 := callOk Try.func70 (by kernel_rfl) rfl
theorem kok71 : CallOk Try.prog 71 := callOk Try.func71 (by kernel_rfl) rfl
theorem kok72 : CallOk Try.prog 72 := callOk Try.func72 (by kernel_rfl) rfl
theorem kok73 : CallOk Try.prog 73 := callOk Try.func73 (by kernel_rfl) rfl
theorem kok74 : CallOk Try.prog 74 := callOk Try.func74 (by kernel_rfl) rfl
theorem kok75 : CallOk Try.prog 75 := callOk Try.func75 (by kernel_rfl) rfl
theorem kok76 : CallOk Try.prog 76 := callOk Try.func76 (by kernel_rfl) rfl
theorem kok82 : CallOk Try.prog 82 := callOk Try.func82 (by kernel_rfl) rfl
theorem kok83 : CallOk Try.prog 83 := callOk Try.func83 (by kernel_rfl) rfl
theorem kok84 : CallOk Try.prog 84 := callOk Try.func84 (by kernel_rfl) rfl
theorem kok85 : CallOk Try.prog 85 := callOk Try.func85 (by kernel_rfl) rfl
theorem kok86 : CallOk Try.prog 86 := callOk Try.func86 (by kernel_rfl) rfl
theorem kok87 : CallOk Try.prog 87 := callOk Try.func87 (by kernel_rfl) rfl
theorem kok88 : CallOk Try.prog 88 := callOk Try.func88 (by kernel_rfl) rfl
theorem kok93 : CallOk Try.prog 93 := callOk Try.func93 (by kernel_rfl) rfl
theorem kok94 : CallOk Try.prog 94 := callOk Try.func94 (by kernel_rfl) rfl
theorem kok96 : CallOk Try.prog 96 := callOk Try.func96 (by kernel_rfl) rfl
theorem kok97 : CallOk Try.prog 97 := callOk Try.func97 (by kernel_rfl) rfl
theorem kok105 : CallOk Try.prog 105 := callOk Try.func105 (by kernel_rfl) rfl
theorem kok106 : CallOk Try.prog 106 := callOk Try.func106 (by kernel_rfl) rfl
theorem kok107 : CallOk Try.prog 107 := callOk Try.func107 (by kernel_rfl) rfl
theorem kok108 : CallOk Try.prog 108 := callOk Try.func108 (by kernel_rfl) rfl
theorem kok109 : CallOk Try.prog 109 := callOk Try.func109 (by kernel_rfl) rfl
theorem kok110 : CallOk Try.prog 110 := callOk Try.func110 (by kernel_rfl) rfl
theorem kok114 : CallOk Try.prog 114 := callOk Try.func114 (by kernel_rfl) rfl
theorem kok117 : CallOk Try.prog 117 := callOk Try.func117 (by kernel_rfl) rfl
theorem c_hist_sides {A : Nat → Prop} {v0_3 : Value} {v0_5 : Value} {a0 : api_Hist} {w : World} (hs0_3 : Sl Rep.u w A v0_3 a0.Pos.Counts) (hs0_5 : Sl Rep.u w A v0_5 a0.Neg.Counts) {r0 : List api_Side} (h : hist_sides a0 = some r0) : Rets Try.prog 57 [ag [vi a0.Scale, vu a0.Zero, vi a0.Pos.Offset, v0_3, vi a0.Neg.Offset, v0_5]] w (fun v w' => ∃ (F : List Value), v = Value.agg (List.toArray F) ∧ Ext w w' ∧ Rows' rep_api_Side w' (fun k => A k ∨ w.heap.size ≤ k) F r0 ∧ r0.length = 2) := by
 unfold hist_sides at h
 refine Rets.enter Try.func57 z z ?_
 have r : Sl Rep.u w (imm (Lg.O0 A)) v0_3 a0.Pos.Counts := (Sl.start hs0_3)
 have t : Sl Rep.u w (imm (Lg.O0 A)) v0_5 a0.Neg.Counts := (Sl.start hs0_5)
 refine (show WC _ _ _ _ [(0, ag [vi a0.Scale, vu a0.Zero, vi a0.Pos.Offset, v0_3, vi a0.Neg.Offset, v0_5])] _ from ?_)
 refine sq (rg ?_)
 have H := h
 obtain ⟨l, m, n, rfl⟩ := r.shape
 have h := H
 have I := h
 obtain ⟨d, e, j, rfl⟩ := t.shape
 have h := I
 refine WL.box (O := (Lg.O0 A)) 11 [vi a0.Scale, vu a0.Zero, vi a0.Pos.Offset, (Value.slice l m n), vi a0.Neg.Offset, (Value.slice d e j)] z z z ?_
 intro ab W Z p J
 refine WL.alloc (O := W) 12 [vi 0, Value.slice none 0 0, vi 0, Value.slice none 0 0] ty86 z z ?_
 intro ac G aa o K
 refine nl (th (sq (rg (wY (yf fo30_2 z) z ?_))))
 have C := J.st o z
 refine wY (yL ty28 z z (C.cells 2 [vi a0.Pos.Offset, (Value.slice l m n)] z) z) z (wY (yf fo30_3 z) z (wY (yL ty28 z z (C.cells 4 [vi a0.Neg.Offset, (Value.slice d e j)] z) z) z (wY (yb (vals := [(0, ag [vi a0.Pos.Offset, (Value.slice l m n)]), (1, ag [vi a0.Neg.Offset, (Value.slice d e j)])]) (cells := [vi a0.Pos.Offset, (Value.slice l m n), vi a0.Neg.Offset, (Value.slice d e j)]) (fe_ z) (by kernel_rfl)) z (WL.store (v := ag [vi a0.Pos.Offset, (Value.slice l m n), vi a0.Neg.Offset, (Value.slice d e j)]) (cells' := [vi a0.Pos.Offset, (Value.slice l m n), vi a0.Neg.Offset, (Value.slice d e j)]) ty86 z z K z (le_ z) z z ?_))))
 intro L q M
 refine nl (th (rt ?_))
 obtain rfl := some1 h
 have D : Stp [12] (Lg.O0 A) w G L := (tr_ (su_ p z) (tr_ (su_ o z) (su_ q z)))
 have P := r.i p z z
 have Q := P.i o z z
 have S := Q.i q z z
 have T := t.i p z z
 have U := T.i o z z
 have V := U.i q z z
 exact At.res (.inl z) z (.cell z (M.runAg 0 [vi a0.Pos.Offset, (Value.slice l m n), vi a0.Neg.Offset, (Value.slice d e j)] ty86 z z z) .nil) ⟨[vi a0.Pos.Offset, (Value.slice l m n), vi a0.Neg.Offset, (Value.slice d e j)], z, (se_ D z z), (Rows'.outI (O' := G) (R := rep_api_Side) ⟨[vi a0.Pos.Offset, (Value.slice l m n)], [vi a0.Neg.Offset, (Value.slice d e j)], z, ⟨[vi a0.Pos.Offset], [(Value.slice l m n)], z, z, ⟨_, z, S⟩⟩, ⟨[vi a0.Neg.Offset, (Value.slice d e j)], [], z, ⟨[vi a0.Neg.Offset], [(Value.slice d e j)], z, z, ⟨_, z, V⟩⟩, z⟩⟩ D low0 O0_A), z⟩
theorem c_hist_Total {A : Nat → Prop} {v0_3 : Value} {v0_5 : Value} {a0 : api_Hist} {w : World} (hs0_3 : Sl Rep.u w A v0_3 a0.Pos.Counts) (hs0_5 : Sl Rep.u w A v0_5 a0.Neg.Counts) {r0 : UInt64} {r1 : Bool} (h : hist_Total a0 = some (r0, r1)) : Rets Try.prog 27 [ag [vi a0.Scale, vu a0.Zero, vi a0.Pos.Offset, v0_3, vi a0.Neg.Offset, v0_5]] w (fun v w' => v = tp [vu r0, vB r1] ∧ Ext w w') := by
 unfold hist_Total at h
 refine Rets.enter Try.func27 z z ?_
 have ai : Sl Rep.u w (imm (Lg.O0 A)) v0_3 a0.Pos.Counts := (Sl.start hs0_3)
 have aj : Sl Rep.u w (imm (Lg.O0 A)) v0_5 a0.Neg.Counts := (Sl.start hs0_5)
 refine (show WC _ _ _ _ [(0, ag [vi a0.Scale, vu a0.Zero, vi a0.Pos.Offset, v0_3, vi a0.Neg.Offset, v0_5])] _ from ?_)
 refine sq (rg ?_)
 have aX := h
 obtain ⟨ak, al, am, rfl⟩ := ai.shape
 have h := aX
 have aY := h
 obtain ⟨an, ao, ap, rfl⟩ := aj.shape
 have h := aY
 refine WL.box (O := (Lg.O0 A)) 11 [vi a0.Scale, vu a0.Zero, vi a0.Pos.Offset, (Value.slice ak al am), vi a0.Neg.Offset, (Value.slice an ao ap)] z z z ?_
 intro bE aq bw j ar
 refine wY (ya (v := vu 0) z) z (wY (ya z) z (nl (th (sq (rg (wY (yf fo30_1 z) z (wY (yl ty25 z z (ar.cell 1 _ z)) z (wY (ya z) z (wY (ya (v := vu 0) z) z ?_)))))))))
 refine nl (th (sq (sq (rg (wY (yL ty30 z z (ar.cells 0 [vi a0.Scale, vu a0.Zero, vi a0.Pos.Offset, (Value.slice ak al am), vi a0.Neg.Offset, (Value.slice an ao ap)] z) z) z ?_)))))
 have aZ := ai.i j z z
 have a1 := aj.i j z z
 obtain ⟨bi, a2, h⟩ := bnd h
 refine WL.call (vals := [ag [vi a0.Scale, vu a0.Zero, vi a0.Pos.Offset, (Value.slice ak al am), vi a0.Neg.Offset, (Value.slice an ao ap)]]) kok57 z z (c_hist_sides (A := imm aq) (a0 := a0) aZ a1 a2) ?_
 rintro bx J ⟨d, rfl, a3, bj, bk⟩
 obtain ⟨P, au, av, Q⟩ := adoptE aq (fun k => 1) a3
 have a4 := Rows'.adoptI (O := aq) bj (fun _ hk => hk) (fun _ _ => Nat.le_refl _) au av
 refine wY (ym z) z (nl (th ?_))
 obtain ⟨bl, h, a5⟩ := bnd h
 refine WC.join (σ := (UInt64 × UInt64 × Own)) (fun x w' => (x.1, x.2.1) = bl ∧ Stp [12] P J x.2.2 w') (fun x => [(4, vu x.1), (5, vu x.2.1)]) ?_ ?_
 ·refine WC.block ?_
  obtain ⟨aQ, h, a6⟩ := flow1 h
  obtain ⟨aR, h⟩ := loop_some h
  refine WC.joinB 0 (σ := (UInt64 × UInt64 × Own)) (fun x w' => aQ = .go (x.1, x.2.1) ∧ Stp [12] P J x.2.2 w') (fun x => [(4, vu x.1), (5, vu x.2.1)]) ?_ ?_
  ·refine WC.loop (σ := (UInt64 × UInt64 × Int × Own)) (fun x k w' => loopN k (hist_Total_lp1 bi) (x.1, x.2.1, x.2.2.1) = some aQ ∧ Stp [12] P J x.2.2.2 w') (fun x => [(4, vu x.1), (5, vu x.2.1), (14, Value.agg (List.toArray d)), (15, vi x.2.2.1)]) (a0.Zero, 0, 0, P) aR (.cons z (.cons z (.cons z (.cons z .nil)))) ⟨h, (sr_ _ _ _)⟩ ?_
   rintro ⟨o, m, e, aw⟩ aR a7 ⟨h, l⟩
   obtain ⟨bm, bF, rfl, h, ax⟩ := rnd1 h
   unfold hist_Total_lp1 at h
   try dsimp only at h l
   refine (show WC _ _ _ _ [(4, vu o), (5, vu m), (14, Value.agg (List.toArray d)), (15, vi e)] _ from ?_)
   refine sq (rg (wY (Y.lss_i z z) z (nl (th (sq ?_)))))
   rcases cnd h with ⟨K, h⟩ | ⟨K, h⟩
   ·refine WC.condT' z K (sk (th (sq (WC.block (sq (rg ?_))))))
    have a8 := Rows'.i a4 l z z
    obtain ⟨n, ay, h⟩ := bnd h
    obtain ⟨bz, p, aH⟩ := arrAt (R := rep_api_Side) (w := a7) (A := imm aw) (cells := d) a8 ay
    obtain ⟨_, _, rfl, rfl, ⟨bn, rfl, a9⟩⟩ := aH
    replace p : _ = [vi n.Offset, bn] := p
    refine wY (Y.indexArrAg ty86 ty28 z z p ay bk) z (WL.alloc (O := aw) 12 [vi 0, Value.slice none 0 0] ty28 z z ?_)
    intro bG bo bA S ba
    have az := a9.i S z z
    have bb := h
    obtain ⟨T, U, V, rfl⟩ := az.shape
    have h := bb
    refine WL.store (v := ag [vi n.Offset, (Value.slice T U V)]) (cells' := [vi n.Offset, (Value.slice T U V)]) ty28 z z ba z (le_ z) z z ?_
    intro L W bc
    refine nl (th (sq (rg (wY (yf fo28_1 z) z (wY (yl ty26 z z (bc.cell 1 _ z)) z ?_)))))
    have aA := az.i W z z
    refine wY (Y.len ty26 z aA) z (wY (ym z) z (nl (th ?_)))
    obtain ⟨bp, h, bd⟩ := bnd h
    refine WC.join (σ := (UInt64 × UInt64)) (fun x w' => (x.1, x.2) = bp ∧ L = w') (fun x => [(4, vu x.1), (5, vu x.2), (14, Value.agg (List.toArray d)), (15, vi e)]) ?_ ?_
    ·refine WC.block ?_
     obtain ⟨aS, h, bf⟩ := flow1 h
     obtain ⟨aT, h⟩ := loop_some h
     refine WC.joinB 2 (σ := (UInt64 × UInt64)) (fun x w' => aS = .go (x.1, x.2) ∧ L = w') (fun x => [(4, vu x.1), (5, vu x.2), (14, Value.agg (List.toArray d)), (15, vi e)]) ?_ ?_
     ·refine WC.loop (σ := (UInt64 × UInt64 × Int)) (fun x k w' => loopN k (hist_Total_lp2 n) (x.1, x.2.1, x.2.2) = some aS ∧ L = w') (fun x => [(4, vu x.1), (5, vu x.2.1), (14, Value.agg (List.toArray d)), (15, vi e), (19, (Value.slice T U V)), (20, vi (n.Counts.length : Int)), (21, vi x.2.2)]) (o, m, 0) aT (.cons z (.cons z (.cons z (.cons z (.cons z (.cons z (.cons z .nil))))))) ⟨h, z⟩ ?_
      rintro ⟨Z, D, aU⟩ aT _ ⟨h, rfl⟩
      obtain ⟨bq, bB, rfl, h, aa⟩ := rnd1 h
      unfold hist_Total_lp2 at h
      try dsimp only at h
      refine (show WC _ _ _ _ [(4, vu Z), (5, vu D), (14, Value.agg (List.toArray d)), (15, vi e), (19, (Value.slice T U V)), (20, vi (n.Counts.length : Int)), (21, vi aU)] _ from ?_)
      refine sq (rg (wY (Y.lss_i z z) z (nl (th (sq ?_)))))
      rcases cnd h with ⟨q, h⟩ | ⟨q, h⟩
      ·refine WC.condT' z q (sk (th (sq (WC.block (sq (rg ?_))))))
       obtain ⟨bg, aI, h⟩ := bnd h
       obtain ⟨bC, br, bs, bu, aJ, aK, aL, r, aC, aM⟩ := Sl.at2 aA aI
       obtain rfl := aC
       replace r : CellsAt _ _ _ [vu bg] := r
       have aD := CAt.imm r aM
       refine wY (Y.indexAddr ty26 ty25 z aJ z aK aL) z (wY (yl ty25 z z aD.at_) z (wY (ya z) z (nl (th (sq (rg (wY (ya (v := vu 0) z) z (nl (th ?_)))))))))
       refine sq (rg (wY (ym z) z (wY (ym z) z (wY (Y.add64 (c := 0) x64_58 (by decide) z z z) z (wY (ym z) z (wY (yx z z) z (wY (yx z z) z ?_)))))))
       obtain ⟨aE, af, h⟩ := lt1 h
       refine WL.yE (ya z) (congrArg vu af.symm) z ?_
       obtain ⟨bh, F, h⟩ := lt1 h
       refine WL.yE (ya z) (congrArg vu F.symm) z (nl (th (rg (wY (ym z) z (wY (ym z) z (wY (Y.or_u z z) z ?_))))))
       obtain ⟨ah, M, h⟩ := lt1 h
       refine WL.yE (ya z) (congrArg vu M.symm) z (nl (At.inBlock (th (rg (wY (Y.add_i z z) z (wY (ym z) z (nl ?_)))))))
       exact At.round (aE, ah, w64 (aU + 1)) bq (Nat.lt_succ_self _) ⟨next1 h aa, z⟩ (.cons z (.cons z (.cons z (.cons z (.cons z (.cons z (.cons z .nil)))))))
      ·refine WC.condF' z q (WC.exit (At.thenX (At.loopX ?_)))
       exact At.hitB (σ := (UInt64 × UInt64)) (Z, D) ⟨brk1 h aa, z⟩ (.cons z (.cons z (.cons z (.cons z .nil))))
     ·rintro ⟨ab, G⟩ _ ⟨rfl, rfl⟩
      replace h := flowK_go bf
      try dsimp only at h
      refine (show At _ _ _ [(4, vu ab), (5, vu G), (14, Value.agg (List.toArray d)), (15, vi e)] _ from ?_)
      refine At.inBlockHit ?_
      exact At.join (σ := (UInt64 × UInt64)) (ab, G) ⟨some1 h, z⟩ (.cons z (.cons z (.cons z (.cons z .nil))))
    ·rintro ⟨ac, H⟩ _ ⟨rfl, rfl⟩
     replace h := bd
     try dsimp only at h
     refine (show At _ _ _ [(4, vu ac), (5, vu H), (14, Value.agg (List.toArray d)), (15, vi e)] _ from ?_)
     refine At.inBlock (th (rg (wY (Y.add_i z z) z (wY (ym z) z (nl ?_)))))
     exact At.round (ac, H, w64 (e + 1), bo) bm (Nat.lt_succ_self _) ⟨next1 h ax, (tr_ (su_ l z) (tr_ (su_ S z) (su_ W z)))⟩ (.cons z (.cons z (.cons z (.cons z .nil))))
   ·refine WC.condF' z K (WC.exit (At.thenX (At.loopX ?_)))
    exact At.hitB (σ := (UInt64 × UInt64 × Own)) (o, m, aw) ⟨brk1 h ax, (su_ l z)⟩ (.cons z (.cons z .nil))
  ·rintro ⟨ad, I, bt⟩ bD ⟨rfl, ae⟩
   replace h := flowK_go a6
   try dsimp only at h ae
   refine (show At _ _ _ [(4, vu ad), (5, vu I)] _ from ?_)
   refine At.inBlockHit ?_
   exact At.join (σ := (UInt64 × UInt64 × Own)) (ad, I, bt) ⟨some1 h, (su_ ae z)⟩ (.cons z (.cons z .nil))
 ·rintro ⟨aN, aF, aW⟩ aG ⟨rfl, t⟩
  replace h := a5
  try dsimp only at h t
  refine (show At _ _ _ [(4, vu aN), (5, vu aF)] _ from ?_)
  refine th (sq (sq (rg (wY (ym z) z (wY (Y.neq_u (b := 0) z z) z (nl (th ?_)))))))
  rcases cnd h with ⟨C, h⟩ | ⟨C, h⟩
  ·refine WC.condT' z C (sq (rg (wY (ya (v := vu 0) z) z (wY (ya z) z (nl (th (rt (At.thenR ?_))))))))
   obtain ⟨rfl, rfl⟩ := tup2 h
   have aO : Stp [12] (Lg.O0 A) w aW aG := (tr_ (su_ j z) (tr_ (su_ Q z) (su_ t z)))
   exact At.res (.inl z) z (.tmp z (.tmp z .nil)) ⟨z, (se_ aO z z)⟩
  ·refine WC.condF' z C (sk (th (sq (rg (wY (ym z) z (wY (ya z) z (wY (ya z) z (nl (th ?_)))))))))
   refine rt ?_
   obtain ⟨rfl, rfl⟩ := tup2 h
   have aP : Stp [12] (Lg.O0 A) w aW aG := (tr_ (su_ j z) (tr_ (su_ Q z) (su_ t z)))
   exact At.res (.inl z) z (.tmp z (.tmp z .nil)) ⟨z, (se_ aP z z)⟩
theorem c_hist_check {A : Nat → Prop} {v0_1 : Value} {a0 : api_Side} {w : World} (hs0_1 : Sl Rep.u w A v0_1 a0.Counts) {r0 : Int} (h : hist_check a0 = some r0) : Rets Try.prog 59 [ag [vi a0.Offset, v0_1]] w (fun v w' => v = vi r0 ∧ Ext w w') := by
 unfold hist_check at h
 refine Rets.enter Try.func59 z z ?_
 have J : Sl Rep.u w (imm (Lg.O0 A)) v0_1 a0.Counts := (Sl.start hs0_1)
 refine (show WC _ _ _ _ [(0, ag [vi a0.Offset, v0_1])] _ from ?_)
 refine sq (rg ?_)
 have T := h
 obtain ⟨au, av, aw, rfl⟩ := J.shape
 have h := T
 refine WL.box (O := (Lg.O0 A)) 11 [vi a0.Offset, (Value.slice au av aw)] z z z ?_
 intro I m e j l
 refine wY (ya z) z (nl (th (sq (rg (wY (yf fo28_1 z) z (wY (yl ty26 z z (l.cell 1 _ z)) z ?_))))))
 have n := J.i j z z
 refine wY (Y.len ty26 z n) z ?_
 obtain ⟨d, K, h⟩ := lt1 h
 refine WL.yE (ya z) (congrArg vi K.symm) z (nl (th (sq (WC.block (sq (rg (wY (ym z) z (wY (Y.gtr_i z z) z ?_))))))))
 obtain ⟨aH, U, h⟩ := lt1 h
 refine WL.yE (ya z) (congrArg vB U.symm) z (nl (th ?_))
 rcases cnd h with ⟨o, h⟩ | ⟨o, h⟩
 ·refine WC.condT' z o (sq (rg (wY (ya z) z (nl (th (rt (At.inBlockR (At.thenR ?_))))))))
  obtain rfl := some1 h
  have V : Stp [] (Lg.O0 A) w m e := (su_ j z)
  exact At.res (.inl z) z (.tmp z .nil) ⟨z, (se_ V z z)⟩
 ·refine WC.condF' z o (sq (rg (wY (ym z) z (wY (Y.eql_i z z) z (wY (ym z) z ?_)))))
  refine WL.cut 4 (σ := Unit) (fun _ w' => e = w') (fun _ => [(1, pt I 0), (3, vi d), (17, vB ((decide (d = 0)) && (!decide (a0.Offset = 0))))]) ?_ ?_
  ·refine WL.part 13 z (fun p => ?_) (fun p => ?_)
   ·refine ug z z (wY (yf fo28_0 z) z (ug z z (wY (yl ty3 z z (l.cell 0 _ z)) z (ug z z (wY (Y.neq_i z z) z (wY (Y.pick (b := true) z z) z (WL.ren (v' := vB ((decide (d = 0)) && (!decide (a0.Offset = 0)))) 17 z (congrArg vB (andT p)) ?_)))))))
    exact nl (At.join () z (.cons z (.cons z (.cons z .nil))))
   ·refine WL.gS z z z z (WL.gS z z z z (WL.gS z z z z (wY (Y.pick (b := false) z z) z (WL.ren (v' := vB ((decide (d = 0)) && (!decide (a0.Offset = 0)))) 17 z (congrArg vB (andF p)) ?_))))
    exact nl (At.join () z (.cons z (.cons z (.cons z .nil))))
  ·rintro _ _ rfl
   refine (show WL _ _ _ _ _ [(1, pt I 0), (3, vi d), (17, vB ((decide (d = 0)) && (!decide (a0.Offset = 0))))] _ from ?_)
   obtain ⟨aI, W, h⟩ := lt1 h
   refine WL.yE (ya z) (congrArg vB W.symm) z (nl (th ?_))
   rcases cnd h with ⟨q, h⟩ | ⟨q, h⟩
   ·refine WC.condT' z q (sq (rg (wY (ya z) z (nl (th (rt (At.inBlockR (At.thenR ?_))))))))
    obtain rfl := some1 h
    have Z : Stp [] (Lg.O0 A) w m e := (su_ j z)
    exact At.res (.inl z) z (.tmp z .nil) ⟨z, (se_ Z z z)⟩
   ·refine WC.condF' z q (sq (rg (wY (ym z) z (wY (Y.eql_i z z) z ?_))))
    obtain ⟨aJ, aa, h⟩ := lt1 h
    refine WL.yE (ya z) (congrArg vB aa.symm) z (nl (th ?_))
    rcases cnd h with ⟨r, h⟩ | ⟨r, h⟩
    ·refine WC.condT' z r (sq (rg (wY (ya z) z (nl (th (rt (At.inBlockR (At.thenR ?_))))))))
     obtain rfl := some1 h
     have ab : Stp [] (Lg.O0 A) w m e := (su_ j z)
     exact At.res (.inl z) z (.tmp z .nil) ⟨z, (se_ ab z z)⟩
    ·refine WC.condF' z r (sq (rg (wY (yf fo28_1 z) z (wY (yl ty26 z z (l.cell 1 _ z)) z ?_))))
     obtain ⟨ax, ac, h⟩ := bnd h
     obtain ⟨aK, aA, aC, aF, ad, ae, af, t, L, ah⟩ := Sl.at2 n ac
     obtain rfl := L
     replace t : CellsAt _ _ _ [vu ax] := t
     have M := CAt.imm t ah
     refine wY (Y.indexAddr ty26 ty25 z ad z ae af) z (wY (yl ty25 z z M.at_) z (wY (Y.eql_u (b := 0) z z) z (wY (ym z) z ?_)))
     obtain ⟨ay, h, ai⟩ := bnd h
     refine WL.cut 8 (σ := Bool) (fun x w' => x = ay ∧ e = w') (fun x => [(1, pt I 0), (3, vi d), (35, vB x)]) ?_ ?_
     ·rcases cnd h with ⟨C, h⟩ | ⟨C, h⟩
      ·refine WL.ren 27 z (congrArg vB C) (WL.gS z z z z (WL.gS z z z z (WL.gS z z z z (WL.gS z z z z (WL.gS z z z z (WL.gS z z z z (WL.gS z z z z (wY (Y.pick (b := true) z z) z ?_))))))))
       exact nl (At.join (σ := Bool) true ⟨some1 h, z⟩ (.cons z (.cons z (.cons z .nil))))
      ·refine WL.ren 27 z (congrArg vB C) (ug z z (wY (yf fo28_1 z) z (ug z z (wY (yl ty26 z z (l.cell 1 _ z)) z (ug z z (wY (ym z) z (ug z z (wY (Y.sub_i z z) z (ug z z ?_)))))))))
       obtain ⟨S, aj, h⟩ := bnd h
       obtain ⟨aL, aD, aE, aG, ak, al, am, D, P, an⟩ := Sl.at2 n aj
       obtain rfl := P
       replace D : CellsAt _ _ _ [vu S] := D
       have Q := CAt.imm D an
       refine wY (Y.indexAddr ty26 ty25 z ak z al am) z (ug z z (wY (yl ty25 z z Q.at_) z (ug z z (wY (Y.eql_u (b := 0) z z) z (wY (Y.pick (b := false) z z) z ?_)))))
       exact nl (At.join (σ := Bool) (decide (S = 0)) ⟨some1 h, z⟩ (.cons z (.cons z (.cons z .nil))))
     ·rintro az _ ⟨rfl, rfl⟩
      replace h := ai
      try dsimp only at h
      refine (show WL _ _ _ _ _ [(1, pt I 0), (3, vi d), (35, vB az)] _ from ?_)
      refine wY (ya z) z (nl (th ?_))
      rcases cnd h with ⟨F, h⟩ | ⟨F, h⟩
      ·refine WC.condT' z F (sq (rg (wY (ya z) z (nl (th (rt (At.inBlockR (At.thenR ?_))))))))
       obtain rfl := some1 h
       have ao : Stp [] (Lg.O0 A) w m e := (su_ j z)
       exact At.res (.inl z) z (.tmp z .nil) ⟨z, (se_ ao z z)⟩
      ·refine WC.condF' z F (sq (rg (wY (yf fo28_0 z) z (wY (yl ty3 z z (l.cell 0 _ z)) z (wY (Y.lss_i z z) z (wY (ym z) z ?_))))))
       refine WL.cut 7 (σ := Unit) (fun _ w' => e = w') (fun _ => [(47, vB ((decide (a0.Offset < (-1073741824))) || (decide (w64 (1073741824 - (w64 (d - 1))) < a0.Offset))))]) ?_ ?_
       ·refine WL.part 40 z (fun G => ?_) (fun G => ?_)
        ·refine WL.gS z z z z (WL.gS z z z z (WL.gS z z z z (WL.gS z z z z (WL.gS z z z z (WL.gS z z z z (wY (Y.pick (b := true) z z) z (WL.ren (v' := vB ((decide (a0.Offset < (-1073741824))) || (decide (w64 (1073741824 - (w64 (d - 1))) < a0.Offset)))) 47 z (congrArg vB (orT G)) ?_)))))))
         exact nl (At.join () z (.cons z .nil))
        ·refine ug z z (wY (yf fo28_0 z) z (ug z z (wY (yl ty3 z z (l.cell 0 _ z)) z (ug z z (wY (ym z) z (ug z z (wY (Y.sub_i z z) z (ug z z (wY (Y.sub_i z z) z ?_)))))))))
         refine ug z z (wY (Y.gtr_i z z) z (wY (Y.pick (b := false) z z) z (WL.ren (v' := vB ((decide (a0.Offset < (-1073741824))) || (decide (w64 (1073741824 - (w64 (d - 1))) < a0.Offset)))) 47 z (congrArg vB (orF G)) ?_)))
         exact nl (At.join () z (.cons z .nil))
       ·rintro _ _ rfl
        refine (show WL _ _ _ _ _ [(47, vB ((decide (a0.Offset < (-1073741824))) || (decide (w64 (1073741824 - (w64 (d - 1))) < a0.Offset))))] _ from ?_)
        obtain ⟨aM, ap, h⟩ := lt1 h
        refine WL.yE (ya z) (congrArg vB ap.symm) z (nl (th ?_))
        rcases cnd h with ⟨H, h⟩ | ⟨H, h⟩
        ·refine WC.condT' z H (sq (rg (wY (ya z) z (nl (th (rt (At.inBlockR (At.thenR ?_))))))))
         obtain rfl := some1 h
         have aq : Stp [] (Lg.O0 A) w m e := (su_ j z)
         exact At.res (.inl z) z (.tmp z .nil) ⟨z, (se_ aq z z)⟩
        ·refine WC.condF' z H (sk (At.inBlock (th (sq (rg (wY (ya z) z (nl (th (rt ?_)))))))))
         obtain rfl := some1 h
         have ar : Stp [] (Lg.O0 A) w m e := (su_ j z)
         exact At.res (.inl z) z (.tmp z .nil) ⟨z, (se_ ar z z)⟩
theorem c_hist_Check {A : Nat → Prop} {v0_3 : Value} {v0_5 : Value} {a0 : api_Hist} {w : World} (hs0_3 : Sl Rep.u w A v0_3 a0.Pos.Counts) (hs0_5 : Sl Rep.u w A v0_5 a0.Neg.Counts) {r0 : Int} (h : hist_Check a0 = some r0) : Rets Try.prog 28 [ag [vi a0.Scale, vu a0.Zero, vi a0.Pos.Offset, v0_3, vi a0.Neg.Offset, v0_5]] w (fun v w' => v = vi r0 ∧ Ext w w') := by
 unfold hist_Check at h
 refine Rets.enter Try.func28 z z ?_
 have ad : Sl Rep.u w (imm (Lg.O0 A)) v0_3 a0.Pos.Counts := (Sl.start hs0_3)
 have ae : Sl Rep.u w (imm (Lg.O0 A)) v0_5 a0.Neg.Counts := (Sl.start hs0_5)
 refine (show WC _ _ _ _ [(0, ag [vi a0.Scale, vu a0.Zero, vi a0.Pos.Offset, v0_3, vi a0.Neg.Offset, v0_5])] _ from ?_)
 refine sq (rg ?_)
 have aF := h
 obtain ⟨C, D, F, rfl⟩ := ad.shape
 have h := aF
 have aG := h
 obtain ⟨G, H, I, rfl⟩ := ae.shape
 have h := aG
 refine WL.box (O := (Lg.O0 A)) 11 [vi a0.Scale, vu a0.Zero, vi a0.Pos.Offset, (Value.slice C D F), vi a0.Neg.Offset, (Value.slice G H I)] z z z ?_
 intro m U af d o
 refine wY (ya z) z (nl (th (sq (sq (rg (wY (yf fo30_0 z) z (wY (yl ty3 z z (o.cell 0 _ z)) z (wY (Y.lss_i z z) z (wY (ym z) z ?_)))))))))
 refine WL.cut 4 (σ := Unit) (fun _ w' => af = w') (fun _ => [(1, pt m 0), (15, vB ((decide (a0.Scale < (-10))) || (decide (20 < a0.Scale))))]) ?_ ?_
 ·refine WL.part 11 z (fun K => ?_) (fun K => ?_)
  ·refine WL.gS z z z z (WL.gS z z z z (WL.gS z z z z (wY (Y.pick (b := true) z z) z (WL.ren (v' := vB ((decide (a0.Scale < (-10))) || (decide (20 < a0.Scale)))) 15 z (congrArg vB (orT K)) ?_))))
   exact nl (At.join () z (.cons z (.cons z .nil)))
  ·refine ug z z (wY (yf fo30_0 z) z (ug z z (wY (yl ty3 z z (o.cell 0 _ z)) z (ug z z (wY (Y.gtr_i z z) z (wY (Y.pick (b := false) z z) z (WL.ren (v' := vB ((decide (a0.Scale < (-10))) || (decide (20 < a0.Scale)))) 15 z (congrArg vB (orF K)) ?_)))))))
   exact nl (At.join () z (.cons z (.cons z .nil)))
 ·rintro _ _ rfl
  refine (show WL _ _ _ _ _ [(1, pt m 0), (15, vB ((decide (a0.Scale < (-10))) || (decide (20 < a0.Scale))))] _ from ?_)
  refine nl (th ?_)
  rcases cnd h with ⟨L, h⟩ | ⟨L, h⟩
  ·refine WC.condT' z L (sq (rg (wY (ya z) z (nl (th (rt (At.thenR ?_)))))))
   obtain rfl := some1 h
   have aH : Stp [] (Lg.O0 A) w U af := (su_ d z)
   exact At.res (.inl z) z (.tmp z .nil) ⟨z, (se_ aH z z)⟩
  ·refine WC.condF' z L (sk (th (sq (sq (rg (wY (yL ty30 z z (o.cells 0 [vi a0.Scale, vu a0.Zero, vi a0.Pos.Offset, (Value.slice C D F), vi a0.Neg.Offset, (Value.slice G H I)] z) z) z ?_))))))
   have ah := ad.i d z z
   have ai := ae.i d z z
   obtain ⟨a5, aI, h⟩ := bnd h
   refine WL.call (vals := [ag [vi a0.Scale, vu a0.Zero, vi a0.Pos.Offset, (Value.slice C D F), vi a0.Neg.Offset, (Value.slice G H I)]]) kok57 z z (c_hist_sides (A := imm U) (a0 := a0) ah ai aI) ?_
   rintro bi M ⟨P, rfl, aJ, a6, a7⟩
   obtain ⟨V, aj, ak, e⟩ := adoptE U (fun k => 1) aJ
   have aK := Rows'.adoptI (O := U) a6 (fun _ hk => hk) (fun _ _ => Nat.le_refl _) aj ak
   refine wY (ym z) z (nl (th ?_))
   obtain ⟨a8, h, al⟩ := flow1 h
   refine WC.join (σ := Own) (fun x w' => a8 = .go () ∧ Stp [12] V M x w') (fun x => [(1, pt m 0)]) ?_ ?_
   ·refine WC.block ?_
    obtain ⟨aA, h, am⟩ := flow1 h
    obtain ⟨aC, h⟩ := loop_some h
    refine WC.joinB 0 (σ := Own) (fun x w' => aA = .go () ∧ Stp [12] V M x w') (fun x => [(1, pt m 0)]) ?_ ?_
    ·refine WC.loop (σ := (Int × Own)) (fun x k w' => loopN k (hist_Check_lp1 a5) x.1 = some aA ∧ Stp [12] V M x.2 w') (fun x => [(1, pt m 0), (17, Value.agg (List.toArray P)), (18, vi x.1)]) (0, V) aC (.cons z (.cons z (.cons z .nil))) ⟨h, (sr_ _ _ _)⟩ ?_
     rintro ⟨aD, an⟩ aC aL ⟨h, j⟩
     obtain ⟨a9, br, rfl, h, Q⟩ := rnd1 h
     unfold hist_Check_lp1 at h
     try dsimp only at h j
     refine (show WC _ _ _ _ [(1, pt m 0), (17, Value.agg (List.toArray P)), (18, vi aD)] _ from ?_)
     refine sq (rg (wY (Y.lss_i z z) z (nl (th (sq ?_)))))
     rcases cnd h with ⟨S, h⟩ | ⟨S, h⟩
     ·refine WC.condT' z S (sk (th (sq (WC.block (sq (rg ?_))))))
      have aM := Rows'.i aK j z z
      obtain ⟨n, ao, h⟩ := bnd h
      obtain ⟨bj, p, ar⟩ := arrAt (R := rep_api_Side) (w := aL) (A := imm an) (cells := P) aM ao
      obtain ⟨_, _, rfl, rfl, ⟨ba, rfl, aN⟩⟩ := ar
      replace p : _ = [vi n.Offset, ba] := p
      refine wY (Y.indexArrAg ty86 ty28 z z p ao a7) z (WL.alloc (O := an) 12 [vi 0, Value.slice none 0 0] ty28 z z ?_)
      intro bs bb bk q aO
      have ap := aN.i q z z
      have aP := h
      obtain ⟨W, Z, aa, rfl⟩ := ap.shape
      have h := aP
      refine WL.store (v := ag [vi n.Offset, (Value.slice W Z aa)]) (cells' := [vi n.Offset, (Value.slice W Z aa)]) ty28 z z aO z (le_ z) z z ?_
      intro bl r aQ
      refine nl (th (sq (rg (wY (yL ty28 z z (aQ.cells 0 [vi n.Offset, (Value.slice W Z aa)] z) z) z ?_))))
      have aR := ap.i r z z
      obtain ⟨bt, aS, h⟩ := bnd h
      refine WL.call (vals := [ag [vi n.Offset, (Value.slice W Z aa)]]) kok59 z z (c_hist_check (A := fun _ => True) (a0 := n) (Sl.all aR) aS) ?_
      rintro bm aT ⟨rfl, aU⟩
      obtain ⟨aE, bc, bd, ab⟩ := adoptE bb (fun k => 1) aU
      refine wY (ya z) z (nl (th (sq (rg (wY (ym z) z (wY (Y.neq_i z z) z (nl (th ?_))))))))
      rcases cnd h with ⟨T, h⟩ | ⟨T, h⟩
      ·refine WC.condT' z T (sq (rg (wY (ym z) z (wY (ya z) z (nl (th (rt (At.inBlockR (At.thenR ?_)))))))))
       refine At.loopR ?_
       have h := outr1 h Q am
       refine At.joinBR (At.inBlockR ?_)
       have h := outs1 h al
       refine At.joinR (At.thenR ?_)
       obtain rfl := some1 h
       have aW : Stp [12] (Lg.O0 A) w aE aT := (tr_ (su_ d z) (tr_ (su_ e z) (tr_ (su_ j z) (tr_ (su_ q z) (tr_ (su_ r z) (su_ ab z))))))
       exact At.res (.inl z) z (.tmp z .nil) ⟨z, (se_ aW z z)⟩
      ·refine WC.condF' z T (sk (At.inBlock (th (rg (wY (Y.add_i z z) z (wY (ym z) z (nl ?_)))))))
       exact At.round (w64 (aD + 1), aE) a9 (Nat.lt_succ_self _) ⟨next1 h Q, (tr_ (su_ j z) (tr_ (su_ q z) (tr_ (su_ r z) (su_ ab z))))⟩ (.cons z (.cons z (.cons z .nil)))
     ·refine WC.condF' z S (WC.exit (At.thenX (At.loopX ?_)))
      exact At.hitB (σ := Own) an ⟨brk1 h Q, (su_ j z)⟩ (.cons z .nil)
    ·rintro bf bn ⟨rfl, au⟩
     replace h := flowK_go am
     refine (show At _ _ _ [(1, pt m 0)] _ from ?_)
     refine At.inBlockHit ?_
     exact At.join (σ := Own) bf ⟨go2 h, (su_ au z)⟩ (.cons z .nil)
   ·rintro bg bo ⟨rfl, l⟩
    replace h := flowK_go al
    refine (show At _ _ _ [(1, pt m 0)] _ from ?_)
    refine th (sq (sq (rg ?_)))
    have aX := o.st e z
    have aY := aX.st l z
    refine wY (yL ty30 z z (aY.cells 0 [vi a0.Scale, vu a0.Zero, vi a0.Pos.Offset, (Value.slice C D F), vi a0.Neg.Offset, (Value.slice G H I)] z) z) z ?_
    have aZ := ah.i e z z
    have a1 := aZ.i l z z
    have a2 := ai.i e z z
    have av := a2.i l z z
    obtain ⟨⟨bp, bq⟩, aw, h⟩ := bnd h
    refine WL.call (vals := [ag [vi a0.Scale, vu a0.Zero, vi a0.Pos.Offset, (Value.slice C D F), vi a0.Neg.Offset, (Value.slice G H I)]]) kok27 z z (c_hist_Total (A := fun _ => True) (a0 := a0) (Sl.all a1) (Sl.all av) aw) ?_
    rintro bh ac ⟨rfl, ax⟩
    obtain ⟨aq, a3, a4, J⟩ := adoptE bg (fun k => 1) ax
    refine wY (ym z) z (wY (yx z z) z (wY (yx z z) z (wY (ya z) z (wY (ya z) z (nl (th (sq (rg (wY (ym z) z ?_)))))))))
    refine wY (Y.not z) z (nl (th ?_))
    rcases cnd h with ⟨t, h⟩ | ⟨t, h⟩
    ·refine WC.condT' z t (sq (rg (wY (ya z) z (nl (th (rt (At.thenR ?_)))))))
     obtain rfl := some1 h
     have ay : Stp [12] (Lg.O0 A) w aq ac := (tr_ (su_ d z) (tr_ (su_ e z) (tr_ (su_ l z) (su_ J z))))
     exact At.res (.inl z) z (.tmp z .nil) ⟨z, (se_ ay z z)⟩
    ·refine WC.condF' z t (sk (th (sq (rg (wY (ya z) z (nl (th (rt ?_))))))))
     obtain rfl := some1 h
     have az : Stp [12] (Lg.O0 A) w aq ac := (tr_ (su_ d z) (tr_ (su_ e z) (tr_ (su_ l z) (su_ J z))))
     exact At.res (.inl z) z (.tmp z .nil) ⟨z, (se_ az z z)⟩
theorem c_label_small {a0 : UInt8} {w : World} {r0 : Bool} (h : label_small a0 = some r0) : Rets Try.prog 93 [vb a0] w (fun v w' => v = vB r0 ∧ Ext w w') := by
 unfold label_small at h
 refine Rets.enter Try.func93 z z ?_
 refine (show WC _ _ _ _ [(0, vb a0)] _ from ?_)
 refine sq (rg (wY (ya z) z (nl (th (sq (rg (wY (ym z) z (wY (Y.geq_b (b := 97) z z) z (wY (ym z) z ?_)))))))))
 refine WL.cut 3 (σ := Unit) (fun _ w' => w = w') (fun _ => [(8, vB ((decide (97 ≤ a0)) && (decide (a0 ≤ 122))))]) ?_ ?_
 ·refine WL.part 5 z (fun d => ?_) (fun d => ?_)
  ·refine ug z z (wY (ym z) z (ug z z (wY (Y.leq_b (b := 122) z z) z (wY (Y.pick (b := true) z z) z (WL.ren (v' := vB ((decide (97 ≤ a0)) && (decide (a0 ≤ 122)))) 8 z (congrArg vB (andT d)) ?_)))))
   exact nl (At.join () z (.cons z .nil))
  ·refine WL.gS z z z z (WL.gS z z z z (wY (Y.pick (b := false) z z) z (WL.ren (v' := vB ((decide (97 ≤ a0)) && (decide (a0 ≤ 122)))) 8 z (congrArg vB (andF d)) ?_)))
   exact nl (At.join () z (.cons z .nil))
 ·rintro _ _ rfl
  refine (show WL _ _ _ _ _ [(8, vB ((decide (97 ≤ a0)) && (decide (a0 ≤ 122))))] _ from ?_)
  obtain ⟨l, e, h⟩ := lt1 h
  refine WL.yE (ya z) (congrArg vB e.symm) z (nl (th (rt ?_)))
  obtain rfl := some1 h
  have j : Stp [] (Lg.O0 (fun _ => False)) w (Lg.O0 (fun _ => False)) w := (sr_ _ _ _)
  exact At.res (.inl z) z (.tmp z .nil) ⟨z, (se_ j z z)⟩
theorem c_label_isName {a0 : List UInt8} {w : World} {r0 : Bool} (h : label_isName a0 = some r0) : Rets Try.prog 67 [vs a0] w (fun v w' => v = vB r0 ∧ Ext w w') := by
 unfold label_isName at h
 refine Rets.enter Try.func67 z z ?_
 refine (show WC _ _ _ _ [(0, vs a0)] _ from ?_)
 refine sq (rg (wY (ya z) z (nl (th (sq (sq (rg (wY (ym z) z (wY (Y.eql_s (b := []) z z) z ?_)))))))))
 refine wY (ym z) z ?_
 refine WL.cut 4 (σ := Unit) (fun _ w' => w = w') (fun _ => [(0, vs a0), (11, vB ((decide (a0 = [])) || (decide (32 < (a0.length : Int)))))]) ?_ ?_
 ·refine WL.part 7 z (fun q => ?_) (fun q => ?_)
  ·refine WL.gS z z z z (WL.gS z z z z (WL.gS z z z z (wY (Y.pick (b := true) z z) z (WL.ren (v' := vB ((decide (a0 = [])) || (decide (32 < (a0.length : Int))))) 11 z (congrArg vB (orT q)) ?_))))
   exact nl (At.join () z (.cons z (.cons z .nil)))
  ·refine ug z z (wY (ym z) z (ug z z (wY (Y.len_s ty9 z) z (ug z z (wY (Y.gtr_i z z) z (wY (Y.pick (b := false) z z) z (WL.ren (v' := vB ((decide (a0 = [])) || (decide (32 < (a0.length : Int))))) 11 z (congrArg vB (orF q)) ?_)))))))
   exact nl (At.join () z (.cons z (.cons z .nil)))
 ·rintro _ _ rfl
  refine (show WL _ _ _ _ _ [(0, vs a0), (11, vB ((decide (a0 = [])) || (decide (32 < (a0.length : Int)))))] _ from ?_)
  refine wY (ym z) z ?_
  obtain ⟨ay, h, ae⟩ := bnd h
  refine WL.cut 5 (σ := (Bool × Own)) (fun x w' => x.1 = ay ∧ Stp [] (Lg.O0 (fun _ => False)) w x.2 w') (fun x => [(0, vs a0), (17, vB x.1)]) ?_ ?_
  ·rcases cnd h with ⟨r, h⟩ | ⟨r, h⟩
   ·refine WL.ren 12 z (congrArg vB r) (WL.gS z z z z (WL.gS z z z z (WL.gS z z z z (WL.gS z z z z (wY (Y.pick (b := true) z z) z ?_)))))
    exact nl (At.join (σ := (Bool × Own)) (true, (Lg.O0 (fun _ => False))) ⟨some1 h, (sr_ _ _ _)⟩ (.cons z (.cons z .nil)))
   ·refine WL.ren 12 z (congrArg vB r) (ug z z (wY (ym z) z (ug z z ?_)))
    obtain ⟨az, af, h⟩ := bnd h
    refine wY (Y.index_s ty9 z z af) z (ug z z ?_)
    obtain ⟨aA, ah, h⟩ := bnd h
    refine WL.call (vals := [vb az]) kok93 z z (c_label_small ah) ?_
    rintro aM aN ⟨rfl, ai⟩
    obtain ⟨aC, aD, aE, T⟩ := adoptE (Lg.O0 (fun _ => False)) (fun k => 1) ai
    refine ug z z (wY (Y.not z) z (wY (Y.pick (b := false) z z) z ?_))
    exact nl (At.join (σ := (Bool × Own)) ((!aA), aC) ⟨some1 h, (su_ T z)⟩ (.cons z (.cons z .nil)))
  ·rintro ⟨aF, Z⟩ aj ⟨rfl, n⟩
   replace h := ae
   try dsimp only at h n
   refine (show WL _ _ _ _ _ [(0, vs a0), (17, vB aF)] _ from ?_)
   refine nl (th ?_)
   rcases cnd h with ⟨t, h⟩ | ⟨t, h⟩
   ·refine WC.condT' z t (sq (rg (wY (ya z) z (nl (th (rt (At.thenR ?_)))))))
    obtain rfl := some1 h
    have ak : Stp [] (Lg.O0 (fun _ => False)) w Z aj := (su_ n z)
    exact At.res (.inl z) z (.tmp z .nil) ⟨z, (se_ ak z z)⟩
   ·refine WC.condF' z t (sk (th (sq (sq (rg (wY (ym z) z (WL.s2b (O := Z) ty9 ty124 ty5 z z ?_)))))))
    intro j M P K Q
    refine wY (Y.len ty124 z Q) z (wY (ym z) z (nl (th (WC.block ?_))))
    obtain ⟨aa, h, S⟩ := flow1 h
    obtain ⟨ab, h⟩ := loop_some h
    refine WC.joinB 0 (σ := Own) (fun x w' => aa = .go () ∧ Stp [] M P x w') (fun x => []) ?_ ?_
    ·refine WC.loop (σ := (Int × Own)) (fun x k w' => loopN k (label_isName_lp1 a0) x.1 = some aa ∧ Stp [] M P x.2 w') (fun x => [(19, j), (20, vi (a0.length : Int)), (21, vi x.1)]) (0, M) ab (.cons z (.cons z (.cons z .nil))) ⟨h, (sr_ _ _ _)⟩ ?_
     rintro ⟨l, ac⟩ ab aO ⟨h, m⟩
     obtain ⟨aG, aR, rfl, h, C⟩ := rnd1 h
     unfold label_isName_lp1 at h
     try dsimp only at h m
     refine (show WC _ _ _ _ [(19, j), (20, vi (a0.length : Int)), (21, vi l)] _ from ?_)
     refine sq (rg (wY (Y.lss_i z z) z (nl (th (sq ?_)))))
     rcases cnd h with ⟨D, h⟩ | ⟨D, h⟩
     ·refine WC.condT' z D (sk (th (sq (WC.block (sq (rg ?_))))))
      obtain ⟨d, al, h⟩ := bnd h
      have am := Q.f m z
      obtain ⟨aS, aK, aL, aP, an, ao, ap, F, U, aq⟩ := Sl.at2 am al
      obtain rfl := U
      replace F : CellsAt _ _ _ [vb d] := F
      have V := CAt.frs F aq
      refine wY (Y.indexAddr ty124 ty5 z an z ao ap) z (wY (yl ty5 z z V.at_) z (wY (ya z) z (nl (th (sq (rg (wY (ym z) z ?_)))))))
      obtain ⟨e, ar, h⟩ := bnd h
      refine WL.call (vals := [vb d]) kok93 z z (c_label_small ar) ?_
      rintro aQ o ⟨rfl, au⟩
      obtain ⟨ad, aH, aI, L⟩ := adoptE ac (fun k => 1) au
      refine wY (Y.not z) z (wY (ym z) z ?_)
      refine WL.cut 7 (σ := Unit) (fun _ w' => o = w') (fun _ => [(4, vb d), (19, j), (20, vi (a0.length : Int)), (21, vi l), (35, vB ((!e) && ((decide (d < 48)) || (decide (57 < d)))))]) ?_ ?_
      ·refine WL.part 28 z (fun G => ?_) (fun G => ?_)
       ·refine ug z z (wY (ym z) z (ug z z (wY (Y.lss_b (b := 48) z z) z (ug z z (wY (ym z) z ?_)))))
        refine WL.cut 3 (σ := Unit) (fun _ w' => o = w') (fun _ => [(4, vb d), (19, j), (20, vi (a0.length : Int)), (21, vi l), (28, vB true), (29, vb d), (30, vB (decide (d < 48))), (31, vB (decide (d < 48))), (34, vB ((decide (d < 48)) || (decide (57 < d))))]) ?_ ?_
        ·refine WL.part 31 z (fun p => ?_) (fun p => ?_)
         ·refine WL.gS z z z z (WL.gS z z z z (ug z z (wY (Y.pick (b := true) z z) z (WL.ren (v' := vB ((decide (d < 48)) || (decide (57 < d)))) 34 z (congrArg vB (orT p)) (WL.ren 31 z (congrArg vB p.symm) ?_)))))
          exact nl (At.join () z (.cons z (.cons z (.cons z (.cons z (.cons z (.cons z (.cons z (.cons z (.cons z .nil))))))))))
         ·refine ug z z (wY (ym z) z (ug z z (wY (Y.gtr_b (b := 57) z z) z (ug z z (wY (Y.pick (b := false) z z) z (WL.ren (v' := vB ((decide (d < 48)) || (decide (57 < d)))) 34 z (congrArg vB (orF p)) (WL.ren 31 z (congrArg vB p.symm) ?_)))))))
          exact nl (At.join () z (.cons z (.cons z (.cons z (.cons z (.cons z (.cons z (.cons z (.cons z (.cons z .nil))))))))))
        ·rintro _ _ rfl
         refine (show WL _ _ _ _ _ [(4, vb d), (19, j), (20, vi (a0.length : Int)), (21, vi l), (28, vB true), (29, vb d), (30, vB (decide (d < 48))), (31, vB (decide (d < 48))), (34, vB ((decide (d < 48)) || (decide (57 < d))))] _ from ?_)
         refine wY (Y.pick (b := true) z z) z (WL.ren (v' := vB ((!e) && ((decide (d < 48)) || (decide (57 < d))))) 35 z (congrArg vB (andT G)) ?_)
         exact nl (At.join () z (.cons z (.cons z (.cons z (.cons z (.cons z .nil))))))
       ·refine WL.gS z z z z (WL.gS z z z z (WL.gS z z z z (WL.gS z z z z (WL.gS z z z z (WL.gS z z z z (wY (Y.pick (b := false) z z) z (WL.ren (v' := vB ((!e) && ((decide (d < 48)) || (decide (57 < d))))) 35 z (congrArg vB (andF G)) ?_)))))))
        exact nl (At.join () z (.cons z (.cons z (.cons z (.cons z (.cons z .nil))))))
      ·rintro _ _ rfl
       refine (show WL _ _ _ _ _ [(4, vb d), (19, j), (20, vi (a0.length : Int)), (21, vi l), (35, vB ((!e) && ((decide (d < 48)) || (decide (57 < d)))))] _ from ?_)
       refine wY (ym z) z ?_
       refine WL.cut 3 (σ := Unit) (fun _ w' => o = w') (fun _ => [(4, vb d), (19, j), (20, vi (a0.length : Int)), (21, vi l), (39, vB (((!e) && ((decide (d < 48)) || (decide (57 < d)))) && (!decide (d = 95))))]) ?_ ?_
       ·refine WL.part 36 z (fun H => ?_) (fun H => ?_)
        ·refine ug z z (wY (ym z) z (ug z z (wY (Y.neq_b (b := 95) z z) z (wY (Y.pick (b := true) z z) z (WL.ren (v' := vB (((!e) && ((decide (d < 48)) || (decide (57 < d)))) && (!decide (d = 95)))) 39 z (congrArg vB (andT H)) ?_)))))
         exact nl (At.join () z (.cons z (.cons z (.cons z (.cons z (.cons z .nil))))))
        ·refine WL.gS z z z z (WL.gS z z z z (wY (Y.pick (b := false) z z) z (WL.ren (v' := vB (((!e) && ((decide (d < 48)) || (decide (57 < d)))) && (!decide (d = 95)))) 39 z (congrArg vB (andF H)) ?_)))
         exact nl (At.join () z (.cons z (.cons z (.cons z (.cons z (.cons z .nil))))))
       ·rintro _ _ rfl
        refine (show WL _ _ _ _ _ [(4, vb d), (19, j), (20, vi (a0.length : Int)), (21, vi l), (39, vB (((!e) && ((decide (d < 48)) || (decide (57 < d)))) && (!decide (d = 95))))] _ from ?_)
        refine wY (ym z) z ?_
        refine WL.cut 3 (σ := Unit) (fun _ w' => o = w') (fun _ => [(19, j), (20, vi (a0.length : Int)), (21, vi l), (43, vB ((((!e) && ((decide (d < 48)) || (decide (57 < d)))) && (!decide (d = 95))) && (!decide (d = 46))))]) ?_ ?_
        ·refine WL.part 40 z (fun I => ?_) (fun I => ?_)
         ·refine ug z z (wY (ym z) z (ug z z (wY (Y.neq_b (b := 46) z z) z (wY (Y.pick (b := true) z z) z (WL.ren (v' := vB ((((!e) && ((decide (d < 48)) || (decide (57 < d)))) && (!decide (d = 95))) && (!decide (d = 46)))) 43 z (congrArg vB (andT I)) ?_)))))
          exact nl (At.join () z (.cons z (.cons z (.cons z (.cons z .nil)))))
         ·refine WL.gS z z z z (WL.gS z z z z (wY (Y.pick (b := false) z z) z (WL.ren (v' := vB ((((!e) && ((decide (d < 48)) || (decide (57 < d)))) && (!decide (d = 95))) && (!decide (d = 46)))) 43 z (congrArg vB (andF I)) ?_)))
          exact nl (At.join () z (.cons z (.cons z (.cons z (.cons z .nil)))))
        ·rintro _ _ rfl
         refine (show WL _ _ _ _ _ [(19, j), (20, vi (a0.length : Int)), (21, vi l), (43, vB ((((!e) && ((decide (d < 48)) || (decide (57 < d)))) && (!decide (d = 95))) && (!decide (d = 46))))] _ from ?_)
         refine nl (th ?_)
         rcases cnd h with ⟨J, h⟩ | ⟨J, h⟩
         ·refine WC.condT' z J (sq (rg (wY (ya z) z (nl (th (rt (At.inBlockR (At.thenR (At.loopR ?_)))))))))
          have h := outr1 h C S
          refine At.joinBR (At.inBlockR (At.thenR ?_))
          obtain rfl := some1 h
          have av : Stp [] (Lg.O0 (fun _ => False)) w ad o := (tr_ (su_ n z) (tr_ (su_ K z) (tr_ (su_ m z) (su_ L z))))
          exact At.res (.inl z) z (.tmp z .nil) ⟨z, (se_ av z z)⟩
         ·refine WC.condF' z J (sk (At.inBlock (th (rg (wY (Y.add_i z z) z (wY (ym z) z (nl ?_)))))))
          exact At.round (w64 (l + 1), ad) aG (Nat.lt_succ_self _) ⟨next1 h C, (tr_ (su_ m z) (su_ L z))⟩ (.cons z (.cons z (.cons z .nil)))
     ·refine WC.condF' z D (WC.exit (At.thenX (At.loopX ?_)))
      exact At.hitB (σ := Own) ac ⟨brk1 h C, (su_ m z)⟩ .nil
    ·rintro aJ aw ⟨rfl, W⟩
     replace h := flowK_go S
     refine (show At _ _ _ [] _ from ?_)
     refine At.inBlockHit (th (sq (rg (wY (ya z) z (nl (th (rt ?_)))))))
     obtain rfl := some1 h
     have ax : Stp [] (Lg.O0 (fun _ => False)) w aJ aw := (tr_ (su_ n z) (tr_ (su_ K z) (su_ W z)))
     exact At.res (.inl z) z (.tmp z .nil) ⟨z, (se_ ax z z)⟩
theorem c_label_isValue {a0 : List UInt8} {w : World} {r0 : Bool} (h : label_isValue a0 = some r0) : Rets Try.prog 68 [vs a0] w (fun v w' => v = vB r0 ∧ Ext w w') := by
 unfold label_isValue at h
 refine Rets.enter Try.func68 z z ?_
 refine (show WC _ _ _ _ [(0, vs a0)] _ from ?_)
 refine sq (rg (wY (ya z) z (nl (th (sq (sq (rg (wY (ym z) z (wY (Y.eql_s (b := []) z z) z ?_)))))))))
 refine wY (ym z) z ?_
 refine WL.cut 4 (σ := Unit) (fun _ w' => w = w') (fun _ => [(0, vs a0), (11, vB ((decide (a0 = [])) || (decide (32 < (a0.length : Int)))))]) ?_ ?_
 ·refine WL.part 7 z (fun l => ?_) (fun l => ?_)
  ·refine WL.gS z z z z (WL.gS z z z z (WL.gS z z z z (wY (Y.pick (b := true) z z) z (WL.ren (v' := vB ((decide (a0 = [])) || (decide (32 < (a0.length : Int))))) 11 z (congrArg vB (orT l)) ?_))))
   exact nl (At.join () z (.cons z (.cons z .nil)))
  ·refine ug z z (wY (ym z) z (ug z z (wY (Y.len_s ty9 z) z (ug z z (wY (Y.gtr_i z z) z (wY (Y.pick (b := false) z z) z (WL.ren (v' := vB ((decide (a0 = [])) || (decide (32 < (a0.length : Int))))) 11 z (congrArg vB (orF l)) ?_)))))))
   exact nl (At.join () z (.cons z (.cons z .nil)))
 ·rintro _ _ rfl
  refine (show WL _ _ _ _ _ [(0, vs a0), (11, vB ((decide (a0 = [])) || (decide (32 < (a0.length : Int)))))] _ from ?_)
  refine nl (th ?_)
  rcases cnd h with ⟨m, h⟩ | ⟨m, h⟩
  ·refine WC.condT' z m (sq (rg (wY (ya z) z (nl (th (rt (At.thenR ?_)))))))
   obtain rfl := some1 h
   have Q : Stp [] (Lg.O0 (fun _ => False)) w (Lg.O0 (fun _ => False)) w := (sr_ _ _ _)
   exact At.res (.inl z) z (.tmp z .nil) ⟨z, (se_ Q z z)⟩
  ·refine WC.condF' z m (sk (th (sq (sq (rg (wY (ym z) z (WL.s2b (O := (Lg.O0 (fun _ => False))) ty9 ty124 ty5 z z ?_)))))))
   intro e L d F G
   refine wY (Y.len ty124 z G) z (wY (ym z) z (nl (th (WC.block ?_))))
   obtain ⟨M, h, H⟩ := flow1 h
   obtain ⟨P, h⟩ := loop_some h
   refine WC.joinB 0 (σ := Unit) (fun x w' => M = .go () ∧ d = w') (fun x => []) ?_ ?_
   ·refine WC.loop (σ := Int) (fun x k w' => loopN k (label_isValue_lp1 a0) x = some M ∧ d = w') (fun x => [(13, e), (14, vi (a0.length : Int)), (15, vi x)]) 0 P (.cons z (.cons z (.cons z .nil))) ⟨h, z⟩ ?_
    rintro j P _ ⟨h, rfl⟩
    obtain ⟨ai, ax, rfl, h, n⟩ := rnd1 h
    unfold label_isValue_lp1 at h
    try dsimp only at h
    refine (show WC _ _ _ _ [(13, e), (14, vi (a0.length : Int)), (15, vi j)] _ from ?_)
    refine sq (rg (wY (Y.lss_i z z) z (nl (th (sq ?_)))))
    rcases cnd h with ⟨o, h⟩ | ⟨o, h⟩
    ·refine WC.condT' z o (sk (th (sq (WC.block (sq (rg ?_))))))
     obtain ⟨aj, S, h⟩ := bnd h
     obtain ⟨ay, au, av, aw, T, U, V, p, J, W⟩ := Sl.at2 G S
     obtain rfl := J
     replace p : CellsAt _ _ _ [vb aj] := p
     have K := CAt.frs p W
     refine wY (Y.indexAddr ty124 ty5 z T z U V) z (wY (yl ty5 z z K.at_) z (wY (ya z) z (nl (th ?_))))
     obtain ⟨ak, h, I⟩ := flow1 h
     refine WC.join (σ := Unit) (fun x w' => ak = .go () ∧ d = w') (fun x => [(13, e), (14, vi (a0.length : Int)), (15, vi j)]) ?_ ?_
     ·refine WC.block (sq ?_)
      obtain ⟨al, h, Z⟩ := bnd h
      refine WC.join (σ := Bool) (fun x w' => x = al ∧ d = w') (fun x => [(13, e), (14, vi (a0.length : Int)), (15, vi j), (19, vB x)]) ?_ ?_
      ·refine sq (rg (wY (ym z) z (wY (Y.lss_b (b := 33) z z) z ?_)))
       obtain ⟨am, aa, h⟩ := lt1 h
       refine WL.yE (ya z) (congrArg vB aa.symm) z (nl (th ?_))
       rcases cnd h with ⟨q, h⟩ | ⟨q, h⟩
       ·refine WC.condT' z q (sk ?_)
        exact At.join (σ := Bool) am ⟨some1 h, z⟩ (.cons z (.cons z (.cons z (.cons z .nil))))
       ·refine WC.condF' z q (sq (rg (wY (ym z) z (wY (Y.gtr_b (b := 126) z z) z ?_))))
        obtain ⟨an, ab, h⟩ := lt1 h
        refine WL.yE (ya z) (congrArg vB ab.symm) z (nl (th ?_))
        rcases cnd h with ⟨r, h⟩ | ⟨r, h⟩
        ·refine WC.condT' z r (sk ?_)
         exact At.join (σ := Bool) an ⟨some1 h, z⟩ (.cons z (.cons z (.cons z (.cons z .nil))))
        ·refine WC.condF' z r (sq (rg (wY (ym z) z (wY (Y.eql_b (b := 61) z z) z ?_))))
         obtain ⟨ao, ac, h⟩ := lt1 h
         refine WL.yE (ya z) (congrArg vB ac.symm) z (nl (th ?_))
         rcases cnd h with ⟨t, h⟩ | ⟨t, h⟩
         ·refine WC.condT' z t (sk ?_)
          exact At.join (σ := Bool) ao ⟨some1 h, z⟩ (.cons z (.cons z (.cons z (.cons z .nil))))
         ·refine WC.condF' z t (sq (rg (wY (ym z) z (wY (Y.eql_b (b := 59) z z) z ?_))))
          obtain ⟨ap, ad, h⟩ := lt1 h
          refine WL.yE (ya z) (congrArg vB ad.symm) z (nl (th ?_))
          rcases cnd h with ⟨C, h⟩ | ⟨C, h⟩
          ·refine WC.condT' z C (sk ?_)
           exact At.join (σ := Bool) ap ⟨some1 h, z⟩ (.cons z (.cons z (.cons z (.cons z .nil))))
          ·refine WC.condF' z C (rg (wY (ym z) z (wY (Y.eql_b (b := 44) z z) z ?_)))
           obtain ⟨aq, ae, h⟩ := lt1 h
           refine WL.yE (ya z) (congrArg vB ae.symm) z (nl ?_)
           exact At.join (σ := Bool) aq ⟨some1 h, z⟩ (.cons z (.cons z (.cons z (.cons z .nil))))
      ·rintro ar _ ⟨rfl, rfl⟩
       replace h := Z
       try dsimp only at h
       refine (show At _ _ _ [(13, e), (14, vi (a0.length : Int)), (15, vi j), (19, vB ar)] _ from ?_)
       refine th ?_
       rcases cnd h with ⟨D, h⟩ | ⟨D, h⟩
       ·refine WC.condT' z D (sq (rg (wY (ya z) z (nl (th (rt (At.inBlockR ?_)))))))
        have h := outs1 h I
        refine At.joinR (At.inBlockR (At.thenR (At.loopR ?_)))
        have h := outr1 h n H
        refine At.joinBR (At.inBlockR (At.thenR ?_))
        obtain rfl := some1 h
        have af : Stp [] (Lg.O0 (fun _ => False)) w L d := (su_ F z)
        exact At.res (.inl z) z (.tmp z .nil) ⟨z, (se_ af z z)⟩
       ·refine WC.condF' z D (sk (At.inBlock ?_))
        exact At.join (σ := Unit) () ⟨go2 h, z⟩ (.cons z (.cons z (.cons z .nil)))
     ·rintro _ _ ⟨rfl, rfl⟩
      replace h := flowK_go I
      refine (show At _ _ _ [(13, e), (14, vi (a0.length : Int)), (15, vi j)] _ from ?_)
      refine At.inBlock (th (rg (wY (Y.add_i z z) z (wY (ym z) z (nl ?_)))))
      exact At.round (w64 (j + 1)) ai (Nat.lt_succ_self _) ⟨next1 h n, z⟩ (.cons z (.cons z (.cons z .nil)))
    ·refine WC.condF' z o (WC.exit (At.thenX (At.loopX ?_)))
     exact At.hitB (σ := Unit) () ⟨brk1 h n, z⟩ .nil
   ·rintro _ _ ⟨rfl, rfl⟩
    replace h := flowK_go H
    refine (show At _ _ _ [] _ from ?_)
    refine At.inBlockHit (th (sq (rg (wY (ya z) z (nl (th (rt ?_)))))))
    obtain rfl := some1 h
    have ah : Stp [] (Lg.O0 (fun _ => False)) w L d := (su_ F z)
    exact At.res (.inl z) z (.tmp z .nil) ⟨z, (se_ ah z z)⟩
theorem c_label_Check {A : Nat → Prop} {a0 : List UInt8} {a1 : List api_Pair} {v1 : Value} {w : World} (hs1 : Sl rep_api_Pair w A v1 a1) {r0 : Int} (h : label_Check a0 a1 = some r0) : Rets Try.prog 35 [vs a0, v1] w (fun v w' => v = vi r0 ∧ Ext w w') := by
 unfold label_Check at h
 refine Rets.enter Try.func35 z z ?_
 have aZ : Sl rep_api_Pair w (imm (Lg.O0 A)) v1 a1 := (Sl.start hs1)
 refine (show WC _ _ _ _ [(0, vs a0), (1, v1)] _ from ?_)
 refine sq (rg (wY (ya z) z (nl (th (sq (sq (rg (wY (ym z) z ?_))))))))
 obtain ⟨cg, a2, h⟩ := bnd h
 refine WL.call (vals := [vs a0]) kok67 z z (c_label_isName a2) ?_
 rintro b5 I ⟨rfl, a3⟩
 obtain ⟨S, bG, bH, l⟩ := adoptE (Lg.O0 A) (fun k => 1) a3
 refine wY (Y.not z) z (nl (th ?_))
 rcases cnd h with ⟨V, h⟩ | ⟨V, h⟩
 ·refine WC.condT' z V (sq (rg (wY (ya z) z (nl (th (rt (At.thenR ?_)))))))
  obtain rfl := some1 h
  have a4 : Stp [] (Lg.O0 A) w S I := (su_ l z)
  exact At.res (.inl z) z (.tmp z .nil) ⟨z, (se_ a4 z z)⟩
 ·refine WC.condF' z V (sk (th (sq (sq (rg (wY (ym z) z ?_))))))
  have W := aZ.i l z z
  refine wY (Y.len ty35 z W) z (wY (Y.gtr_i z z) z (nl (th ?_)))
  rcases cnd h with ⟨Z, h⟩ | ⟨Z, h⟩
  ·refine WC.condT' z Z (sq (rg (wY (ya z) z (nl (th (rt (At.thenR ?_)))))))
   obtain rfl := some1 h
   have a5 : Stp [] (Lg.O0 A) w S I := (su_ l z)
   exact At.res (.inl z) z (.tmp z .nil) ⟨z, (se_ a5 z z)⟩
  ·refine WC.condF' z Z (sk (th (sq (sq (rg (wY (ym z) z (wY (Y.len ty35 z W) z (wY (ym z) z (nl ?_)))))))))
   refine th (WC.block ?_)
   obtain ⟨aU, h, aa⟩ := flow1 h
   obtain ⟨aW, h⟩ := loop_some h
   refine WC.joinB 0 (σ := Own) (fun x w' => aU = .go () ∧ Stp [11] S I x w') (fun x => []) ?_ ?_
   ·refine WC.loop (σ := (Int × Own)) (fun x k w' => loopN k (label_Check_lp1 a1) x.1 = some aU ∧ Stp [11] S I x.2 w') (fun x => [(1, v1), (13, v1), (14, vi (a1.length : Int)), (15, vi x.1)]) (0, S) aW (.cons z (.cons z (.cons z (.cons z .nil)))) ⟨h, (sr_ _ _ _)⟩ ?_
    rintro ⟨t, aX⟩ aW b6 ⟨h, m⟩
    obtain ⟨bI, ch, rfl, h, J⟩ := rnd1 h
    unfold label_Check_lp1 at h
    try dsimp only at h m
    refine (show WC _ _ _ _ [(1, v1), (13, v1), (14, vi (a1.length : Int)), (15, vi t)] _ from ?_)
    refine sq (rg (wY (Y.lss_i z z) z (nl (th (sq ?_)))))
    rcases cnd h with ⟨ab, h⟩ | ⟨ab, h⟩
    ·refine WC.condT' z ab (sk (th (sq (WC.block (sq (rg (wY (ym z) z ?_)))))))
     obtain ⟨p, a6, h⟩ := bnd h
     have ak := W.i m z z
     obtain ⟨ci, bY, bZ, b7, a7, a8, a9, ac, aw, ba⟩ := Sl.at2 ak a6
     obtain ⟨_, _, rfl, rfl, rfl⟩ := aw
     replace ac : CellsAt _ _ _ [vs p.Key, vs p.Val] := ac
     have ax := CAt.imm ac ba
     refine wY (Y.indexAddr ty35 ty107 z a7 z a8 a9) z (wY (yL ty107 z z ax.at_ z) z (WL.alloc (O := aX) 11 [vs [], vs []] ty107 z z ?_))
     intro e bJ b8 q bb
     refine wY (ya z) z (WL.store (v := ag [vs p.Key, vs p.Val]) (cells' := [vs p.Key, vs p.Val]) ty107 z z bb z (le_ z) z z ?_)
     intro b9 r ad
     refine nl (th (sq (sq (rg (wY (yf fo107_0 z) z (wY (yl ty9 z z (ad.cell 0 _ z)) z ?_))))))
     obtain ⟨cj, bc, h⟩ := bnd h
     refine WL.call (vals := [vs p.Key]) kok67 z z (c_label_isName bc) ?_
     rintro ca bd ⟨rfl, bf⟩
     obtain ⟨al, bK, bL, n⟩ := adoptE bJ (fun k => 1) bf
     refine wY (Y.not z) z (wY (ym z) z ?_)
     obtain ⟨bM, h, bg⟩ := bnd h
     refine WL.cut 5 (σ := (Bool × Own)) (fun x w' => x.1 = bM ∧ Stp [] al bd x.2 w') (fun x => [(1, v1), (5, vi t), (6, pt e 0), (13, v1), (14, vi (a1.length : Int)), (15, vi t), (29, vB x.1)]) ?_ ?_
     ·rcases cnd h with ⟨ae, h⟩ | ⟨ae, h⟩
      ·refine WL.ren 24 z (congrArg vB ae) (WL.gS z z z z (WL.gS z z z z (WL.gS z z z z (WL.gS z z z z (wY (Y.pick (b := true) z z) z ?_)))))
       exact nl (At.join (σ := (Bool × Own)) (true, al) ⟨some1 h, (sr_ _ _ _)⟩ (.cons z (.cons z (.cons z (.cons z (.cons z (.cons z (.cons z .nil))))))))
      ·refine WL.ren 24 z (congrArg vB ae) (ug z z (wY (yf fo107_1 z) z (ug z z ?_)))
       have bh := ad.st n z
       refine wY (yl ty9 z z (bh.cell 1 _ z)) z (ug z z ?_)
       obtain ⟨bO, bi, h⟩ := bnd h
       refine WL.call (vals := [vs p.Val]) kok68 z z (c_label_isValue bi) ?_
       rintro cb cc ⟨rfl, bj⟩
       obtain ⟨bP, bQ, bR, ay⟩ := adoptE al (fun k => 1) bj
       refine ug z z (wY (Y.not z) z (wY (Y.pick (b := false) z z) z ?_))
       exact nl (At.join (σ := (Bool × Own)) ((!bO), bP) ⟨some1 h, (su_ ay z)⟩ (.cons z (.cons z (.cons z (.cons z (.cons z (.cons z (.cons z .nil))))))))
     ·rintro ⟨bS, G⟩ C ⟨rfl, o⟩
      replace h := bg
      try dsimp only at h o
      refine (show WL _ _ _ _ _ [(1, v1), (5, vi t), (6, pt e 0), (13, v1), (14, vi (a1.length : Int)), (15, vi t), (29, vB bS)] _ from ?_)
      refine nl (th ?_)
      rcases cnd h with ⟨af, h⟩ | ⟨af, h⟩
      ·refine WC.condT' z af (sq (rg (wY (ya z) z (nl (th (rt (At.thenR (At.inBlockR (At.thenR ?_)))))))))
       refine At.loopR ?_
       have h := outr1 h J aa
       refine At.joinBR (At.inBlockR (At.thenR ?_))
       obtain rfl := some1 h
       have bk : Stp [11] (Lg.O0 A) w G C := (tr_ (su_ l z) (tr_ (su_ m z) (tr_ (su_ q z) (tr_ (su_ r z) (tr_ (su_ n z) (su_ o z))))))
       exact At.res (.inl z) z (.tmp z .nil) ⟨z, (se_ bk z z)⟩
      ·refine WC.condF' z af (sk (th (sq (rg (wY (ym z) z (wY (ym z) z ?_))))))
       obtain ⟨am, bl, h⟩ := bnd h
       have bm := ak.i q z z
       have bn := bm.i r z z
       have bo := bn.i n z z
       have bp := bo.i o z z
       obtain ⟨H, bq, an⟩ := Sl.slice (ρ := [(30, v1), (31, vi t)]) (x := (.tmp 30)) (lo := none) (hi := (some (.tmp 31))) ty35 ty107 rfl rfl rfl bp bl
       refine wY (Y.sub (.cons z (.cons z .nil)) (bq _ _)) z (wY (Y.mkfunc (fv := []) (cv := [pt e 0]) z z) z ?_)
       obtain ⟨br, h, az⟩ := bnd h
       refine WL.callJ (vals := [H, Value.func (.func 70) (List.toArray []) (List.toArray [pt e 0])]) (σ := (Bool × Own)) (fun x w' => x.1 = br ∧ Stp [] G C x.2 w') (fun x => vB x.1) kok69 z z ?_ ?_
       ·refine Rets.enter Try.func69 z z ?_
        refine (show WC _ _ _ _ [(0, H), (1, Value.func (.func 70) (List.toArray []) (List.toArray [pt e 0]))] _ from ?_)
        refine sq (rg (wY (ya z) z (nl (th (sq (rg (wY (ym z) z (wY (ym z) z ?_))))))))
        obtain ⟨bs, h, aA⟩ := bnd h
        refine WL.callJ (vals := [H, Value.func (.func 70) (List.toArray []) (List.toArray [pt e 0])]) (σ := (Int × Own)) (fun x w' => x.1 = bs ∧ Stp [] G C x.2 w') (fun x => vi x.1) kok94 z z ?_ ?_
        ·refine Rets.enter Try.func94 z z ?_
         refine (show WC _ _ _ _ [(0, H), (1, Value.func (.func 70) (List.toArray []) (List.toArray [pt e 0]))] _ from ?_)
         refine sq (rg (wY (ya z) z (nl (th (sq (sq (rg (wY (ym z) z (wY (Y.len ty35 z an) z ?_)))))))))
         refine wY (ym z) z (nl (th (WC.block ?_)))
         obtain ⟨ao, h, aj⟩ := flow1 h
         obtain ⟨ap, h⟩ := loop_some h
         refine WC.joinB 0 (σ := Own) (fun x w' => ao = .go () ∧ Stp [] G C x w') (fun x => []) ?_ ?_
         ·refine WC.loop (σ := (Int × Own)) (fun x k w' => loopN k (label_Check_lp2 p am) x.1 = some ao ∧ Stp [] G C x.2 w') (fun x => [(0, H), (1, Value.func (.func 70) (List.toArray []) (List.toArray [pt e 0])), (7, vi (am.length : Int)), (8, vi x.1)]) (0, G) ap (.cons z (.cons z (.cons z (.cons z .nil)))) ⟨h, (sr_ _ _ _)⟩ ?_
          rintro ⟨ah, ai⟩ ap aC ⟨h, d⟩
          obtain ⟨bt, cd, rfl, h, K⟩ := rnd1 h
          unfold label_Check_lp2 at h
          try dsimp only at h d
          refine (show WC _ _ _ _ [(0, H), (1, Value.func (.func 70) (List.toArray []) (List.toArray [pt e 0])), (7, vi (am.length : Int)), (8, vi ah)] _ from ?_)
          refine sq (rg (wY (Y.lss_i z z) z (nl (th (sq ?_)))))
          rcases cnd h with ⟨L, h⟩ | ⟨L, h⟩
          ·refine WC.condT' z L (sk (th (sq (WC.block (sq (rg (wY (ym z) z (wY (ya z) z (nl ?_)))))))))
           refine th (sq (rg (wY (ym z) z (wY (ym z) z (wY (ym z) z ?_)))))
           obtain ⟨j, aD, h⟩ := bnd h
           have aE := an.i d z z
           obtain ⟨ce, bT, bU, b0, aF, aG, aH, M, aq, aI⟩ := Sl.at2 aE aD
           obtain ⟨_, _, rfl, rfl, rfl⟩ := aq
           replace M : CellsAt _ _ _ [vs j.Key, vs j.Val] := M
           have ar := CAt.imm M aI
           refine wY (Y.indexAddr ty35 ty107 z aF z aG aH) z (wY (yL ty107 z z ar.at_ z) z ?_)
           obtain ⟨bu, h, aJ⟩ := bnd h
           refine WL.callV (fv := []) (cv := [pt e 0]) (vals := [ag [vs j.Key, vs j.Val]]) (σ := (Bool × Own)) (fun x w' => x.1 = bu ∧ Stp [] ai aC x.2 w') (fun x => vB x.1) kok70 z z z ?_ ?_
           ·refine Rets.enter Try.func70 z z ?_
            refine (show WC _ _ _ _ [(0, ag [vs j.Key, vs j.Val]), (1, pt e 0)] _ from ?_)
            refine sq (rg (WL.box (O := ai) 12 [vs j.Key, vs j.Val] z z z ?_))
            intro cf bw b1 T aK
            refine wY (ya z) z (nl (th (sq (rg (wY (yf fo107_0 z) z (wY (yl ty9 z z (aK.cell 0 _ z)) z (wY (yf fo107_0 z) z ?_)))))))
            have aL := ad.st n z
            have aM := aL.st o z
            have aN := aM.st d z
            have aO := aN.st T z
            refine wY (yl ty9 z z (aO.cell 0 _ z)) z (wY (Y.eql_s z z) z ?_)
            obtain ⟨bx, aP, h⟩ := lt1 h
            refine WL.yE (ya z) (congrArg vB aP.symm) z (nl (th (rt ?_)))
            exact At.res (.inl z) z (.tmp z .nil) ⟨(bx, bw), ⟨some1 h, (su_ T z)⟩, z⟩
           ·rintro ⟨bz, au⟩ b2 ⟨rfl, D⟩
            replace h := aJ
            try dsimp only at h D
            refine (show WL _ _ _ _ _ ((16, vB bz) :: _) _ from ?_)
            refine nl (th ?_)
            rcases cnd h with ⟨P, h⟩ | ⟨P, h⟩
            ·refine WC.condT' z P (sq (rg (wY (ym z) z (wY (ya z) z (nl (th (rt (At.inBlockR (At.thenR ?_)))))))))
             refine At.loopR ?_
             have h := outr1 h K aj
             refine At.joinBR (At.inBlockR (At.thenR ?_))
             exact At.res (.inl z) z (.tmp z .nil) ⟨(ah, au), ⟨some1 h, (tr_ (su_ d z) (su_ D z))⟩, z⟩
            ·refine WC.condF' z P (sk (At.inBlock (th (rg (wY (Y.add_i z z) z (wY (ym z) z (nl ?_)))))))
             exact At.round (w64 (ah + 1), au) bt (Nat.lt_succ_self _) ⟨next1 h K, (tr_ (su_ d z) (su_ D z))⟩ (.cons z (.cons z (.cons z (.cons z .nil))))
          ·refine WC.condF' z L (WC.exit (At.thenX (At.loopX ?_)))
           exact At.hitB (σ := Own) ai ⟨brk1 h K, (su_ d z)⟩ .nil
         ·rintro bA b3 ⟨rfl, av⟩
          replace h := flowK_go aj
          refine (show At _ _ _ [] _ from ?_)
          refine At.inBlockHit (th (sq (rg (wY (ya z) z (nl (th (rt ?_)))))))
          exact At.res (.inl z) z (.tmp z .nil) ⟨((-1), bA), ⟨some1 h, (su_ av z)⟩, z⟩
        ·rintro ⟨bB, bC⟩ b4 ⟨rfl, U⟩
         replace h := aA
         try dsimp only at h U
         refine (show WL _ _ _ _ _ ((7, vi bB) :: _) _ from ?_)
         refine wY (Y.geq_i z z) z ?_
         obtain ⟨bD, aQ, h⟩ := lt1 h
         refine WL.yE (ya z) (congrArg vB aQ.symm) z (nl (th (rt ?_)))
         exact At.res (.inl z) z (.tmp z .nil) ⟨(bD, bC), ⟨some1 h, (su_ U z)⟩, z⟩
       ·rintro ⟨bW, aY⟩ bE ⟨rfl, F⟩
        replace h := az
        try dsimp only at h F
        refine (show WL _ _ _ _ _ ((34, vB bW) :: _) _ from ?_)
        refine nl (th ?_)
        rcases cnd h with ⟨Q, h⟩ | ⟨Q, h⟩
        ·refine WC.condT' z Q (sq (rg (wY (ya z) z (nl (th (rt (At.inBlockR (At.thenR (At.loopR ?_)))))))))
         have h := outr1 h J aa
         refine At.joinBR (At.inBlockR (At.thenR ?_))
         obtain rfl := some1 h
         have aR : Stp [11] (Lg.O0 A) w aY bE := (tr_ (su_ l z) (tr_ (su_ m z) (tr_ (su_ q z) (tr_ (su_ r z) (tr_ (su_ n z) (tr_ (su_ o z) (su_ F z)))))))
         exact At.res (.inl z) z (.tmp z .nil) ⟨z, (se_ aR z z)⟩
        ·refine WC.condF' z Q (sk (At.inBlock (th (rg (wY (Y.add_i z z) z (wY (ym z) z (nl ?_)))))))
         exact At.round (w64 (t + 1), aY) bI (Nat.lt_succ_self _) ⟨next1 h J, (tr_ (su_ m z) (tr_ (su_ q z) (tr_ (su_ r z) (tr_ (su_ n z) (tr_ (su_ o z) (su_ F z))))))⟩ (.cons z (.cons z (.cons z (.cons z .nil))))
    ·refine WC.condF' z ab (WC.exit (At.thenX (At.loopX ?_)))
     exact At.hitB (σ := Own) aX ⟨brk1 h J, (su_ m z)⟩ .nil
   ·rintro bX bF ⟨rfl, aS⟩
    replace h := flowK_go aa
    refine (show At _ _ _ [] _ from ?_)
    refine At.inBlockHit (th (sq (rg (wY (ya z) z (nl (th (rt ?_)))))))
    obtain rfl := some1 h
    have aT : Stp [11] (Lg.O0 A) w bX bF := (tr_ (su_ l z) (su_ aS z))
    exact At.res (.inl z) z (.tmp z .nil) ⟨z, (se_ aT z z)⟩
theorem c_point_kinds {A : Nat → Prop} {v0_1 : Value} {v0_13 : Value} {v0_15 : Value} {a0 : api_Point} {w : World} (hs0_1 : Sl rep_api_Pair w A v0_1 a0.Attrs) (hs0_13 : Sl Rep.u w A v0_13 a0.Hist.Pos.Counts) (hs0_15 : Sl Rep.u w A v0_15 a0.Hist.Neg.Counts) {r0 : Bool} (h : point_kinds a0 = some r0) : Rets Try.prog 36 [ag [vs a0.Name, v0_1, vi a0.Kind, vi a0.Temp, vB a0.Mono, vi a0.Start, vi a0.Time, vi a0.Int_, vu a0.Re, vu a0.Im, vi a0.Hist.Scale, vu a0.Hist.Zero, vi a0.Hist.Pos.Offset, v0_13, vi a0.Hist.Neg.Offset, v0_15, vi a0.Flags]] w (fun v w' => v = vB r0 ∧ Ext w w') := by
 unfold point_kinds at h
 refine Rets.enter Try.func36 z z ?_
 have C : Sl rep_api_Pair w (imm (Lg.O0 A)) v0_1 a0.Attrs := (Sl.start hs0_1)
 have D : Sl Rep.u w (imm (Lg.O0 A)) v0_13 a0.Hist.Pos.Counts := (Sl.start hs0_13)
 have F : Sl Rep.u w (imm (Lg.O0 A)) v0_15 a0.Hist.Neg.Counts := (Sl.start hs0_15)
 refine (show WC _ _ _ _ [(0, ag [vs a0.Name, v0_1, vi a0.Kind, vi a0.Temp, vB a0.Mono, vi a0.Start, vi a0.Time, vi a0.Int_, vu a0.Re, vu a0.Im, vi a0.Hist.Scale, vu a0.Hist.Zero, vi a0.Hist.Pos.Offset, v0_13, vi a0.Hist.Neg.Offset, v0_15, vi a0.Flags])] _ from ?_)
 refine sq (rg ?_)
 have G := h
 obtain ⟨Z, aa, ab, rfl⟩ := C.shape
 have h := G
 have H := h
 obtain ⟨ac, ad, ae, rfl⟩ := D.shape
 have h := H
 have I := h
 obtain ⟨af, ah, ai, rfl⟩ := F.shape
 have h := I
 refine WL.box (O := (Lg.O0 A)) 11 [vs a0.Name, (Value.slice Z aa ab), vi a0.Kind, vi a0.Temp, vB a0.Mono, vi a0.Start, vi a0.Time, vi a0.Int_, vu a0.Re, vu a0.Im, vi a0.Hist.Scale, vu a0.Hist.Zero, vi a0.Hist.Pos.Offset, (Value.slice ac ad ae), vi a0.Hist.Neg.Offset, (Value.slice af ah ai), vi a0.Flags] z z z ?_
 intro t r d e j
 refine wY (ya z) z (nl (th (sq (sq (rg (wY (yf fo37_2 z) z (wY (yl ty3 z z (j.cell 2 _ z)) z (nl (th ?_)))))))))
 refine WC.block (sq (rg (wY (Y.eql_i z z) z ?_)))
 obtain ⟨ap, J, h⟩ := lt1 h
 refine WL.yE (ya z) (congrArg vB J.symm) z (nl (th ?_))
 rcases cnd h with ⟨l, h⟩ | ⟨l, h⟩
 ·refine WC.condT' z l (sq (rg (wY (yf fo37_3 z) z (wY (yl ty3 z z (j.cell 3 _ z)) z (wY (Y.eql_i z z) z ?_)))))
  obtain ⟨aq, K, h⟩ := lt1 h
  refine WL.yE (ya z) (congrArg vB K.symm) z (nl (th (rt (At.inBlockR (At.thenR ?_)))))
  obtain rfl := some1 h
  have L : Stp [] (Lg.O0 A) w r d := (su_ e z)
  exact At.res (.inl z) z (.tmp z .nil) ⟨z, (se_ L z z)⟩
 ·refine WC.condF' z l (sq ?_)
  obtain ⟨aj, h, M⟩ := bnd h
  refine WC.join (σ := Bool) (fun x w' => x = aj ∧ d = w') (fun x => [(1, pt t 0), (10, vB x)]) ?_ ?_
  ·refine sq (rg (wY (Y.eql_i z z) z ?_))
   obtain ⟨ak, P, h⟩ := lt1 h
   refine WL.yE (ya z) (congrArg vB P.symm) z (nl (th ?_))
   rcases cnd h with ⟨m, h⟩ | ⟨m, h⟩
   ·refine WC.condT' z m (sk ?_)
    exact At.join (σ := Bool) ak ⟨some1 h, z⟩ (.cons z (.cons z .nil))
   ·refine WC.condF' z m (sq (rg (wY (Y.eql_i z z) z ?_)))
    obtain ⟨al, Q, h⟩ := lt1 h
    refine WL.yE (ya z) (congrArg vB Q.symm) z (nl (th ?_))
    rcases cnd h with ⟨n, h⟩ | ⟨n, h⟩
    ·refine WC.condT' z n (sk ?_)
     exact At.join (σ := Bool) al ⟨some1 h, z⟩ (.cons z (.cons z .nil))
    ·refine WC.condF' z n (sq (rg (wY (Y.eql_i z z) z ?_)))
     obtain ⟨am, S, h⟩ := lt1 h
     refine WL.yE (ya z) (congrArg vB S.symm) z (nl (th ?_))
     rcases cnd h with ⟨o, h⟩ | ⟨o, h⟩
     ·refine WC.condT' z o (sk ?_)
      exact At.join (σ := Bool) am ⟨some1 h, z⟩ (.cons z (.cons z .nil))
     ·refine WC.condF' z o (rg (wY (Y.eql_i z z) z ?_))
      obtain ⟨an, T, h⟩ := lt1 h
      refine WL.yE (ya z) (congrArg vB T.symm) z (nl ?_)
      exact At.join (σ := Bool) an ⟨some1 h, z⟩ (.cons z (.cons z .nil))
  ·rintro ao _ ⟨rfl, rfl⟩
   replace h := M
   try dsimp only at h
   refine (show At _ _ _ [(1, pt t 0), (10, vB ao)] _ from ?_)
   refine th ?_
   rcases cnd h with ⟨p, h⟩ | ⟨p, h⟩
   ·refine WC.condT' z p (sq (rg (wY (yf fo37_3 z) z (wY (yl ty3 z z (j.cell 3 _ z)) z (wY (Y.eql_i z z) z (wY (ym z) z ?_))))))
    refine WL.cut 4 (σ := Unit) (fun _ w' => d = w') (fun _ => [(22, vB ((decide (a0.Temp = 1)) || (decide (a0.Temp = 2))))]) ?_ ?_
    ·refine WL.part 18 z (fun q => ?_) (fun q => ?_)
     ·refine WL.gS z z z z (WL.gS z z z z (WL.gS z z z z (wY (Y.pick (b := true) z z) z (WL.ren (v' := vB ((decide (a0.Temp = 1)) || (decide (a0.Temp = 2)))) 22 z (congrArg vB (orT q)) ?_))))
      exact nl (At.join () z (.cons z .nil))
     ·refine ug z z (wY (yf fo37_3 z) z (ug z z (wY (yl ty3 z z (j.cell 3 _ z)) z (ug z z (wY (Y.eql_i z z) z (wY (Y.pick (b := false) z z) z (WL.ren (v' := vB ((decide (a0.Temp = 1)) || (decide (a0.Temp = 2)))) 22 z (congrArg vB (orF q)) ?_)))))))
      exact nl (At.join () z (.cons z .nil))
    ·rintro _ _ rfl
     refine (show WL _ _ _ _ _ [(22, vB ((decide (a0.Temp = 1)) || (decide (a0.Temp = 2))))] _ from ?_)
     obtain ⟨ar, U, h⟩ := lt1 h
     refine WL.yE (ya z) (congrArg vB U.symm) z (nl (th (rt (At.inBlockR (At.thenR ?_)))))
     obtain rfl := some1 h
     have V : Stp [] (Lg.O0 A) w r d := (su_ e z)
     exact At.res (.inl z) z (.tmp z .nil) ⟨z, (se_ V z z)⟩
   ·refine WC.condF' z p (sk (At.inBlock (th (sq (rg (wY (ya z) z (nl (th (rt ?_)))))))))
    obtain rfl := some1 h
    have W : Stp [] (Lg.O0 A) w r d := (su_ e z)
    exact At.res (.inl z) z (.tmp z .nil) ⟨z, (se_ W z z)⟩
theorem c_point_sum {A : Nat → Prop} {v0_1 : Value} {v0_13 : Value} {v0_15 : Value} {a0 : api_Point} {w : World} (hs0_1 : Sl rep_api_Pair w A v0_1 a0.Attrs) (hs0_13 : Sl Rep.u w A v0_13 a0.Hist.Pos.Counts) (hs0_15 : Sl Rep.u w A v0_15 a0.Hist.Neg.Counts) {r0 : Bool} (h : point_sum a0 = some r0) : Rets Try.prog 37 [ag [vs a0.Name, v0_1, vi a0.Kind, vi a0.Temp, vB a0.Mono, vi a0.Start, vi a0.Time, vi a0.Int_, vu a0.Re, vu a0.Im, vi a0.Hist.Scale, vu a0.Hist.Zero, vi a0.Hist.Pos.Offset, v0_13, vi a0.Hist.Neg.Offset, v0_15, vi a0.Flags]] w (fun v w' => v = vB r0 ∧ Ext w w') := by
 unfold point_sum at h
 refine Rets.enter Try.func37 z z ?_
 have m : Sl rep_api_Pair w (imm (Lg.O0 A)) v0_1 a0.Attrs := (Sl.start hs0_1)
 have n : Sl Rep.u w (imm (Lg.O0 A)) v0_13 a0.Hist.Pos.Counts := (Sl.start hs0_13)
 have o : Sl Rep.u w (imm (Lg.O0 A)) v0_15 a0.Hist.Neg.Counts := (Sl.start hs0_15)
 refine (show WC _ _ _ _ [(0, ag [vs a0.Name, v0_1, vi a0.Kind, vi a0.Temp, vB a0.Mono, vi a0.Start, vi a0.Time, vi a0.Int_, vu a0.Re, vu a0.Im, vi a0.Hist.Scale, vu a0.Hist.Zero, vi a0.Hist.Pos.Offset, v0_13, vi a0.Hist.Neg.Offset, v0_15, vi a0.Flags])] _ from ?_)
 refine sq (rg ?_)
 have p := h
 obtain ⟨D, F, G, rfl⟩ := m.shape
 have h := p
 have q := h
 obtain ⟨H, I, J, rfl⟩ := n.shape
 have h := q
 have r := h
 obtain ⟨K, L, M, rfl⟩ := o.shape
 have h := r
 refine WL.box (O := (Lg.O0 A)) 11 [vs a0.Name, (Value.slice D F G), vi a0.Kind, vi a0.Temp, vB a0.Mono, vi a0.Start, vi a0.Time, vi a0.Int_, vu a0.Re, vu a0.Im, vi a0.Hist.Scale, vu a0.Hist.Zero, vi a0.Hist.Pos.Offset, (Value.slice H I J), vi a0.Hist.Neg.Offset, (Value.slice K L M), vi a0.Flags] z z z ?_
 intro Q P e l j
 refine wY (ya z) z (nl (th (sq (rg (wY (yf fo37_2 z) z (wY (yl ty3 z z (j.cell 2 _ z)) z (wY (Y.eql_i z z) z (wY (ym z) z ?_))))))))
 refine WL.cut 4 (σ := Unit) (fun _ w' => e = w') (fun _ => [(10, vB ((decide (a0.Kind = 1)) || (decide (a0.Kind = 2))))]) ?_ ?_
 ·refine WL.part 6 z (fun d => ?_) (fun d => ?_)
  ·refine WL.gS z z z z (WL.gS z z z z (WL.gS z z z z (wY (Y.pick (b := true) z z) z (WL.ren (v' := vB ((decide (a0.Kind = 1)) || (decide (a0.Kind = 2)))) 10 z (congrArg vB (orT d)) ?_))))
   exact nl (At.join () z (.cons z .nil))
  ·refine ug z z (wY (yf fo37_2 z) z (ug z z (wY (yl ty3 z z (j.cell 2 _ z)) z (ug z z (wY (Y.eql_i z z) z (wY (Y.pick (b := false) z z) z (WL.ren (v' := vB ((decide (a0.Kind = 1)) || (decide (a0.Kind = 2)))) 10 z (congrArg vB (orF d)) ?_)))))))
   exact nl (At.join () z (.cons z .nil))
 ·rintro _ _ rfl
  refine (show WL _ _ _ _ _ [(10, vB ((decide (a0.Kind = 1)) || (decide (a0.Kind = 2))))] _ from ?_)
  obtain ⟨S, t, h⟩ := lt1 h
  refine WL.yE (ya z) (congrArg vB t.symm) z (nl (th (rt ?_)))
  obtain rfl := some1 h
  have C : Stp [] (Lg.O0 A) w P e := (su_ l z)
  exact At.res (.inl z) z (.tmp z .nil) ⟨z, (se_ C z z)⟩
theorem c_point_times {A : Nat → Prop} {v0_1 : Value} {v0_13 : Value} {v0_15 : Value} {a0 : api_Point} {w : World} (hs0_1 : Sl rep_api_Pair w A v0_1 a0.Attrs) (hs0_13 : Sl Rep.u w A v0_13 a0.Hist.Pos.Counts) (hs0_15 : Sl Rep.u w A v0_15 a0.Hist.Neg.Counts) {r0 : Bool} (h : point_times a0 = some r0) : Rets Try.prog 38 [ag [vs a0.Name, v0_1, vi a0.Kind, vi a0.Temp, vB a0.Mono, vi a0.Start, vi a0.Time, vi a0.Int_, vu a0.Re, vu a0.Im, vi a0.Hist.Scale, vu a0.Hist.Zero, vi a0.Hist.Pos.Offset, v0_13, vi a0.Hist.Neg.Offset, v0_15, vi a0.Flags]] w (fun v w' => v = vB r0 ∧ Ext w w') := by
 unfold point_times at h
 refine Rets.enter Try.func38 z z ?_
 have q : Sl rep_api_Pair w (imm (Lg.O0 A)) v0_1 a0.Attrs := (Sl.start hs0_1)
 have r : Sl Rep.u w (imm (Lg.O0 A)) v0_13 a0.Hist.Pos.Counts := (Sl.start hs0_13)
 have t : Sl Rep.u w (imm (Lg.O0 A)) v0_15 a0.Hist.Neg.Counts := (Sl.start hs0_15)
 refine (show WC _ _ _ _ [(0, ag [vs a0.Name, v0_1, vi a0.Kind, vi a0.Temp, vB a0.Mono, vi a0.Start, vi a0.Time, vi a0.Int_, vu a0.Re, vu a0.Im, vi a0.Hist.Scale, vu a0.Hist.Zero, vi a0.Hist.Pos.Offset, v0_13, vi a0.Hist.Neg.Offset, v0_15, vi a0.Flags])] _ from ?_)
 refine sq (rg ?_)
 have C := h
 obtain ⟨L, M, P, rfl⟩ := q.shape
 have h := C
 have D := h
 obtain ⟨Q, S, T, rfl⟩ := r.shape
 have h := D
 have F := h
 obtain ⟨U, V, W, rfl⟩ := t.shape
 have h := F
 refine WL.box (O := (Lg.O0 A)) 11 [vs a0.Name, (Value.slice L M P), vi a0.Kind, vi a0.Temp, vB a0.Mono, vi a0.Start, vi a0.Time, vi a0.Int_, vu a0.Re, vu a0.Im, vi a0.Hist.Scale, vu a0.Hist.Zero, vi a0.Hist.Pos.Offset, (Value.slice Q S T), vi a0.Hist.Neg.Offset, (Value.slice U V W), vi a0.Flags] z z z ?_
 intro p o e j d
 refine wY (ya z) z (nl (th (sq (sq (rg (wY (yf fo37_5 z) z (wY (yl ty3 z z (d.cell 5 _ z)) z (wY (Y.lss_i z z) z (wY (ym z) z ?_)))))))))
 refine WL.cut 4 (σ := Unit) (fun _ w' => e = w') (fun _ => [(1, pt p 0), (10, vB ((decide (a0.Start < 0)) || (decide (4503599627370496 < a0.Time))))]) ?_ ?_
 ·refine WL.part 6 z (fun l => ?_) (fun l => ?_)
  ·refine WL.gS z z z z (WL.gS z z z z (WL.gS z z z z (wY (Y.pick (b := true) z z) z (WL.ren (v' := vB ((decide (a0.Start < 0)) || (decide (4503599627370496 < a0.Time)))) 10 z (congrArg vB (orT l)) ?_))))
   exact nl (At.join () z (.cons z (.cons z .nil)))
  ·refine ug z z (wY (yf fo37_6 z) z (ug z z (wY (yl ty3 z z (d.cell 6 _ z)) z (ug z z (wY (Y.gtr_i z z) z (wY (Y.pick (b := false) z z) z (WL.ren (v' := vB ((decide (a0.Start < 0)) || (decide (4503599627370496 < a0.Time)))) 10 z (congrArg vB (orF l)) ?_)))))))
   exact nl (At.join () z (.cons z (.cons z .nil)))
 ·rintro _ _ rfl
  refine (show WL _ _ _ _ _ [(1, pt p 0), (10, vB ((decide (a0.Start < 0)) || (decide (4503599627370496 < a0.Time))))] _ from ?_)
  refine nl (th ?_)
  rcases cnd h with ⟨m, h⟩ | ⟨m, h⟩
  ·refine WC.condT' z m (sq (rg (wY (ya z) z (nl (th (rt (At.thenR ?_)))))))
   obtain rfl := some1 h
   have G : Stp [] (Lg.O0 A) w o e := (su_ j z)
   exact At.res (.inl z) z (.tmp z .nil) ⟨z, (se_ G z z)⟩
  ·refine WC.condF' z m (sk (th (sq (sq (rg (wY (yf fo37_2 z) z (wY (yl ty3 z z (d.cell 2 _ z)) z (wY (Y.eql_i z z) z (nl ?_)))))))))
   refine th ?_
   rcases cnd h with ⟨n, h⟩ | ⟨n, h⟩
   ·refine WC.condT' z n (sq (rg (wY (yf fo37_5 z) z (wY (yl ty3 z z (d.cell 5 _ z)) z (wY (yf fo37_6 z) z (wY (yl ty3 z z (d.cell 6 _ z)) z (wY (Y.eql_i z z) z ?_)))))))
    obtain ⟨Z, H, h⟩ := lt1 h
    refine WL.yE (ya z) (congrArg vB H.symm) z (nl (th (rt (At.thenR ?_))))
    obtain rfl := some1 h
    have I : Stp [] (Lg.O0 A) w o e := (su_ j z)
    exact At.res (.inl z) z (.tmp z .nil) ⟨z, (se_ I z z)⟩
   ·refine WC.condF' z n (sk (th (sq (rg (wY (yf fo37_5 z) z (wY (yl ty3 z z (d.cell 5 _ z)) z (wY (yf fo37_6 z) z (wY (yl ty3 z z (d.cell 6 _ z)) z (wY (Y.lss_i z z) z ?_)))))))))
    obtain ⟨aa, J, h⟩ := lt1 h
    refine WL.yE (ya z) (congrArg vB J.symm) z (nl (th (rt ?_)))
    obtain rfl := some1 h
    have K : Stp [] (Lg.O0 A) w o e := (su_ j z)
    exact At.res (.inl z) z (.tmp z .nil) ⟨z, (se_ K z z)⟩
theorem c_point_bare {A : Nat → Prop} {v0_3 : Value} {v0_5 : Value} {a0 : api_Hist} {w : World} (hs0_3 : Sl Rep.u w A v0_3 a0.Pos.Counts) (hs0_5 : Sl Rep.u w A v0_5 a0.Neg.Counts) {r0 : Bool} (h : point_bare a0 = some r0) : Rets Try.prog 71 [ag [vi a0.Scale, vu a0.Zero, vi a0.Pos.Offset, v0_3, vi a0.Neg.Offset, v0_5]] w (fun v w' => v = vB r0 ∧ Ext w w') := by
 unfold point_bare at h
 refine Rets.enter Try.func71 z z ?_
 have q : Sl Rep.u w (imm (Lg.O0 A)) v0_3 a0.Pos.Counts := (Sl.start hs0_3)
 have r : Sl Rep.u w (imm (Lg.O0 A)) v0_5 a0.Neg.Counts := (Sl.start hs0_5)
 refine (show WC _ _ _ _ [(0, ag [vi a0.Scale, vu a0.Zero, vi a0.Pos.Offset, v0_3, vi a0.Neg.Offset, v0_5])] _ from ?_)
 refine sq (rg ?_)
 have t := h
 obtain ⟨I, J, K, rfl⟩ := q.shape
 have h := t
 have C := h
 obtain ⟨L, M, P, rfl⟩ := r.shape
 have h := C
 refine WL.box (O := (Lg.O0 A)) 11 [vi a0.Scale, vu a0.Zero, vi a0.Pos.Offset, (Value.slice I J K), vi a0.Neg.Offset, (Value.slice L M P)] z z z ?_
 intro j Q e l d
 refine wY (ya z) z (nl (th (sq (rg (wY (yf fo30_0 z) z (wY (yl ty3 z z (d.cell 0 _ z)) z (wY (Y.eql_i z z) z (wY (ym z) z ?_))))))))
 refine WL.cut 4 (σ := Unit) (fun _ w' => e = w') (fun _ => [(1, pt j 0), (10, vB ((decide (a0.Scale = 0)) && (decide (a0.Zero = 0))))]) ?_ ?_
 ·refine WL.part 6 z (fun m => ?_) (fun m => ?_)
  ·refine ug z z (wY (yf fo30_1 z) z (ug z z (wY (yl ty25 z z (d.cell 1 _ z)) z (ug z z (wY (Y.eql_u (b := 0) z z) z (wY (Y.pick (b := true) z z) z (WL.ren (v' := vB ((decide (a0.Scale = 0)) && (decide (a0.Zero = 0)))) 10 z (congrArg vB (andT m)) ?_)))))))
   exact nl (At.join () z (.cons z (.cons z .nil)))
  ·refine WL.gS z z z z (WL.gS z z z z (WL.gS z z z z (wY (Y.pick (b := false) z z) z (WL.ren (v' := vB ((decide (a0.Scale = 0)) && (decide (a0.Zero = 0)))) 10 z (congrArg vB (andF m)) ?_))))
   exact nl (At.join () z (.cons z (.cons z .nil)))
 ·rintro _ _ rfl
  refine (show WL _ _ _ _ _ [(1, pt j 0), (10, vB ((decide (a0.Scale = 0)) && (decide (a0.Zero = 0))))] _ from ?_)
  refine wY (ym z) z ?_
  refine WL.cut 5 (σ := Unit) (fun _ w' => e = w') (fun _ => [(1, pt j 0), (16, vB (((decide (a0.Scale = 0)) && (decide (a0.Zero = 0))) && (decide (a0.Pos.Offset = 0))))]) ?_ ?_
  ·refine WL.part 11 z (fun n => ?_) (fun n => ?_)
   ·refine ug z z (wY (yf fo30_2 z) z (ug z z (wY (yf fo28_0 z) z (ug z z (wY (yl ty3 z z (d.cell 2 _ z)) z (ug z z (wY (Y.eql_i z z) z (wY (Y.pick (b := true) z z) z (WL.ren (v' := vB (((decide (a0.Scale = 0)) && (decide (a0.Zero = 0))) && (decide (a0.Pos.Offset = 0)))) 16 z (congrArg vB (andT n)) ?_)))))))))
    exact nl (At.join () z (.cons z (.cons z .nil)))
   ·refine WL.gS z z z z (WL.gS z z z z (WL.gS z z z z (WL.gS z z z z (wY (Y.pick (b := false) z z) z (WL.ren (v' := vB (((decide (a0.Scale = 0)) && (decide (a0.Zero = 0))) && (decide (a0.Pos.Offset = 0)))) 16 z (congrArg vB (andF n)) ?_)))))
    exact nl (At.join () z (.cons z (.cons z .nil)))
  ·rintro _ _ rfl
   refine (show WL _ _ _ _ _ [(1, pt j 0), (16, vB (((decide (a0.Scale = 0)) && (decide (a0.Zero = 0))) && (decide (a0.Pos.Offset = 0))))] _ from ?_)
   refine wY (ym z) z ?_
   refine WL.cut 5 (σ := Unit) (fun _ w' => e = w') (fun _ => [(1, pt j 0), (22, vB ((((decide (a0.Scale = 0)) && (decide (a0.Zero = 0))) && (decide (a0.Pos.Offset = 0))) && (decide (a0.Neg.Offset = 0))))]) ?_ ?_
   ·refine WL.part 17 z (fun o => ?_) (fun o => ?_)
    ·refine ug z z (wY (yf fo30_3 z) z (ug z z (wY (yf fo28_0 z) z (ug z z (wY (yl ty3 z z (d.cell 4 _ z)) z (ug z z (wY (Y.eql_i z z) z (wY (Y.pick (b := true) z z) z (WL.ren (v' := vB ((((decide (a0.Scale = 0)) && (decide (a0.Zero = 0))) && (decide (a0.Pos.Offset = 0))) && (decide (a0.Neg.Offset = 0)))) 22 z (congrArg vB (andT o)) ?_)))))))))
     exact nl (At.join () z (.cons z (.cons z .nil)))
    ·refine WL.gS z z z z (WL.gS z z z z (WL.gS z z z z (WL.gS z z z z (wY (Y.pick (b := false) z z) z (WL.ren (v' := vB ((((decide (a0.Scale = 0)) && (decide (a0.Zero = 0))) && (decide (a0.Pos.Offset = 0))) && (decide (a0.Neg.Offset = 0)))) 22 z (congrArg vB (andF o)) ?_)))))
     exact nl (At.join () z (.cons z (.cons z .nil)))
   ·rintro _ _ rfl
    refine (show WL _ _ _ _ _ [(1, pt j 0), (22, vB ((((decide (a0.Scale = 0)) && (decide (a0.Zero = 0))) && (decide (a0.Pos.Offset = 0))) && (decide (a0.Neg.Offset = 0))))] _ from ?_)
    refine wY (ym z) z ?_
    refine WL.cut 11 (σ := Unit) (fun _ w' => e = w') (fun _ => [(34, vB (((((decide (a0.Scale = 0)) && (decide (a0.Zero = 0))) && (decide (a0.Pos.Offset = 0))) && (decide (a0.Neg.Offset = 0))) && (decide (w64 ((a0.Pos.Counts.length : Int) + (a0.Neg.Counts.length : Int)) = 0))))]) ?_ ?_
    ·refine WL.part 23 z (fun p => ?_) (fun p => ?_)
     ·refine ug z z (wY (yf fo30_2 z) z (ug z z (wY (yf fo28_1 z) z (ug z z (wY (yl ty26 z z (d.cell 3 _ z)) z (ug z z ?_))))))
      have D := q.i l z z
      refine wY (Y.len ty26 z D) z (ug z z (wY (yf fo30_3 z) z (ug z z (wY (yf fo28_1 z) z (ug z z (wY (yl ty26 z z (d.cell 5 _ z)) z (ug z z ?_)))))))
      have F := r.i l z z
      refine wY (Y.len ty26 z F) z (ug z z (wY (Y.add_i z z) z (ug z z (wY (Y.eql_i z z) z (wY (Y.pick (b := true) z z) z (WL.ren (v' := vB (((((decide (a0.Scale = 0)) && (decide (a0.Zero = 0))) && (decide (a0.Pos.Offset = 0))) && (decide (a0.Neg.Offset = 0))) && (decide (w64 ((a0.Pos.Counts.length : Int) + (a0.Neg.Counts.length : Int)) = 0)))) 34 z (congrArg vB (andT p)) ?_))))))
      exact nl (At.join () z (.cons z .nil))
     ·refine WL.gS z z z z (WL.gS z z z z (WL.gS z z z z (WL.gS z z z z (WL.gS z z z z (WL.gS z z z z (WL.gS z z z z (WL.gS z z z z (WL.gS z z z z (WL.gS z z z z ?_)))))))))
      refine wY (Y.pick (b := false) z z) z (WL.ren (v' := vB (((((decide (a0.Scale = 0)) && (decide (a0.Zero = 0))) && (decide (a0.Pos.Offset = 0))) && (decide (a0.Neg.Offset = 0))) && (decide (w64 ((a0.Pos.Counts.length : Int) + (a0.Neg.Counts.length : Int)) = 0)))) 34 z (congrArg vB (andF p)) ?_)
      exact nl (At.join () z (.cons z .nil))
    ·rintro _ _ rfl
     refine (show WL _ _ _ _ _ [(34, vB (((((decide (a0.Scale = 0)) && (decide (a0.Zero = 0))) && (decide (a0.Pos.Offset = 0))) && (decide (a0.Neg.Offset = 0))) && (decide (w64 ((a0.Pos.Counts.length : Int) + (a0.Neg.Counts.length : Int)) = 0))))] _ from ?_)
     obtain ⟨S, G, h⟩ := lt1 h
     refine WL.yE (ya z) (congrArg vB G.symm) z (nl (th (rt ?_)))
     obtain rfl := some1 h
     have H : Stp [] (Lg.O0 A) w Q e := (su_ l z)
     exact At.res (.inl z) z (.tmp z .nil) ⟨z, (se_ H z z)⟩
theorem c_point_own {A : Nat → Prop} {v0_1 : Value} {v0_13 : Value} {v0_15 : Value} {a0 : api_Point} {w : World} (hs0_1 : Sl rep_api_Pair w A v0_1 a0.Attrs) (hs0_13 : Sl Rep.u w A v0_13 a0.Hist.Pos.Counts) (hs0_15 : Sl Rep.u w A v0_15 a0.Hist.Neg.Counts) {r0 : Bool} (h : point_own a0 = some r0) : Rets Try.prog 39 [ag [vs a0.Name, v0_1, vi a0.Kind, vi a0.Temp, vB a0.Mono, vi a0.Start, vi a0.Time, vi a0.Int_, vu a0.Re, vu a0.Im, vi a0.Hist.Scale, vu a0.Hist.Zero, vi a0.Hist.Pos.Offset, v0_13, vi a0.Hist.Neg.Offset, v0_15, vi a0.Flags]] w (fun v w' => v = vB r0 ∧ Ext w w') := by
 unfold point_own at h
 refine Rets.enter Try.func39 z z ?_
 have ai : Sl rep_api_Pair w (imm (Lg.O0 A)) v0_1 a0.Attrs := (Sl.start hs0_1)
 have V : Sl Rep.u w (imm (Lg.O0 A)) v0_13 a0.Hist.Pos.Counts := (Sl.start hs0_13)
 have W : Sl Rep.u w (imm (Lg.O0 A)) v0_15 a0.Hist.Neg.Counts := (Sl.start hs0_15)
 refine (show WC _ _ _ _ [(0, ag [vs a0.Name, v0_1, vi a0.Kind, vi a0.Temp, vB a0.Mono, vi a0.Start, vi a0.Time, vi a0.Int_, vu a0.Re, vu a0.Im, vi a0.Hist.Scale, vu a0.Hist.Zero, vi a0.Hist.Pos.Offset, v0_13, vi a0.Hist.Neg.Offset, v0_15, vi a0.Flags])] _ from ?_)
 refine sq (rg ?_)
 have aj := h
 obtain ⟨aI, aJ, aK, rfl⟩ := ai.shape
 have h := aj
 have ak := h
 obtain ⟨Z, aa, ab, rfl⟩ := V.shape
 have h := ak
 have al := h
 obtain ⟨ac, ad, ae, rfl⟩ := W.shape
 have h := al
 refine WL.box (O := (Lg.O0 A)) 11 [vs a0.Name, (Value.slice aI aJ aK), vi a0.Kind, vi a0.Temp, vB a0.Mono, vi a0.Start, vi a0.Time, vi a0.Int_, vu a0.Re, vu a0.Im, vi a0.Hist.Scale, vu a0.Hist.Zero, vi a0.Hist.Pos.Offset, (Value.slice Z aa ab), vi a0.Hist.Neg.Offset, (Value.slice ac ad ae), vi a0.Flags] z z z ?_
 intro m o e d l
 refine wY (ya z) z (nl (th (sq (rg (wY (yf fo37_2 z) z (wY (yl ty3 z z (l.cell 2 _ z)) z (wY (Y.eql_i z z) z (wY (ym z) z ?_))))))))
 refine WL.cut 4 (σ := Unit) (fun _ w' => e = w') (fun _ => [(1, pt m 0), (11, vB ((decide (a0.Kind = 2)) || (decide (a0.Kind = 3))))]) ?_ ?_
 ·refine WL.part 7 z (fun q => ?_) (fun q => ?_)
  ·refine WL.gS z z z z (WL.gS z z z z (WL.gS z z z z (wY (Y.pick (b := true) z z) z (WL.ren (v' := vB ((decide (a0.Kind = 2)) || (decide (a0.Kind = 3)))) 11 z (congrArg vB (orT q)) ?_))))
   exact nl (At.join () z (.cons z (.cons z .nil)))
  ·refine ug z z (wY (yf fo37_2 z) z (ug z z (wY (yl ty3 z z (l.cell 2 _ z)) z (ug z z (wY (Y.eql_i z z) z (wY (Y.pick (b := false) z z) z (WL.ren (v' := vB ((decide (a0.Kind = 2)) || (decide (a0.Kind = 3)))) 11 z (congrArg vB (orF q)) ?_)))))))
   exact nl (At.join () z (.cons z (.cons z .nil)))
 ·rintro _ _ rfl
  refine (show WL _ _ _ _ _ [(1, pt m 0), (11, vB ((decide (a0.Kind = 2)) || (decide (a0.Kind = 3))))] _ from ?_)
  refine wY (ym z) z ?_
  refine WL.cut 4 (σ := Unit) (fun _ w' => e = w') (fun _ => [(1, pt m 0), (16, vB (((decide (a0.Kind = 2)) || (decide (a0.Kind = 3))) || (decide (a0.Kind = 5))))]) ?_ ?_
  ·refine WL.part 12 z (fun r => ?_) (fun r => ?_)
   ·refine WL.gS z z z z (WL.gS z z z z (WL.gS z z z z (wY (Y.pick (b := true) z z) z (WL.ren (v' := vB (((decide (a0.Kind = 2)) || (decide (a0.Kind = 3))) || (decide (a0.Kind = 5)))) 16 z (congrArg vB (orT r)) ?_))))
    exact nl (At.join () z (.cons z (.cons z .nil)))
   ·refine ug z z (wY (yf fo37_2 z) z (ug z z (wY (yl ty3 z z (l.cell 2 _ z)) z (ug z z (wY (Y.eql_i z z) z (wY (Y.pick (b := false) z z) z (WL.ren (v' := vB (((decide (a0.Kind = 2)) || (decide (a0.Kind = 3))) || (decide (a0.Kind = 5)))) 16 z (congrArg vB (orF r)) ?_)))))))
    exact nl (At.join () z (.cons z (.cons z .nil)))
  ·rintro _ _ rfl
   refine (show WL _ _ _ _ _ [(1, pt m 0), (16, vB (((decide (a0.Kind = 2)) || (decide (a0.Kind = 3))) || (decide (a0.Kind = 5))))] _ from ?_)
   obtain ⟨j, t, h⟩ := lt1 h
   refine WL.yE (ya z) (congrArg vB t.symm) z (nl (th (sq (WC.block (sq (sq (rg (wY (yf fo37_2 z) z (wY (yl ty3 z z (l.cell 2 _ z)) z ?_)))))))))
   refine wY (Y.neq_i z z) z (wY (ym z) z ?_)
   refine WL.cut 4 (σ := Unit) (fun _ w' => e = w') (fun _ => [(1, pt m 0), (3, vB j), (25, vB ((!decide (a0.Kind = 1)) && (!decide (a0.Int_ = 0))))]) ?_ ?_
   ·refine WL.part 21 z (fun C => ?_) (fun C => ?_)
    ·refine ug z z (wY (yf fo37_7 z) z (ug z z (wY (yl ty3 z z (l.cell 7 _ z)) z (ug z z (wY (Y.neq_i z z) z (wY (Y.pick (b := true) z z) z (WL.ren (v' := vB ((!decide (a0.Kind = 1)) && (!decide (a0.Int_ = 0)))) 25 z (congrArg vB (andT C)) ?_)))))))
     exact nl (At.join () z (.cons z (.cons z (.cons z .nil))))
    ·refine WL.gS z z z z (WL.gS z z z z (WL.gS z z z z (wY (Y.pick (b := false) z z) z (WL.ren (v' := vB ((!decide (a0.Kind = 1)) && (!decide (a0.Int_ = 0)))) 25 z (congrArg vB (andF C)) ?_))))
     exact nl (At.join () z (.cons z (.cons z (.cons z .nil))))
   ·rintro _ _ rfl
    refine (show WL _ _ _ _ _ [(1, pt m 0), (3, vB j), (25, vB ((!decide (a0.Kind = 1)) && (!decide (a0.Int_ = 0))))] _ from ?_)
    obtain ⟨aT, am, h⟩ := lt1 h
    refine WL.yE (ya z) (congrArg vB am.symm) z (nl (th ?_))
    rcases cnd h with ⟨D, h⟩ | ⟨D, h⟩
    ·refine WC.condT' z D (sk (th ?_))
     rcases cnd h with ⟨F, h⟩ | ⟨F, h⟩
     ·refine WC.condT' z F (sq (rg (wY (ya z) z (nl (th (rt (At.inBlockR (At.thenR ?_))))))))
      obtain rfl := some1 h
      have an : Stp [] (Lg.O0 A) w o e := (su_ d z)
      exact At.res (.inl z) z (.tmp z .nil) ⟨z, (se_ an z z)⟩
     ·refine WC.condF' z F (sk (At.inBlock (th (sq (rg (wY (ya z) z (nl (th (rt ?_)))))))))
      obtain rfl := some1 h
      have ao : Stp [] (Lg.O0 A) w o e := (su_ d z)
      exact At.res (.inl z) z (.tmp z .nil) ⟨z, (se_ ao z z)⟩
    ·refine WC.condF' z D (sq (rg (wY (ym z) z (wY (Y.not z) z (wY (ym z) z ?_)))))
     refine WL.cut 4 (σ := Unit) (fun _ w' => e = w') (fun _ => [(1, pt m 0), (32, vB ((!j) && (!decide (a0.Re = 0))))]) ?_ ?_
     ·refine WL.part 28 z (fun G => ?_) (fun G => ?_)
      ·refine ug z z (wY (yf fo37_8 z) z (ug z z (wY (yl ty25 z z (l.cell 8 _ z)) z (ug z z (wY (Y.neq_u (b := 0) z z) z (wY (Y.pick (b := true) z z) z (WL.ren (v' := vB ((!j) && (!decide (a0.Re = 0)))) 32 z (congrArg vB (andT G)) ?_)))))))
       exact nl (At.join () z (.cons z (.cons z .nil)))
      ·refine WL.gS z z z z (WL.gS z z z z (WL.gS z z z z (wY (Y.pick (b := false) z z) z (WL.ren (v' := vB ((!j) && (!decide (a0.Re = 0)))) 32 z (congrArg vB (andF G)) ?_))))
       exact nl (At.join () z (.cons z (.cons z .nil)))
     ·rintro _ _ rfl
      refine (show WL _ _ _ _ _ [(1, pt m 0), (32, vB ((!j) && (!decide (a0.Re = 0))))] _ from ?_)
      obtain ⟨aU, ap, h⟩ := lt1 h
      refine WL.yE (ya z) (congrArg vB ap.symm) z (nl (th ?_))
      rcases cnd h with ⟨H, h⟩ | ⟨H, h⟩
      ·refine WC.condT' z H (sk (th ?_))
       rcases cnd h with ⟨I, h⟩ | ⟨I, h⟩
       ·refine WC.condT' z I (sq (rg (wY (ya z) z (nl (th (rt (At.inBlockR (At.thenR ?_))))))))
        obtain rfl := some1 h
        have aq : Stp [] (Lg.O0 A) w o e := (su_ d z)
        exact At.res (.inl z) z (.tmp z .nil) ⟨z, (se_ aq z z)⟩
       ·refine WC.condF' z I (sk (At.inBlock (th (sq (rg (wY (ya z) z (nl (th (rt ?_)))))))))
        obtain rfl := some1 h
        have ar : Stp [] (Lg.O0 A) w o e := (su_ d z)
        exact At.res (.inl z) z (.tmp z .nil) ⟨z, (se_ ar z z)⟩
      ·refine WC.condF' z H (sq (rg (wY (yf fo37_2 z) z (wY (yl ty3 z z (l.cell 2 _ z)) z (wY (Y.neq_i z z) z (wY (ym z) z ?_))))))
       refine WL.cut 4 (σ := Unit) (fun _ w' => e = w') (fun _ => [(1, pt m 0), (40, vB ((!decide (a0.Kind = 5)) && (!decide (a0.Im = 0))))]) ?_ ?_
       ·refine WL.part 36 z (fun J => ?_) (fun J => ?_)
        ·refine ug z z (wY (yf fo37_9 z) z (ug z z (wY (yl ty25 z z (l.cell 9 _ z)) z (ug z z (wY (Y.neq_u (b := 0) z z) z (wY (Y.pick (b := true) z z) z (WL.ren (v' := vB ((!decide (a0.Kind = 5)) && (!decide (a0.Im = 0)))) 40 z (congrArg vB (andT J)) ?_)))))))
         exact nl (At.join () z (.cons z (.cons z .nil)))
        ·refine WL.gS z z z z (WL.gS z z z z (WL.gS z z z z (wY (Y.pick (b := false) z z) z (WL.ren (v' := vB ((!decide (a0.Kind = 5)) && (!decide (a0.Im = 0)))) 40 z (congrArg vB (andF J)) ?_))))
         exact nl (At.join () z (.cons z (.cons z .nil)))
       ·rintro _ _ rfl
        refine (show WL _ _ _ _ _ [(1, pt m 0), (40, vB ((!decide (a0.Kind = 5)) && (!decide (a0.Im = 0))))] _ from ?_)
        obtain ⟨aW, au, h⟩ := lt1 h
        refine WL.yE (ya z) (congrArg vB au.symm) z (nl (th ?_))
        rcases cnd h with ⟨K, h⟩ | ⟨K, h⟩
        ·refine WC.condT' z K (sk (th ?_))
         rcases cnd h with ⟨L, h⟩ | ⟨L, h⟩
         ·refine WC.condT' z L (sq (rg (wY (ya z) z (nl (th (rt (At.inBlockR (At.thenR ?_))))))))
          obtain rfl := some1 h
          have av : Stp [] (Lg.O0 A) w o e := (su_ d z)
          exact At.res (.inl z) z (.tmp z .nil) ⟨z, (se_ av z z)⟩
         ·refine WC.condF' z L (sk (At.inBlock (th (sq (rg (wY (ya z) z (nl (th (rt ?_)))))))))
          obtain rfl := some1 h
          have aw : Stp [] (Lg.O0 A) w o e := (su_ d z)
          exact At.res (.inl z) z (.tmp z .nil) ⟨z, (se_ aw z z)⟩
        ·refine WC.condF' z K (sq (rg (wY (yf fo37_2 z) z (wY (yl ty3 z z (l.cell 2 _ z)) z (wY (Y.neq_i z z) z (wY (ym z) z ?_))))))
         obtain ⟨aL, h, ax⟩ := bnd h
         refine WL.cut 5 (σ := (Bool × Own)) (fun x w' => x.1 = aL ∧ Stp [] o e x.2 w') (fun x => [(1, pt m 0), (49, vB x.1)]) ?_ ?_
         ·rcases cnd h with ⟨M, h⟩ | ⟨M, h⟩
          ·refine WL.ren 44 z (congrArg vB M) (ug z z (wY (yf fo37_10 z) z (ug z z (wY (yL ty30 z z (l.cells 10 [vi a0.Hist.Scale, vu a0.Hist.Zero, vi a0.Hist.Pos.Offset, (Value.slice Z aa ab), vi a0.Hist.Neg.Offset, (Value.slice ac ad ae)] z) z) z (ug z z ?_)))))
           have ay := V.i d z z
           have az := W.i d z z
           obtain ⟨aM, aA, h⟩ := bnd h
           refine WL.call (vals := [ag [vi a0.Hist.Scale, vu a0.Hist.Zero, vi a0.Hist.Pos.Offset, (Value.slice Z aa ab), vi a0.Hist.Neg.Offset, (Value.slice ac ad ae)]]) kok71 z z (c_point_bare (A := fun _ => True) (a0 := a0.Hist) (Sl.all ay) (Sl.all az) aA) ?_
           rintro aR aS ⟨rfl, aC⟩
           obtain ⟨aN, aO, aP, ah⟩ := adoptE o (fun k => 1) aC
           refine ug z z (wY (Y.not z) z (wY (Y.pick (b := true) z z) z ?_))
           exact nl (At.join (σ := (Bool × Own)) ((!aM), aN) ⟨some1 h, (su_ ah z)⟩ (.cons z (.cons z .nil)))
          ·refine WL.ren 44 z (congrArg vB M) (WL.gS z z z z (WL.gS z z z z (WL.gS z z z z (WL.gS z z z z (wY (Y.pick (b := false) z z) z ?_)))))
           exact nl (At.join (σ := (Bool × Own)) (false, o) ⟨some1 h, (sr_ _ _ _)⟩ (.cons z (.cons z .nil)))
         ·rintro ⟨aQ, U⟩ p ⟨rfl, n⟩
          replace h := ax
          try dsimp only at h n
          refine (show WL _ _ _ _ _ [(1, pt m 0), (49, vB aQ)] _ from ?_)
          refine wY (ya z) z (nl (th ?_))
          rcases cnd h with ⟨P, h⟩ | ⟨P, h⟩
          ·refine WC.condT' z P (sk (th ?_))
           rcases cnd h with ⟨Q, h⟩ | ⟨Q, h⟩
           ·refine WC.condT' z Q (sq (rg (wY (ya z) z (nl (th (rt (At.inBlockR (At.thenR ?_))))))))
            obtain rfl := some1 h
            have aD : Stp [] (Lg.O0 A) w U p := (tr_ (su_ d z) (su_ n z))
            exact At.res (.inl z) z (.tmp z .nil) ⟨z, (se_ aD z z)⟩
           ·refine WC.condF' z Q (sk (At.inBlock (th (sq (rg (wY (ya z) z (nl (th (rt ?_)))))))))
            obtain rfl := some1 h
            have aE : Stp [] (Lg.O0 A) w U p := (tr_ (su_ d z) (su_ n z))
            exact At.res (.inl z) z (.tmp z .nil) ⟨z, (se_ aE z z)⟩
          ·refine WC.condF' z P (rg (wY (yf fo37_11 z) z ?_))
           have af := l.st n z
           refine wY (yl ty3 z z (af.cell 16 _ z)) z (wY (Y.lss_i z z) z (wY (ym z) z ?_))
           refine WL.cut 4 (σ := Unit) (fun _ w' => p = w') (fun _ => [(57, vB ((decide (a0.Flags < 0)) || (decide (31 < a0.Flags))))]) ?_ ?_
           ·refine WL.part 53 z (fun S => ?_) (fun S => ?_)
            ·refine WL.gS z z z z (WL.gS z z z z (WL.gS z z z z (wY (Y.pick (b := true) z z) z (WL.ren (v' := vB ((decide (a0.Flags < 0)) || (decide (31 < a0.Flags)))) 57 z (congrArg vB (orT S)) ?_))))
             exact nl (At.join () z (.cons z .nil))
            ·refine ug z z (wY (yf fo37_11 z) z (ug z z (wY (yl ty3 z z (af.cell 16 _ z)) z (ug z z (wY (Y.gtr_i z z) z (wY (Y.pick (b := false) z z) z (WL.ren (v' := vB ((decide (a0.Flags < 0)) || (decide (31 < a0.Flags)))) 57 z (congrArg vB (orF S)) ?_)))))))
             exact nl (At.join () z (.cons z .nil))
           ·rintro _ _ rfl
            refine (show WL _ _ _ _ _ [(57, vB ((decide (a0.Flags < 0)) || (decide (31 < a0.Flags))))] _ from ?_)
            obtain ⟨aX, aF, h⟩ := lt1 h
            refine WL.yE (ya z) (congrArg vB aF.symm) z (nl (th ?_))
            rcases cnd h with ⟨T, h⟩ | ⟨T, h⟩
            ·refine WC.condT' z T (sq (rg (wY (ya z) z (nl (th (rt (At.inBlockR (At.thenR ?_))))))))
             obtain rfl := some1 h
             have aG : Stp [] (Lg.O0 A) w U p := (tr_ (su_ d z) (su_ n z))
             exact At.res (.inl z) z (.tmp z .nil) ⟨z, (se_ aG z z)⟩
            ·refine WC.condF' z T (sk (At.inBlock (th (sq (rg (wY (ya z) z (nl (th (rt ?_)))))))))
             obtain rfl := some1 h
             have aH : Stp [] (Lg.O0 A) w U p := (tr_ (su_ d z) (su_ n z))
             exact At.res (.inl z) z (.tmp z .nil) ⟨z, (se_ aH z z)⟩
theorem c_num_Finite {a0 : UInt64} {w : World} {r0 : Bool} (h : num_Finite a0 = some r0) : Rets Try.prog 40 [vu a0] w (fun v w' => v = vB r0 ∧ Ext w w') := by
 unfold num_Finite at h
 refine Rets.enter Try.func40 z z ?_
 refine (show WC _ _ _ _ [(0, vu a0)] _ from ?_)
 refine sq (rg (wY (ya z) z (nl (th (sq (rg (wY (ym z) z (wY (Y.and_u (b := 9218868437227405312) z z) z (wY (Y.neq_u (b := 9218868437227405312) z z) z ?_)))))))))
 obtain ⟨j, d, h⟩ := lt1 h
 refine WL.yE (ya z) (congrArg vB d.symm) z (nl (th (rt ?_)))
 obtain rfl := some1 h
 have e : Stp [] (Lg.O0 (fun _ => False)) w (Lg.O0 (fun _ => False)) w := (sr_ _ _ _)
 exact At.res (.inl z) z (.tmp z .nil) ⟨z, (se_ e z z)⟩
theorem c_num_of {a0 : UInt64} {w : World} : Rets Try.prog 72 [vu a0] w (fun v w' => v = .float .f64 a0.toNat ∧ Ext w w') := by
  refine Rets.enter Try.func72 z z ?_
  refine (show WC _ _ _ _ [(0, vu a0)] _ from ?_)
  refine sq (rg (wY (ya (v := .float .f64 0) z) z (nl (th ?_))))
  refine sq (rg ?_)
  refine wY (ym z) z (wY (Y.ffrom xfrom_95 z) z ?_)
  refine wY (ya z) z (nl (th (rt ?_)))
  exact At.res (.inl z) z (.tmp z .nil) ⟨z, Ext.refl w⟩
theorem c_num_Less {a0 : UInt64} {a1 : UInt64} {w : World} {r0 : Bool} (h : num_Less a0 a1 = some r0) : Rets Try.prog 41 [vu a0, vu a1] w (fun v w' => v = vB r0 ∧ Ext w w') := by
  unfold num_Less at h
  obtain rfl := some1 h
  refine Rets.enter Try.func41 z z ?_
  refine (show WC _ _ _ _ [(0, vu a0), (1, vu a1)] _ from ?_)
  refine sq (rg (wY (ya (v := .bool false) z) z (nl (th ?_))))
  refine sq (rg ?_)
  refine wY (ym z) z (WL.call (vals := [vu a0]) kok72 z z (c_num_of) ?_)
  rintro C D ⟨rfl, j⟩
  obtain ⟨r, n, o, d⟩ := adoptE (Lg.O0 (fun _ => False)) (fun k => 1) j
  refine wY (ym z) z (WL.call (vals := [vu a1]) kok72 z z (c_num_of) ?_)
  rintro F l ⟨rfl, m⟩
  obtain ⟨t, p, q, e⟩ := adoptE r (fun k => 1) m
  refine wY (Y.fless z z) z ?_
  refine wY (ya z) z (nl (th (rt ?_)))
  have hs : Stp [] (Lg.O0 (fun _ => False)) w t l := (tr_ (su_ d z) (su_ e z))
  exact At.res (.inl z) z (.tmp z .nil) ⟨z, se_ hs z z⟩
theorem c_point_Check {A : Nat → Prop} {v0_1 : Value} {v0_13 : Value} {v0_15 : Value} {a0 : api_Point} {w : World} (hs0_1 : Sl rep_api_Pair w A v0_1 a0.Attrs) (hs0_13 : Sl Rep.u w A v0_13 a0.Hist.Pos.Counts) (hs0_15 : Sl Rep.u w A v0_15 a0.Hist.Neg.Counts) {r0 : Int} (h : point_Check a0 = some r0) : Rets Try.prog 14 [ag [vs a0.Name, v0_1, vi a0.Kind, vi a0.Temp, vB a0.Mono, vi a0.Start, vi a0.Time, vi a0.Int_, vu a0.Re, vu a0.Im, vi a0.Hist.Scale, vu a0.Hist.Zero, vi a0.Hist.Pos.Offset, v0_13, vi a0.Hist.Neg.Offset, v0_15, vi a0.Flags]] w (fun v w' => v = vi r0 ∧ Ext w w') := by
 unfold point_Check at h
 refine Rets.enter Try.func14 z z ?_
 have aA : Sl rep_api_Pair w (imm (Lg.O0 A)) v0_1 a0.Attrs := (Sl.start hs0_1)
 have aC : Sl Rep.u w (imm (Lg.O0 A)) v0_13 a0.Hist.Pos.Counts := (Sl.start hs0_13)
 have aD : Sl Rep.u w (imm (Lg.O0 A)) v0_15 a0.Hist.Neg.Counts := (Sl.start hs0_15)
 refine (show WC _ _ _ _ [(0, ag [vs a0.Name, v0_1, vi a0.Kind, vi a0.Temp, vB a0.Mono, vi a0.Start, vi a0.Time, vi a0.Int_, vu a0.Re, vu a0.Im, vi a0.Hist.Scale, vu a0.Hist.Zero, vi a0.Hist.Pos.Offset, v0_13, vi a0.Hist.Neg.Offset, v0_15, vi a0.Flags])] _ from ?_)
 refine sq (rg ?_)
 have bo := h
 obtain ⟨H, I, J, rfl⟩ := aA.shape
 have h := bo
 have bp := h
 obtain ⟨r, t, C, rfl⟩ := aC.shape
 have h := bp
 have bq := h
 obtain ⟨D, F, G, rfl⟩ := aD.shape
 have h := bq
 refine WL.box (O := (Lg.O0 A)) 11 [vs a0.Name, (Value.slice H I J), vi a0.Kind, vi a0.Temp, vB a0.Mono, vi a0.Start, vi a0.Time, vi a0.Int_, vu a0.Re, vu a0.Im, vi a0.Hist.Scale, vu a0.Hist.Zero, vi a0.Hist.Pos.Offset, (Value.slice r t C), vi a0.Hist.Neg.Offset, (Value.slice D F G), vi a0.Flags] z z z ?_
 intro q cj cE j ak
 refine wY (ya z) z (nl (th (sq (sq (rg (wY (yf fo37_0 z) z (wY (yl ty9 z z (ak.cell 0 _ z)) z (wY (yf fo37_1 z) z (wY (yl ty35 z z (ak.cell 1 _ z)) z ?_)))))))))
 have aE := aA.i j z z
 obtain ⟨cQ, br, h⟩ := bnd h
 refine WL.call (vals := [vs a0.Name, (Value.slice H I J)]) kok35 z z (c_label_Check (A := fun _ => True) (Sl.all aE) br) ?_
 rintro cF bs ⟨rfl, bt⟩
 obtain ⟨bk, ck, cl, e⟩ := adoptE cj (fun k => 1) bt
 refine wY (ya z) z (nl (th (sq (rg (wY (ym z) z (wY (Y.neq_i z z) z (nl (th ?_))))))))
 rcases cnd h with ⟨al, h⟩ | ⟨al, h⟩
 ·refine WC.condT' z al (sq (rg (wY (ym z) z (wY (ya z) z (nl (th (rt (At.thenR ?_))))))))
  obtain rfl := some1 h
  have bu : Stp [] (Lg.O0 A) w bk bs := (tr_ (su_ j z) (su_ e z))
  exact At.res (.inl z) z (.tmp z .nil) ⟨z, (se_ bu z z)⟩
 ·refine WC.condF' z al (sk (th (sq (WC.block (sq (rg ?_))))))
  have am := ak.st e z
  refine wY (yL ty37 z z (am.cells 0 [vs a0.Name, (Value.slice H I J), vi a0.Kind, vi a0.Temp, vB a0.Mono, vi a0.Start, vi a0.Time, vi a0.Int_, vu a0.Re, vu a0.Im, vi a0.Hist.Scale, vu a0.Hist.Zero, vi a0.Hist.Pos.Offset, (Value.slice r t C), vi a0.Hist.Neg.Offset, (Value.slice D F G), vi a0.Flags] z) z) z ?_
  have P := aE.i e z z
  have bw := aC.i j z z
  have Q := bw.i e z z
  have bx := aD.i j z z
  have S := bx.i e z z
  obtain ⟨cR, bz, h⟩ := bnd h
  refine WL.call (vals := [ag [vs a0.Name, (Value.slice H I J), vi a0.Kind, vi a0.Temp, vB a0.Mono, vi a0.Start, vi a0.Time, vi a0.Int_, vu a0.Re, vu a0.Im, vi a0.Hist.Scale, vu a0.Hist.Zero, vi a0.Hist.Pos.Offset, (Value.slice r t C), vi a0.Hist.Neg.Offset, (Value.slice D F G), vi a0.Flags]]) kok36 z z (c_point_kinds (A := fun _ => True) (a0 := a0) (Sl.all P) (Sl.all Q) (Sl.all S) bz) ?_
  rintro cG an ⟨rfl, bA⟩
  obtain ⟨ai, cm, cn, d⟩ := adoptE bk (fun k => 1) bA
  refine wY (Y.not z) z ?_
  obtain ⟨cS, bB, h⟩ := lt1 h
  refine WL.yE (ya z) (congrArg vB bB.symm) z (nl (th ?_))
  rcases cnd h with ⟨ao, h⟩ | ⟨ao, h⟩
  ·refine WC.condT' z ao (sq (rg (wY (ya z) z (nl (th (rt (At.inBlockR (At.thenR ?_))))))))
   obtain rfl := some1 h
   have bC : Stp [] (Lg.O0 A) w ai an := (tr_ (su_ j z) (tr_ (su_ e z) (su_ d z)))
   exact At.res (.inl z) z (.tmp z .nil) ⟨z, (se_ bC z z)⟩
  ·refine WC.condF' z ao (sq ?_)
   obtain ⟨co, h, bD⟩ := bnd h
   refine WC.join (σ := (Bool × Own)) (fun x w' => x.1 = co ∧ Stp [] ai an x.2 w') (fun x => [(1, pt q 0), (16, vB x.1)]) ?_ ?_
   ·refine sq (rg (wY (yf fo37_4 z) z ?_))
    have ap := am.st d z
    refine wY (yl ty4 z z (ap.cell 4 _ z)) z (wY (ym z) z ?_)
    obtain ⟨cp, h, bE⟩ := bnd h
    refine WL.cut 4 (σ := (Bool × Own)) (fun x w' => x.1 = cp ∧ Stp [] ai an x.2 w') (fun x => [(1, pt q 0), (23, vB x.1)]) ?_ ?_
    ·rcases cnd h with ⟨aq, h⟩ | ⟨aq, h⟩
     ·refine WL.ren 19 z (congrArg vB aq) (ug z z (wY (yL ty37 z z (ap.cells 0 [vs a0.Name, (Value.slice H I J), vi a0.Kind, vi a0.Temp, vB a0.Mono, vi a0.Start, vi a0.Time, vi a0.Int_, vu a0.Re, vu a0.Im, vi a0.Hist.Scale, vu a0.Hist.Zero, vi a0.Hist.Pos.Offset, (Value.slice r t C), vi a0.Hist.Neg.Offset, (Value.slice D F G), vi a0.Flags] z) z) z (ug z z ?_)))
      have bF := P.i d z z
      have bG := Q.i d z z
      have bH := S.i d z z
      obtain ⟨cq, bI, h⟩ := bnd h
      refine WL.call (vals := [ag [vs a0.Name, (Value.slice H I J), vi a0.Kind, vi a0.Temp, vB a0.Mono, vi a0.Start, vi a0.Time, vi a0.Int_, vu a0.Re, vu a0.Im, vi a0.Hist.Scale, vu a0.Hist.Zero, vi a0.Hist.Pos.Offset, (Value.slice r t C), vi a0.Hist.Neg.Offset, (Value.slice D F G), vi a0.Flags]]) kok37 z z (c_point_sum (A := fun _ => True) (a0 := a0) (Sl.all bF) (Sl.all bG) (Sl.all bH) bI) ?_
      rintro cH cI ⟨rfl, bJ⟩
      obtain ⟨cr, cs, ct, aK⟩ := adoptE ai (fun k => 1) bJ
      refine ug z z (wY (Y.not z) z (wY (Y.pick (b := true) z z) z ?_))
      exact nl (At.join (σ := (Bool × Own)) ((!cq), cr) ⟨some1 h, (su_ aK z)⟩ (.cons z (.cons z .nil)))
     ·refine WL.ren 19 z (congrArg vB aq) (WL.gS z z z z (WL.gS z z z z (WL.gS z z z z (wY (Y.pick (b := false) z z) z ?_))))
      exact nl (At.join (σ := (Bool × Own)) (false, ai) ⟨some1 h, (sr_ _ _ _)⟩ (.cons z (.cons z .nil)))
    ·rintro ⟨bl, bm⟩ cJ ⟨rfl, p⟩
     replace h := bE
     try dsimp only at h p
     refine (show WL _ _ _ _ _ [(1, pt q 0), (23, vB bl)] _ from ?_)
     refine wY (ya z) z (nl (th ?_))
     rcases cnd h with ⟨ar, h⟩ | ⟨ar, h⟩
     ·refine WC.condT' z ar (sk ?_)
      exact At.join (σ := (Bool × Own)) (bl, bm) ⟨some1 h, (su_ p z)⟩ (.cons z (.cons z .nil))
     ·refine WC.condF' z ar (rg ?_)
      have bK := ap.st p z
      refine wY (yL ty37 z z (bK.cells 0 [vs a0.Name, (Value.slice H I J), vi a0.Kind, vi a0.Temp, vB a0.Mono, vi a0.Start, vi a0.Time, vi a0.Int_, vu a0.Re, vu a0.Im, vi a0.Hist.Scale, vu a0.Hist.Zero, vi a0.Hist.Pos.Offset, (Value.slice r t C), vi a0.Hist.Neg.Offset, (Value.slice D F G), vi a0.Flags] z) z) z ?_
      have bL := P.i d z z
      have bM := bL.i p z z
      have bO := Q.i d z z
      have bP := bO.i p z z
      have bQ := S.i d z z
      have bR := bQ.i p z z
      obtain ⟨cT, bS, h⟩ := bnd h
      refine WL.call (vals := [ag [vs a0.Name, (Value.slice H I J), vi a0.Kind, vi a0.Temp, vB a0.Mono, vi a0.Start, vi a0.Time, vi a0.Int_, vu a0.Re, vu a0.Im, vi a0.Hist.Scale, vu a0.Hist.Zero, vi a0.Hist.Pos.Offset, (Value.slice r t C), vi a0.Hist.Neg.Offset, (Value.slice D F G), vi a0.Flags]]) kok38 z z (c_point_times (A := fun _ => True) (a0 := a0) (Sl.all bM) (Sl.all bP) (Sl.all bR) bS) ?_
      rintro cK cL ⟨rfl, bT⟩
      obtain ⟨bU, b9, ca, aF⟩ := adoptE bm (fun k => 1) bT
      refine wY (Y.not z) z ?_
      obtain ⟨bW, aL, h⟩ := lt1 h
      refine WL.yE (ya z) (congrArg vB aL.symm) z (nl ?_)
      exact At.join (σ := (Bool × Own)) (bW, bU) ⟨some1 h, (tr_ (su_ p z) (su_ aF z))⟩ (.cons z (.cons z .nil))
   ·rintro ⟨cu, bn⟩ bX ⟨rfl, l⟩
    replace h := bD
    try dsimp only at h l
    refine (show At _ _ _ [(1, pt q 0), (16, vB cu)] _ from ?_)
    refine th ?_
    rcases cnd h with ⟨T, h⟩ | ⟨T, h⟩
    ·refine WC.condT' z T (sq (rg (wY (ya z) z (nl (th (rt (At.inBlockR (At.thenR ?_))))))))
     obtain rfl := some1 h
     have aM : Stp [] (Lg.O0 A) w bn bX := (tr_ (su_ j z) (tr_ (su_ e z) (tr_ (su_ d z) (su_ l z))))
     exact At.res (.inl z) z (.tmp z .nil) ⟨z, (se_ aM z z)⟩
    ·refine WC.condF' z T (sq (rg ?_))
     have aN := am.st d z
     have av := aN.st l z
     refine wY (yL ty37 z z (av.cells 0 [vs a0.Name, (Value.slice H I J), vi a0.Kind, vi a0.Temp, vB a0.Mono, vi a0.Start, vi a0.Time, vi a0.Int_, vu a0.Re, vu a0.Im, vi a0.Hist.Scale, vu a0.Hist.Zero, vi a0.Hist.Pos.Offset, (Value.slice r t C), vi a0.Hist.Neg.Offset, (Value.slice D F G), vi a0.Flags] z) z) z ?_
     have aO := P.i d z z
     have aP := aO.i l z z
     have aQ := Q.i d z z
     have aw := aQ.i l z z
     have aR := S.i d z z
     have ax := aR.i l z z
     obtain ⟨cM, aS, h⟩ := bnd h
     refine WL.call (vals := [ag [vs a0.Name, (Value.slice H I J), vi a0.Kind, vi a0.Temp, vB a0.Mono, vi a0.Start, vi a0.Time, vi a0.Int_, vu a0.Re, vu a0.Im, vi a0.Hist.Scale, vu a0.Hist.Zero, vi a0.Hist.Pos.Offset, (Value.slice r t C), vi a0.Hist.Neg.Offset, (Value.slice D F G), vi a0.Flags]]) kok39 z z (c_point_own (A := fun _ => True) (a0 := a0) (Sl.all aP) (Sl.all aw) (Sl.all ax) aS) ?_
     rintro cw U ⟨rfl, aT⟩
     obtain ⟨V, cb, cc, m⟩ := adoptE bn (fun k => 1) aT
     refine wY (Y.not z) z ?_
     obtain ⟨cN, aU, h⟩ := lt1 h
     refine WL.yE (ya z) (congrArg vB aU.symm) z (nl (th ?_))
     rcases cnd h with ⟨W, h⟩ | ⟨W, h⟩
     ·refine WC.condT' z W (sq (rg (wY (ya z) z (nl (th (rt (At.inBlockR (At.thenR ?_))))))))
      obtain rfl := some1 h
      have aW : Stp [] (Lg.O0 A) w V U := (tr_ (su_ j z) (tr_ (su_ e z) (tr_ (su_ d z) (tr_ (su_ l z) (su_ m z)))))
      exact At.res (.inl z) z (.tmp z .nil) ⟨z, (se_ aW z z)⟩
     ·refine WC.condF' z W (sq (rg (wY (yf fo37_4 z) z ?_)))
      have L := av.st m z
      refine wY (yl ty4 z z (L.cell 4 _ z)) z (wY (ym z) z ?_)
      refine WL.cut 4 (σ := Unit) (fun _ w' => U = w') (fun _ => [(1, pt q 0), (38, vB (a0.Mono && (decide (a0.Kind = 2))))]) ?_ ?_
      ·refine WL.part 34 z (fun Z => ?_) (fun Z => ?_)
       ·refine ug z z (wY (yf fo37_2 z) z (ug z z (wY (yl ty3 z z (L.cell 2 _ z)) z (ug z z (wY (Y.eql_i z z) z (wY (Y.pick (b := true) z z) z (WL.ren (v' := vB (a0.Mono && (decide (a0.Kind = 2)))) 38 z (congrArg vB (andT Z)) ?_)))))))
        exact nl (At.join () z (.cons z (.cons z .nil)))
       ·refine WL.gS z z z z (WL.gS z z z z (WL.gS z z z z (wY (Y.pick (b := false) z z) z (WL.ren (v' := vB (a0.Mono && (decide (a0.Kind = 2)))) 38 z (congrArg vB (andF Z)) ?_))))
        exact nl (At.join () z (.cons z (.cons z .nil)))
      ·rintro _ _ rfl
       refine (show WL _ _ _ _ _ [(1, pt q 0), (38, vB (a0.Mono && (decide (a0.Kind = 2))))] _ from ?_)
       refine wY (ym z) z ?_
       obtain ⟨bY, h, aX⟩ := bnd h
       refine WL.cut 5 (σ := (Bool × Own)) (fun x w' => x.1 = bY ∧ Stp [] V U x.2 w') (fun x => [(1, pt q 0), (44, vB x.1)]) ?_ ?_
       ·rcases cnd h with ⟨aa, h⟩ | ⟨aa, h⟩
        ·refine WL.ren 39 z (congrArg vB aa) (ug z z (wY (yf fo37_8 z) z (ug z z (wY (yl ty25 z z (L.cell 8 _ z)) z (ug z z ?_)))))
         obtain ⟨bZ, aY, h⟩ := bnd h
         refine WL.call (vals := [vu a0.Re]) kok40 z z (c_num_Finite aY) ?_
         rintro cx cy ⟨rfl, aZ⟩
         obtain ⟨b0, cd, ce, aG⟩ := adoptE V (fun k => 1) aZ
         refine ug z z (wY (Y.not z) z (wY (Y.pick (b := true) z z) z ?_))
         exact nl (At.join (σ := (Bool × Own)) ((!bZ), b0) ⟨some1 h, (su_ aG z)⟩ (.cons z (.cons z .nil)))
        ·refine WL.ren 39 z (congrArg vB aa) (WL.gS z z z z (WL.gS z z z z (WL.gS z z z z (WL.gS z z z z (wY (Y.pick (b := false) z z) z ?_)))))
         exact nl (At.join (σ := (Bool × Own)) (false, V) ⟨some1 h, (sr_ _ _ _)⟩ (.cons z (.cons z .nil)))
       ·rintro ⟨b1, K⟩ ab ⟨rfl, n⟩
        replace h := aX
        try dsimp only at h n
        refine (show WL _ _ _ _ _ [(1, pt q 0), (44, vB b1)] _ from ?_)
        refine wY (ya z) z (nl (th ?_))
        rcases cnd h with ⟨ac, h⟩ | ⟨ac, h⟩
        ·refine WC.condT' z ac (sq (rg (wY (ya z) z (nl (th (rt (At.inBlockR (At.thenR ?_))))))))
         obtain rfl := some1 h
         have a1 : Stp [] (Lg.O0 A) w K ab := (tr_ (su_ j z) (tr_ (su_ e z) (tr_ (su_ d z) (tr_ (su_ l z) (tr_ (su_ m z) (su_ n z))))))
         exact At.res (.inl z) z (.tmp z .nil) ⟨z, (se_ a1 z z)⟩
        ·refine WC.condF' z ac (sq (rg (wY (yf fo37_4 z) z ?_)))
         have M := L.st n z
         refine wY (yl ty4 z z (M.cell 4 _ z)) z (wY (ym z) z ?_)
         obtain ⟨b2, h, a2⟩ := bnd h
         refine WL.cut 9 (σ := (Bool × Own)) (fun x w' => x.1 = b2 ∧ Stp [] K ab x.2 w') (fun x => [(1, pt q 0), (57, vB x.1)]) ?_ ?_
         ·rcases cnd h with ⟨ad, h⟩ | ⟨ad, h⟩
          ·refine WL.ren 48 z (congrArg vB ad) (ug z z (wY (yf fo37_7 z) z (ug z z (wY (yl ty3 z z (M.cell 7 _ z)) z (ug z z (wY (Y.lss_i z z) z (ug z z (wY (ym z) z ?_))))))))
           obtain ⟨b3, h, a3⟩ := bnd h
           refine WL.cut 4 (σ := (Bool × Own)) (fun x w' => x.1 = b3 ∧ Stp [] K ab x.2 w') (fun x => [(1, pt q 0), (48, vB true), (56, vB x.1)]) ?_ ?_
           ·rcases cnd h with ⟨ae, h⟩ | ⟨ae, h⟩
            ·refine WL.ren 52 z (congrArg vB ae) (WL.gS z z z z (WL.gS z z z z (WL.gS z z z z (ug z z (wY (Y.pick (b := true) z z) z ?_)))))
             exact nl (At.join (σ := (Bool × Own)) (true, K) ⟨some1 h, (sr_ _ _ _)⟩ (.cons z (.cons z (.cons z .nil))))
            ·refine WL.ren 52 z (congrArg vB ae) (ug z z (wY (yf fo37_8 z) z (ug z z (wY (yl ty25 z z (M.cell 8 _ z)) z (ug z z ?_)))))
             obtain ⟨b4, a4, h⟩ := bnd h
             refine WL.call (vals := [vu a0.Re, vu 0]) kok41 z z (c_num_Less a4) ?_
             rintro cz cA ⟨rfl, a5⟩
             obtain ⟨b5, cf, cg, aH⟩ := adoptE K (fun k => 1) a5
             refine ug z z (wY (Y.pick (b := false) z z) z ?_)
             exact nl (At.join (σ := (Bool × Own)) (b4, b5) ⟨some1 h, (su_ aH z)⟩ (.cons z (.cons z (.cons z .nil))))
           ·rintro ⟨aI, b6⟩ cC ⟨rfl, aj⟩
            replace h := a3
            try dsimp only at h aj
            refine (show WL _ _ _ _ _ [(1, pt q 0), (48, vB true), (56, vB aI)] _ from ?_)
            refine wY (Y.pick (b := true) z z) z ?_
            exact nl (At.join (σ := (Bool × Own)) (aI, b6) ⟨some1 h, (su_ aj z)⟩ (.cons z (.cons z .nil)))
          ·refine WL.ren 48 z (congrArg vB ad) (WL.gS z z z z (WL.gS z z z z (WL.gS z z z z (WL.gS z z z z (WL.gS z z z z (WL.gS z z z z (WL.gS z z z z (WL.gS z z z z (wY (Y.pick (b := false) z z) z ?_)))))))))
           exact nl (At.join (σ := (Bool × Own)) (false, K) ⟨some1 h, (sr_ _ _ _)⟩ (.cons z (.cons z .nil)))
         ·rintro ⟨b7, au⟩ ay ⟨rfl, o⟩
          replace h := a2
          try dsimp only at h o
          refine (show WL _ _ _ _ _ [(1, pt q 0), (57, vB b7)] _ from ?_)
          refine wY (ya z) z (nl (th ?_))
          rcases cnd h with ⟨af, h⟩ | ⟨af, h⟩
          ·refine WC.condT' z af (sq (rg (wY (ya z) z (nl (th (rt (At.inBlockR (At.thenR ?_))))))))
           obtain rfl := some1 h
           have a6 : Stp [] (Lg.O0 A) w au ay := (tr_ (su_ j z) (tr_ (su_ e z) (tr_ (su_ d z) (tr_ (su_ l z) (tr_ (su_ m z) (tr_ (su_ n z) (su_ o z)))))))
           exact At.res (.inl z) z (.tmp z .nil) ⟨z, (se_ a6 z z)⟩
          ·refine WC.condF' z af (sq (rg (wY (yf fo37_2 z) z ?_)))
           have az := M.st o z
           refine wY (yl ty3 z z (az.cell 2 _ z)) z (wY (Y.eql_i z z) z ?_)
           obtain ⟨cO, a7, h⟩ := lt1 h
           refine WL.yE (ya z) (congrArg vB a7.symm) z (nl (th ?_))
           rcases cnd h with ⟨ah, h⟩ | ⟨ah, h⟩
           ·refine WC.condT' z ah (sq (rg (wY (yf fo37_10 z) z (wY (yL ty30 z z (az.cells 10 [vi a0.Hist.Scale, vu a0.Hist.Zero, vi a0.Hist.Pos.Offset, (Value.slice r t C), vi a0.Hist.Neg.Offset, (Value.slice D F G)] z) z) z ?_))))
            have a8 := aw.i m z z
            have a9 := a8.i n z z
            have ba := a9.i o z z
            have bb := ax.i m z z
            have bc := bb.i n z z
            have bd := bc.i o z z
            obtain ⟨cP, bf, h⟩ := bnd h
            refine WL.call (vals := [ag [vi a0.Hist.Scale, vu a0.Hist.Zero, vi a0.Hist.Pos.Offset, (Value.slice r t C), vi a0.Hist.Neg.Offset, (Value.slice D F G)]]) kok28 z z (c_hist_Check (A := fun _ => True) (a0 := a0.Hist) (Sl.all ba) (Sl.all bd) bf) ?_
            rintro cD bg ⟨rfl, bh⟩
            obtain ⟨b8, ch, ci, aJ⟩ := adoptE au (fun k => 1) bh
            refine wY (ya z) z (nl (th (rt (At.inBlockR (At.thenR ?_)))))
            obtain rfl := some1 h
            have bi : Stp [] (Lg.O0 A) w b8 bg := (tr_ (su_ j z) (tr_ (su_ e z) (tr_ (su_ d z) (tr_ (su_ l z) (tr_ (su_ m z) (tr_ (su_ n z) (tr_ (su_ o z) (su_ aJ z))))))))
            exact At.res (.inl z) z (.tmp z .nil) ⟨z, (se_ bi z z)⟩
           ·refine WC.condF' z ah (sk (At.inBlock (th (sq (rg (wY (ya z) z (nl (th (rt ?_)))))))))
            obtain rfl := some1 h
            have bj : Stp [] (Lg.O0 A) w au ay := (tr_ (su_ j z) (tr_ (su_ e z) (tr_ (su_ d z) (tr_ (su_ l z) (tr_ (su_ m z) (tr_ (su_ n z) (su_ o z)))))))
            exact At.res (.inl z) z (.tmp z .nil) ⟨z, (se_ bj z z)⟩
theorem c_hist_span {A : Nat → Prop} {v0_1 : Value} {a0 : api_Side} {a1 : UInt64} {w : World} (hs0_1 : Sl Rep.u w A v0_1 a0.Counts) {r0 : Int} (h : hist_span a0 a1 = some r0) : Rets Try.prog 73 [ag [vi a0.Offset, v0_1], vu a1] w (fun v w' => v = vi r0 ∧ Ext w w') := by
 unfold hist_span at h
 refine Rets.enter Try.func73 z z ?_
 have l : Sl Rep.u w (imm (Lg.O0 A)) v0_1 a0.Counts := (Sl.start hs0_1)
 refine (show WC _ _ _ _ [(0, ag [vi a0.Offset, v0_1]), (1, vu a1)] _ from ?_)
 refine sq (rg ?_)
 have p := h
 obtain ⟨D, F, G, rfl⟩ := l.shape
 have h := p
 refine WL.box (O := (Lg.O0 A)) 11 [vi a0.Offset, (Value.slice D F G)] z z z ?_
 intro I o m d e
 refine wY (ya z) z (nl (th (sq (rg (wY (yf fo28_1 z) z (wY (yl ty26 z z (e.cell 1 _ z)) z ?_))))))
 have q := l.i d z z
 refine wY (Y.len ty26 z q) z ?_
 obtain ⟨H, n, h⟩ := lt1 h
 refine WL.yE (ya z) (congrArg vi n.symm) z (nl (th (sq (sq (rg (wY (ym z) z (wY (Y.eql_i z z) z (nl (th ?_)))))))))
 rcases cnd h with ⟨j, h⟩ | ⟨j, h⟩
 ·refine WC.condT' z j (sq (rg (wY (ya z) z (nl (th (rt (At.thenR ?_)))))))
  obtain rfl := some1 h
  have r : Stp [] (Lg.O0 A) w o m := (su_ d z)
  exact At.res (.inl z) z (.tmp z .nil) ⟨z, (se_ r z z)⟩
 ·refine WC.condF' z j (sk (th (sq (rg (wY (yf fo28_0 z) z (wY (yl ty3 z z (e.cell 0 _ z)) z (wY (ym z) z (wY (Y.add_i z z) z (wY (Y.sub_i z z) z ?_)))))))))
  refine wY (ym z) z (wY (Y.shr_iu z z) z (wY (yf fo28_0 z) z (wY (yl ty3 z z (e.cell 0 _ z)) z (wY (ym z) z (wY (Y.shr_iu z z) z (wY (Y.sub_i z z) z (wY (Y.add_i z z) z ?_)))))))
  obtain ⟨J, t, h⟩ := lt1 h
  refine WL.yE (ya z) (congrArg vi t.symm) z (nl (th (rt ?_)))
  obtain rfl := some1 h
  have C : Stp [] (Lg.O0 A) w o m := (su_ d z)
  exact At.res (.inl z) z (.tmp z .nil) ⟨z, (se_ C z z)⟩
theorem c_hist_down {A : Nat → Prop} {v0_1 : Value} {a0 : api_Side} {a1 : UInt64} {w : World} (hs0_1 : Sl Rep.u w A v0_1 a0.Counts) {r0 : api_Side} (h : hist_down a0 a1 = some r0) : Rets Try.prog 60 [ag [vi a0.Offset, v0_1], vu a1] w (fun v w' => ∃ (aM : Value), v = ag [vi r0.Offset, aM] ∧ Ext w w' ∧ Sl Rep.u w' (fun k => w.heap.size ≤ k) aM r0.Counts) := by
 unfold hist_down at h
 refine Rets.enter Try.func60 z z ?_
 have aN : Sl Rep.u w (imm (Lg.O0 A)) v0_1 a0.Counts := (Sl.start hs0_1)
 refine (show WC _ _ _ _ [(0, ag [vi a0.Offset, v0_1]), (1, vu a1)] _ from ?_)
 refine sq (rg ?_)
 have ct := h
 obtain ⟨T, U, V, rfl⟩ := aN.shape
 have h := ct
 refine WL.box (O := (Lg.O0 A)) 11 [vi a0.Offset, (Value.slice T U V)] z z z ?_
 intro W db dG Z cu
 refine WL.alloc (O := db) 12 [vi 0, Value.slice none 0 0] ty28 z z ?_
 intro r ai dH t aO
 refine nl (th (sq (sq (rg (wY (yf fo28_1 z) z ?_)))))
 have aa := cu.st t z
 refine wY (yl ty26 z z (aa.cell 1 _ z)) z ?_
 have cw := aN.i Z z z
 have ab := cw.i t z z
 refine wY (Y.len ty26 z ab) z (wY (Y.eql_i z z) z (nl (th ?_)))
 rcases cnd h with ⟨an, h⟩ | ⟨an, h⟩
 ·refine WC.condT' z an (sq (rg (wY (yb (vals := []) (cells := [vi 0, Value.slice none 0 0]) (fe_ z) (by kernel_rfl)) z (WL.store (v := ag [vi 0, Value.slice none 0 0]) (cells' := [vi 0, Value.slice none 0 0]) ty28 z z aO z (le_ z) z z ?_))))
  intro cx bf cy
  refine nl (th (rt (At.thenR ?_)))
  obtain rfl := some1 h
  have cz : Stp [12] (Lg.O0 A) w ai cx := (tr_ (su_ Z z) (tr_ (su_ t z) (su_ bf z)))
  exact At.res (.inl z) z (.cell z (cy.runAg 0 [vi 0, Value.slice none 0 0] ty28 z z z) .nil) ⟨Value.slice none 0 0, z, (se_ cz z z), (Or.inl ⟨z, z⟩)⟩
 ·refine WC.condF' z an (sk (th (sq (WC.drawH [13, 14, 15, 16, 17, 18, 1001, 1002] [0, 1, 2, 3, 4, 5, 6, 7, 8, 9] ai 11 fmix z (by kernel_rfl) ?_))))
  intro cA d
  refine WD.y 0 z (by kernel_rfl) (fun _ _ _ => yf fo28_0 z) z (WD.y 1 z (by kernel_rfl) (fun dI d5 bg => have cC := aa.st d z; have cD := cC.st bg z; yl ty3 z z (cD.cell 0 _ z)) z (WD.y 2 z (by kernel_rfl) (fun _ _ _ => ym z) z (WD.y 3 z (by kernel_rfl) (fun _ _ _ => Y.shr_iu z z) z (WD.y 4 z (by kernel_rfl) (fun dJ d6 bh => have cE := aa.st d z; have cF := cE.st bh z; yL ty28 z z (cF.cells 0 [vi a0.Offset, (Value.slice T U V)] z) z) z (WD.y 5 z (by kernel_rfl) (fun _ _ _ => ym z) z ?_)))))
  obtain ⟨dc, h, cG⟩ := bnd h
  refine WD.join (σ := (List UInt64 × Own × Nat × Value)) (f' := 1) [9, 8, 7, 6, 5, 4, 3, 2, 1, 0] (fun x O' w' => x.1 = dc ∧ Stp [13, 14, 15, 16, 17, 18, 1001, 1002] ai cA x.2.1 w' ∧ Blk 1003 x.2.1 w' x.2.2.1 28 [vi 0, Value.slice none 0 0] ∧ OwnSl 1004 Rep.u 25 x.2.1 w' x.2.2.2 x.1 ∧ x.2.1 = O') (fun x => [(1, vu a1), (2, pt W 0), (4, pt r 0), (5, Value.pointer (some ⟨x.2.2.1, 0, none⟩)), (21, ag [vi (shrI a0.Offset a1.toNat), x.2.2.2])]) (fun aP => ?_) ?_
  ·refine WD.heavy2 6 9 z z (by kernel_rfl) ?_ ?_
   ·have cH := ab.i d z z
    obtain ⟨d7, cI, h⟩ := bnd h
    refine WL.call (vals := [ag [vi a0.Offset, (Value.slice T U V)], vu a1]) kok73 z z (c_hist_span (A := fun _ => True) (a0 := a0) (Sl.all cH) cI) ?_
    rintro dK cJ ⟨rfl, cK⟩
    obtain ⟨aQ, dd, de, ax⟩ := adoptE ai (fun k => 1) cK
    refine nl (At.dq (su_ ax z) ?_)
    obtain ⟨df, h, cL⟩ := bnd h
    refine WD.join (σ := (List UInt64 × Own × Nat × Value)) (f' := 1) [9, 8, 7, 6, 5, 4, 3, 2, 1, 0] (fun x O' w' => x.1 = df ∧ Stp [13, 14, 15, 16] aQ cJ x.2.1 w' ∧ Blk 1001 x.2.1 w' x.2.2.1 28 [vi 0, Value.slice none 0 0] ∧ OwnSl 1002 Rep.u 25 x.2.1 w' x.2.2.2 x.1 ∧ x.2.1 = O') (fun x => [(1, vu a1), (2, pt W 0), (4, pt r 0), (5, Value.pointer (some ⟨x.2.2.1, 0, none⟩)), (21, ag [vi (shrI a0.Offset a1.toNat), x.2.2.2])]) (fun aR => ?_) ?_
    ·refine WD.heavy2 7 9 z z (by kernel_rfl) ?_ ?_
     ·obtain ⟨dg, cM, h⟩ := bnd h
      refine WL.make (O := aQ) (R := Rep.u) (zx := (0 : UInt64)) 13 (by decide) ty26 ty25 z (by decide) (by decide) z z (fun _ _ => z) cM z ?_
      intro d8 dh dL ay aS
      refine nl (At.dq (su_ ay z) ?_)
      have cN := h
      obtain ⟨aT, aU, aW, rfl⟩ := aS.shape
      have h := cN
      refine WD.y 8 z (by kernel_rfl) (fun _ _ _ => yb (vals := [(0, vi (shrI a0.Offset a1.toNat)), (1, (Value.slice aT aU aW))]) (cells := [vi (shrI a0.Offset a1.toNat), (Value.slice aT aU aW)]) (fe_ z) (by kernel_rfl)) z (WD.heavy 9 z (by kernel_rfl) (WL.alloc (O := dh) 14 [vi 0, Value.slice none 0 0] ty28 z z ?_))
      intro cO dM ds C bi
      refine nl (At.dq (su_ C z) ?_)
      obtain ⟨dN, D, bj⟩ := Blk.rlb 1001 rfl bi
      have bk := aS.st C z z z
      have bl := bk.st D z z z
      obtain ⟨cP, F, bm⟩ := OwnSl.rlb 1002 rfl bl
      have bn := bj.st F z
      refine WD.own (tr_ (su_ D z) (su_ F z)) (WD.perm _ [9, 8, 7, 6, 5, 4, 3, 2, 1, 0] (by kernel_rfl) ?_)
      exact aR (dg, cP, cO, (Value.slice aT aU aW)) _ _ _ ⟨some1 h, (tr_ (su_ ay z) (tr_ (su_ C z) (tr_ (su_ D z) (su_ F z)))), bn, bm, z⟩ (.cons z (.cons z (.cons z (.cons z (.cons z .nil)))))
     ·try simp only [Option.bind_assoc] at h
      try simp only [Option.bind_some] at h
      refine WL.alloc (O := aQ) 15 [vi 0, Value.slice none 0 0] ty28 z z ?_
      intro cQ cR dt aj bo
      refine nl (At.dq (su_ aj z) (WD.heavy 7 z (by kernel_rfl) ?_))
      obtain ⟨cS, bp, h⟩ := bnd h
      refine WL.make (O := cR) (R := Rep.u) (zx := (0 : UInt64)) 16 (by decide) ty26 ty25 z (by decide) (by decide) z z (fun _ _ => z) bp z ?_
      intro dO dP du G az
      refine nl (At.dq (su_ G z) ?_)
      have bq := h
      obtain ⟨ao, ap, aq, rfl⟩ := az.shape
      have h := bq
      refine WD.y 8 z (by kernel_rfl) (fun _ _ _ => yb (vals := [(0, vi (shrI a0.Offset a1.toNat)), (1, (Value.slice ao ap aq))]) (cells := [vi (shrI a0.Offset a1.toNat), (Value.slice ao ap aq)]) (fe_ z) (by kernel_rfl)) z ?_
      have br := bo.st G z
      obtain ⟨dQ, H, bs⟩ := Blk.rlb 1001 rfl br
      have bt := az.st H z z z
      obtain ⟨cT, I, bu⟩ := OwnSl.rlb 1002 rfl bt
      have bw := bs.st I z
      refine WD.own (tr_ (su_ H z) (su_ I z)) (WD.perm _ [9, 8, 7, 6, 5, 4, 3, 2, 1, 0] (by kernel_rfl) ?_)
      exact aR (cS, cT, cQ, (Value.slice ao ap aq)) _ _ _ ⟨some1 h, (tr_ (su_ aj z) (tr_ (su_ G z) (tr_ (su_ H z) (su_ I z)))), bw, bu, z⟩ (.cons z (.cons z (.cons z (.cons z (.cons z .nil)))))
    ·rintro ⟨di, d9, cq, cr⟩ _ dR ⟨rfl, aA, aX, aY, rfl⟩
     replace h := cL
     try dsimp only at h aA aX aY
     refine (show WD _ _ _ _ _ _ _ _ [(1, vu a1), (2, pt W 0), (4, pt r 0), (5, pt cq 0), (21, ag [vi (shrI a0.Offset a1.toNat), cr])] _ _ from ?_)
     obtain ⟨dS, J, bx⟩ := Blk.rlb 1003 rfl aX
     have bz := aY.st J z z z
     obtain ⟨cU, K, bA⟩ := OwnSl.rlb 1004 rfl bz
     have bB := bx.st K z
     refine WD.own (tr_ (su_ J z) (su_ K z)) (WD.perm _ [9, 8, 7, 6, 5, 4, 3, 2, 1, 0] (by kernel_rfl) ?_)
     exact aP (di, cU, cq, cr) _ _ _ ⟨some1 h, (tr_ (su_ ax z) (tr_ (su_ aA z) (tr_ (su_ J z) (su_ K z)))), bB, bA, z⟩ (.cons z (.cons z (.cons z (.cons z (.cons z .nil)))))
   ·try simp only [Option.bind_assoc] at h
    try simp only [Option.bind_some] at h
    refine WL.alloc (O := ai) 17 [vi 0, Value.slice none 0 0] ty28 z z ?_
    intro cV cW dw L bC
    refine nl (At.dq (su_ L z) (WD.heavy 6 z (by kernel_rfl) ?_))
    have bD := ab.i d z z
    have bE := bD.i L z z
    obtain ⟨dT, bF, h⟩ := bnd h
    refine WL.call (vals := [ag [vi a0.Offset, (Value.slice T U V)], vu a1]) kok73 z z (c_hist_span (A := fun _ => True) (a0 := a0) (Sl.all bE) bF) ?_
    rintro dx dy ⟨rfl, bG⟩
    obtain ⟨cX, c9, da, M⟩ := adoptE cW (fun k => 1) bG
    refine nl (At.dq (su_ M z) (WD.heavy 7 z (by kernel_rfl) ?_))
    obtain ⟨cY, bH, h⟩ := bnd h
    refine WL.make (O := cX) (R := Rep.u) (zx := (0 : UInt64)) 18 (by decide) ty26 ty25 z (by decide) (by decide) z z (fun _ _ => z) bH z ?_
    intro dU dV dz P aC
    refine nl (At.dq (su_ P z) ?_)
    have bI := h
    obtain ⟨ar, au, av, rfl⟩ := aC.shape
    have h := bI
    refine WD.y 8 z (by kernel_rfl) (fun _ _ _ => yb (vals := [(0, vi (shrI a0.Offset a1.toNat)), (1, (Value.slice ar au av))]) (cells := [vi (shrI a0.Offset a1.toNat), (Value.slice ar au av)]) (fe_ z) (by kernel_rfl)) z ?_
    have bJ := bC.st M z
    have bK := bJ.st P z
    obtain ⟨dW, Q, bL⟩ := Blk.rlb 1003 rfl bK
    have bM := aC.st Q z z z
    obtain ⟨cZ, S, bO⟩ := OwnSl.rlb 1004 rfl bM
    have bP := bL.st S z
    refine WD.own (tr_ (su_ Q z) (su_ S z)) (WD.perm _ [9, 8, 7, 6, 5, 4, 3, 2, 1, 0] (by kernel_rfl) ?_)
    exact aP (cY, cZ, cV, (Value.slice ar au av)) _ _ _ ⟨some1 h, (tr_ (su_ L z) (tr_ (su_ M z) (tr_ (su_ P z) (tr_ (su_ Q z) (su_ S z))))), bP, bO, z⟩ (.cons z (.cons z (.cons z (.cons z (.cons z .nil)))))
  ·rintro ⟨dj, cs, ak, dk⟩ _ dX ⟨rfl, p, aZ, aw, rfl⟩
   replace h := cG
   try dsimp only at h p aZ aw
   refine (show WD _ _ _ _ _ _ _ _ [(1, vu a1), (2, pt W 0), (4, pt r 0), (5, pt ak 0), (21, ag [vi (shrI a0.Offset a1.toNat), dk])] _ _ from ?_)
   refine WD.phase [1003] [0, 1, 2, 3, 4, 5, 6, 7, 8, 9, 10] (by kernel_rfl) (by kernel_rfl) (WD.heavy 10 z (by kernel_rfl) ?_)
   have bQ := h
   obtain ⟨l, m, n, rfl⟩ := aw.shape
   have h := bQ
   refine WL.store (v := ag [vi (shrI a0.Offset a1.toNat), (Value.slice l m n)]) (cells' := [vi (shrI a0.Offset a1.toNat), (Value.slice l m n)]) ty28 z z aZ z (le_ z) z z ?_
   intro aD e aE
   refine nl (At.dq (su_ e z) (WD.done_ (by kernel_rfl) (th (sq (sq (rg (wY (yf fo28_1 z) z ?_)))))))
   have bR := aa.st d z
   have bS := bR.st p z
   have aF := bS.st e z
   refine wY (yl ty26 z z (aF.cell 1 _ z)) z ?_
   have bT := ab.i d z z
   have bU := bT.i p z z
   have aG := bU.i e z z
   refine wY (Y.len ty26 z aG) z (wY (ym z) z (nl (th (WC.block ?_))))
   obtain ⟨a2, h, bW⟩ := flow1 h
   obtain ⟨a3, h⟩ := loop_some h
   refine WC.joinB 0 (σ := (List UInt64 × Own)) (fun x w' => a2 = .go x.1 ∧ Stp [1004, 1005] cs aD x.2 w' ∧ OwnSl 1006 Rep.u 25 x.2 w' (Value.slice l m n) x.1) (fun x => [(4, pt r 0), (5, pt ak 0)]) ?_ ?_
   ·have bX := aw.st e z z z
    obtain ⟨c0, a4, bY⟩ := OwnSl.rlb 1005 rfl bX
    refine WC.loop (σ := (List UInt64 × Int × Own)) (fun x k w' => loopN k (hist_down_lp1 a0 a1) (x.1, x.2.1) = some a2 ∧ Stp [1004, 1005] cs aD x.2.2 w' ∧ OwnSl 1005 Rep.u 25 x.2.2 w' (Value.slice l m n) x.1) (fun x => [(1, vu a1), (2, pt W 0), (4, pt r 0), (5, pt ak 0), (23, (Value.slice T U V)), (24, vi (a0.Counts.length : Int)), (25, vi x.2.1)]) (dj, 0, c0) a3 (.cons z (.cons z (.cons z (.cons z (.cons z (.cons z (.cons z .nil))))))) ⟨h, (su_ a4 z), bY⟩ ?_
    rintro ⟨c1, a5, c2⟩ a3 dA ⟨h, j, o⟩
    obtain ⟨c3, dY, rfl, h, aH⟩ := rnd1 h
    unfold hist_down_lp1 at h
    try dsimp only at h j o
    refine (show WC _ _ _ _ [(1, vu a1), (2, pt W 0), (4, pt r 0), (5, pt ak 0), (23, (Value.slice T U V)), (24, vi (a0.Counts.length : Int)), (25, vi a5)] _ from ?_)
    refine sq (rg (wY (Y.lss_i z z) z (nl (th (sq ?_)))))
    rcases cnd h with ⟨ac, h⟩ | ⟨ac, h⟩
    ·refine WC.condT' z ac (sk (th (sq (WC.block (sq (rg (wY (ym z) z ?_)))))))
     obtain ⟨c4, bZ, h⟩ := bnd h
     have b0 := aG.i j z z
     obtain ⟨dZ, dl, dm, dB, b1, b2, b3, ad, a6, b4⟩ := Sl.at2 b0 bZ
     obtain rfl := a6
     replace ad : CellsAt _ _ _ [vu c4] := ad
     have a7 := CAt.imm ad b4
     refine wY (Y.indexAddr ty26 ty25 z b1 z b2 b3) z (wY (yl ty25 z z a7.at_) z (wY (ya z) z (wY (ya z) z (nl (th (rg (wY (yf fo28_1 z) z ?_)))))))
     have aI := aE.st j z
     refine wY (yl ty26 z z (aI.cell 1 _ z)) z (wY (yf fo28_0 z) z ?_)
     have b5 := aF.st j z
     refine wY (yl ty3 z z (b5.cell 0 _ z)) z (wY (ym z) z (wY (Y.add_i z z) z (wY (ym z) z (wY (Y.shr_iu z z) z (wY (yf fo28_0 z) z (wY (yl ty3 z z (aI.cell 0 _ z)) z (wY (Y.sub_i z z) z ?_)))))))
     obtain ⟨c5, b6, h⟩ := bnd h
     obtain ⟨d0, dn, dC, aJ, b7, b8, ae, a8⟩ := OwnSl.at o b6
     obtain rfl := a8
     replace ae : CellsAt _ _ _ [vu c5] := ae
     have a9 := CAt.own o aJ ae
     refine wY (Y.indexAddr ty26 ty25 z aJ z b7 b8) z (wY (yl ty25 z z a9.at_) z (wY (ym z) z (wY (Y.add_u z z) z ?_)))
     obtain ⟨c6, b9, h⟩ := bnd h
     obtain ⟨d1, dp, dD, af, ca, cb, ah, ba⟩ := OwnSl.at o b9
     obtain rfl := ba
     replace ah : CellsAt _ _ _ [vu c6] := ah
     have dr := CAt.own o af ah
     refine wY (Y.indexAddr ty26 ty25 z af z ca cb) z ?_
     obtain ⟨d2, cc, h⟩ := lt1 h
     refine WL.ren 44 z (congrArg vu cc.symm) ?_
     obtain ⟨cd, bb, h⟩ := bnd h
     refine WL.storeOwn (by decide) ty25 z z z o af bb ?_
     intro dE bc ce
     refine nl (At.inBlock (th (rg (wY (Y.add_i z z) z (wY (ym z) z (nl ?_))))))
     exact At.round (cd, w64 (a5 + 1), c2) c3 (Nat.lt_succ_self _) ⟨next1 h aH, (tr_ (su_ j z) (su_ bc z)), ce⟩ (.cons z (.cons z (.cons z (.cons z (.cons z (.cons z (.cons z .nil)))))))
    ·refine WC.condF' z ac (WC.exit (At.thenX (At.loopX ?_)))
     obtain ⟨c7, bd, cf⟩ := OwnSl.rlb 1006 rfl o
     exact At.hitB (σ := (List UInt64 × Own)) (c1, c7) ⟨brk1 h aH, (tr_ (su_ j z) (su_ bd z)), cf⟩ (.cons z (.cons z .nil))
   ·rintro ⟨d3, d4⟩ dF ⟨rfl, q, aK⟩
    replace h := flowK_go bW
    try dsimp only at h q aK
    refine (show At _ _ _ [(4, pt r 0), (5, pt ak 0)] _ from ?_)
    refine At.inBlockHit (th (sq (rg ?_)))
    have cg := aE.st q z
    refine wY (yL ty28 z z (cg.cells 0 [vi (shrI a0.Offset a1.toNat), (Value.slice l m n)] z) z) z ?_
    have ch := aO.st d z
    have ci := ch.st p z
    have cj := ci.st e z
    have ck := cj.st q z
    refine WL.store (v := ag [vi (shrI a0.Offset a1.toNat), (Value.slice l m n)]) (cells' := [vi (shrI a0.Offset a1.toNat), (Value.slice l m n)]) ty28 z z ck z (le_ z) z z ?_
    intro cl al cm
    refine nl (th (rt ?_))
    obtain rfl := some1 h
    have cn := aK.st al z z z
    obtain ⟨c8, am, co⟩ := OwnSl.giveF rfl Flat.u cn
    have aL : Stp [12, 13, 14, 15, 16, 17, 18, 1001, 1002, 1003, 1004, 1005, 1006] (Lg.O0 A) w c8 cl := (tr_ (su_ Z z) (tr_ (su_ t z) (tr_ (su_ d z) (tr_ (su_ p z) (tr_ (su_ e z) (tr_ (su_ q z) (tr_ (su_ al z) (su_ am z))))))))
    have cp := cm.st am z
    exact At.res (.inl z) z (.cell z (cp.runAg 0 [vi (shrI a0.Offset a1.toNat), (Value.slice l m n)] ty28 z z z) .nil) ⟨(Value.slice l m n), z, (se_ aL z z), (Sl.outF co aL low0)⟩
theorem c_hist_Down {A : Nat → Prop} {v0_3 : Value} {v0_5 : Value} {a0 : api_Hist} {a1 : Int} {w : World} (hs0_3 : Sl Rep.u w A v0_3 a0.Pos.Counts) (hs0_5 : Sl Rep.u w A v0_5 a0.Neg.Counts) {r0 : api_Hist} {r1 : Int} (h : hist_Down a0 a1 = some (r0, r1)) : Rets Try.prog 31 [ag [vi a0.Scale, vu a0.Zero, vi a0.Pos.Offset, v0_3, vi a0.Neg.Offset, v0_5], vi a1] w (fun v w' => ∃ (ad : Value) (ae : Value), v = Value.tuple (List.toArray [ag [vi r0.Scale, vu r0.Zero, vi r0.Pos.Offset, ad, vi r0.Neg.Offset, ae], vi r1]) ∧ Ext w w' ∧ Sl Rep.u w' (fun k => w.heap.size ≤ k) ad r0.Pos.Counts ∧ Sl Rep.u w' (fun k => w.heap.size ≤ k) ae r0.Neg.Counts) := by
 unfold hist_Down at h
 refine Rets.enter Try.func31 z z ?_
 have af : Sl Rep.u w (imm (Lg.O0 A)) v0_3 a0.Pos.Counts := (Sl.start hs0_3)
 have ah : Sl Rep.u w (imm (Lg.O0 A)) v0_5 a0.Neg.Counts := (Sl.start hs0_5)
 refine (show WC _ _ _ _ [(0, ag [vi a0.Scale, vu a0.Zero, vi a0.Pos.Offset, v0_3, vi a0.Neg.Offset, v0_5]), (1, vi a1)] _ from ?_)
 refine sq (rg ?_)
 have aX := h
 obtain ⟨J, K, L, rfl⟩ := af.shape
 have h := aX
 have aY := h
 obtain ⟨M, P, Q, rfl⟩ := ah.shape
 have h := aY
 refine WL.box (O := (Lg.O0 A)) 11 [vi a0.Scale, vu a0.Zero, vi a0.Pos.Offset, (Value.slice J K L), vi a0.Neg.Offset, (Value.slice M P Q)] z z z ?_
 intro aU bx bF l aZ
 refine WL.alloc (O := bx) 12 [vi 0, vu 0, vi 0, Value.slice none 0 0, vi 0, Value.slice none 0 0] ty30 z z ?_
 intro aW bz bG j S
 refine wY (ya z) z (nl (th (sq (sq (rg ?_)))))
 have p := aZ.st j z
 refine wY (yL ty30 z z (p.cells 0 [vi a0.Scale, vu a0.Zero, vi a0.Pos.Offset, (Value.slice J K L), vi a0.Neg.Offset, (Value.slice M P Q)] z) z) z ?_
 have a2 := af.i l z z
 have ai := a2.i j z z
 have a3 := ah.i l z z
 have aj := a3.i j z z
 obtain ⟨bO, a4, h⟩ := bnd h
 refine WL.call (vals := [ag [vi a0.Scale, vu a0.Zero, vi a0.Pos.Offset, (Value.slice J K L), vi a0.Neg.Offset, (Value.slice M P Q)]]) kok28 z z (c_hist_Check (A := fun _ => True) (a0 := a0) (Sl.all ai) (Sl.all aj) a4) ?_
 rintro bH a5 ⟨rfl, a6⟩
 obtain ⟨W, bA, bB, d⟩ := adoptE bz (fun k => 1) a6
 refine wY (ya z) z (nl (th (sq (rg (wY (ym z) z (wY (Y.neq_i z z) z (nl (th ?_))))))))
 rcases cnd h with ⟨T, h⟩ | ⟨T, h⟩
 ·refine WC.condT' z T (sq (rg (wY (yb (vals := []) (cells := [vi 0, vu 0, vi 0, Value.slice none 0 0, vi 0, Value.slice none 0 0]) (fe_ z) (by kernel_rfl)) z (wY (ym z) z ?_))))
  have a7 := S.st d z
  refine WL.store (v := ag [vi 0, vu 0, vi 0, Value.slice none 0 0, vi 0, Value.slice none 0 0]) (cells' := [vi 0, vu 0, vi 0, Value.slice none 0 0, vi 0, Value.slice none 0 0]) ty30 z z a7 z (le_ z) z z ?_
  intro a8 an a9
  refine wY (ya z) z (nl (th (rt (At.thenR ?_))))
  obtain ⟨rfl, rfl⟩ := tup2 h
  have ba : Stp [12] (Lg.O0 A) w W a8 := (tr_ (su_ l z) (tr_ (su_ j z) (tr_ (su_ d z) (su_ an z))))
  exact At.res (.inl z) z (.cell z (a9.runAg 0 [vi 0, vu 0, vi 0, Value.slice none 0 0, vi 0, Value.slice none 0 0] ty30 z z z) (.tmp z .nil)) ⟨Value.slice none 0 0, Value.slice none 0 0, z, (se_ ba z z), (Or.inl ⟨z, z⟩), (Or.inl ⟨z, z⟩)⟩
 ·refine WC.condF' z T (sk (th (sq (sq (rg (wY (ym z) z (wY (Y.lss_i z z) z (wY (ym z) z ?_))))))))
  refine WL.cut 6 (σ := Unit) (fun _ w' => a5 = w') (fun _ => [(1, vi a1), (2, pt aU 0), (4, pt aW 0), (21, vB ((decide (a1 < 0)) || (decide (w64 (a0.Scale - (-10)) < a1))))]) ?_ ?_
  ·refine WL.part 15 z (fun U => ?_) (fun U => ?_)
   ·refine WL.gS z z z z (WL.gS z z z z (WL.gS z z z z (WL.gS z z z z (WL.gS z z z z (wY (Y.pick (b := true) z z) z (WL.ren (v' := vB ((decide (a1 < 0)) || (decide (w64 (a0.Scale - (-10)) < a1)))) 21 z (congrArg vB (orT U)) ?_))))))
    exact nl (At.join () z (.cons z (.cons z (.cons z (.cons z .nil)))))
   ·refine ug z z (wY (ym z) z (ug z z (wY (yf fo30_0 z) z (ug z z ?_))))
    have bb := p.st d z
    refine wY (yl ty3 z z (bb.cell 0 _ z)) z (ug z z (wY (Y.sub_i z z) z (ug z z (wY (Y.gtr_i z z) z (wY (Y.pick (b := false) z z) z (WL.ren (v' := vB ((decide (a1 < 0)) || (decide (w64 (a0.Scale - (-10)) < a1)))) 21 z (congrArg vB (orF U)) ?_))))))
    exact nl (At.join () z (.cons z (.cons z (.cons z (.cons z .nil)))))
  ·rintro _ _ rfl
   refine (show WL _ _ _ _ _ [(1, vi a1), (2, pt aU 0), (4, pt aW 0), (21, vB ((decide (a1 < 0)) || (decide (w64 (a0.Scale - (-10)) < a1))))] _ from ?_)
   refine nl (th ?_)
   rcases cnd h with ⟨V, h⟩ | ⟨V, h⟩
   ·refine WC.condT' z V (sq (rg (wY (yb (vals := []) (cells := [vi 0, vu 0, vi 0, Value.slice none 0 0, vi 0, Value.slice none 0 0]) (fe_ z) (by kernel_rfl)) z ?_)))
    have bc := S.st d z
    refine WL.store (v := ag [vi 0, vu 0, vi 0, Value.slice none 0 0, vi 0, Value.slice none 0 0]) (cells' := [vi 0, vu 0, vi 0, Value.slice none 0 0, vi 0, Value.slice none 0 0]) ty30 z z bc z (le_ z) z z ?_
    intro bd ao bf
    refine wY (ya z) z (nl (th (rt (At.thenR ?_))))
    obtain ⟨rfl, rfl⟩ := tup2 h
    have bg : Stp [12] (Lg.O0 A) w W bd := (tr_ (su_ l z) (tr_ (su_ j z) (tr_ (su_ d z) (su_ ao z))))
    exact At.res (.inl z) z (.cell z (bf.runAg 0 [vi 0, vu 0, vi 0, Value.slice none 0 0, vi 0, Value.slice none 0 0] ty30 z z z) (.tmp z .nil)) ⟨Value.slice none 0 0, Value.slice none 0 0, z, (se_ bg z z), (Or.inl ⟨z, z⟩), (Or.inl ⟨z, z⟩)⟩
   ·refine WC.condF' z V (sk (th (sq (WC.drawH [] [0, 1, 2, 3, 4, 5, 6, 7, 8, 9, 10, 11, 12, 13, 14, 15, 16] W 19 fmix z (by kernel_rfl) ?_))))
    intro bI e
    refine WD.y 0 z (by kernel_rfl) (fun _ _ _ => yf fo30_0 z) z (WD.y 1 z (by kernel_rfl) (fun bJ bP ap => have bh := p.st d z; have bi := bh.st e z; have bj := bi.st ap z; yl ty3 z z (bj.cell 0 _ z)) z (WD.y 2 z (by kernel_rfl) (fun _ _ _ => ym z) z (WD.y 3 z (by kernel_rfl) (fun _ _ _ => Y.sub_i z z) z (WD.y 4 z (by kernel_rfl) (fun _ _ _ => yf fo30_1 z) z (WD.y 5 z (by kernel_rfl) (fun bK bQ aq => have bk := p.st d z; have bl := bk.st e z; have bm := bl.st aq z; yl ty25 z z (bm.cell 1 _ z)) z (WD.y 6 z (by kernel_rfl) (fun _ _ _ => yf fo30_2 z) z (WD.y 7 z (by kernel_rfl) (fun bL bR ar => have bn := p.st d z; have bo := bn.st e z; have bp := bo.st ar z; yL ty28 z z (bp.cells 2 [vi a0.Pos.Offset, (Value.slice J K L)] z) z) z (WD.y 8 z (by kernel_rfl) (fun _ _ _ => ym z) z (WD.y 9 z (by kernel_rfl) (fun _ _ _ => Y.conv_iu ty3.u ty92.u z) z ?_)))))))))
    refine WD.y 11 z (by kernel_rfl) (fun _ _ _ => yf fo30_3 z) z (WD.y 12 z (by kernel_rfl) (fun bC bM ak => have au := p.st d z; have av := au.st e z; have aw := av.st ak z; yL ty28 z z (aw.cells 4 [vi a0.Neg.Offset, (Value.slice M P Q)] z) z) z (WD.y 13 z (by kernel_rfl) (fun _ _ _ => ym z) z (WD.y 14 z (by kernel_rfl) (fun _ _ _ => Y.conv_iu ty3.u ty92.u z) z (WD.heavy 10 z (by kernel_rfl) ?_))))
    have ax := ai.i d z z
    have ay := ax.i e z z
    obtain ⟨q, az, h⟩ := bnd h
    refine WL.call (vals := [ag [vi a0.Pos.Offset, (Value.slice J K L)], vu (toU64 a1)]) kok60 z z (c_hist_down (A := fun _ => True) (a0 := a0.Pos) (Sl.all ay) az) ?_
    rintro bD aA ⟨bq, rfl, aC, br⟩
    obtain ⟨al, bu, ab, m⟩ := adoptE W (fun k => 1) aC
    have aD : Sl Rep.u aA (frs al) bq q.Counts := Sl.adoptF br (fun k hk => ⟨hk, z⟩) ab
    refine nl (At.dq (su_ m z) (WD.heavy 15 z (by kernel_rfl) ?_))
    have aE := aj.i d z z
    have aF := aE.i e z z
    have aG := aF.i m z z
    obtain ⟨r, aH, h⟩ := bnd h
    refine WL.call (vals := [ag [vi a0.Neg.Offset, (Value.slice M P Q)], vu (toU64 a1)]) kok60 z z (c_hist_down (A := fun _ => True) (a0 := a0.Neg) (Sl.all aG) aH) ?_
    rintro bE aI ⟨bs, rfl, aJ, bt⟩
    obtain ⟨am, bw, ac, n⟩ := adoptE al (fun k => 1) aJ
    have Z : Sl Rep.u aI (frs am) bs r.Counts := Sl.adoptF bt (fun k hk => ⟨hk, z⟩) ac
    refine nl (At.dq (su_ n z) ?_)
    have aa := aD.f n z
    have aK := h
    obtain ⟨t, C, D, rfl⟩ := aa.shape
    have h := aK
    have aL := h
    obtain ⟨F, G, H, rfl⟩ := Z.shape
    have h := aL
    refine WD.y 16 z (by kernel_rfl) (fun _ _ _ => yb (vals := [(0, vi (w64 (a0.Scale - a1))), (1, vu a0.Zero), (2, ag [vi q.Offset, (Value.slice t C D)]), (3, ag [vi r.Offset, (Value.slice F G H)])]) (cells := [vi (w64 (a0.Scale - a1)), vu a0.Zero, vi q.Offset, (Value.slice t C D), vi r.Offset, (Value.slice F G H)]) (fe_ z) (by kernel_rfl)) z (WD.phase [12] [0, 1, 2, 3, 4, 5, 6, 7, 8, 9, 10, 11, 12, 13, 14, 15, 16, 17, 18] (by kernel_rfl) (by kernel_rfl) (WD.heavy 17 z (by kernel_rfl) ?_))
    have aM := S.st d z
    have aN := aM.st e z
    have aO := aN.st m z
    have aP := aO.st n z
    refine WL.store (v := ag [vi (w64 (a0.Scale - a1)), vu a0.Zero, vi q.Offset, (Value.slice t C D), vi r.Offset, (Value.slice F G H)]) (cells' := [vi (w64 (a0.Scale - a1)), vu a0.Zero, vi q.Offset, (Value.slice t C D), vi r.Offset, (Value.slice F G H)]) ty30 z z aP z (le_ z) z z ?_
    intro aQ o aR
    refine nl (At.dq (su_ o z) (WD.y 18 z (by kernel_rfl) (fun _ _ _ => ya z) z (WD.done_ (by kernel_rfl) (th (rt ?_)))))
    obtain ⟨rfl, rfl⟩ := tup2 h
    have I : Stp [12] (Lg.O0 A) w am aQ := (tr_ (su_ l z) (tr_ (su_ j z) (tr_ (su_ d z) (tr_ (su_ e z) (tr_ (su_ m z) (tr_ (su_ n z) (su_ o z)))))))
    have aS := aa.f o z
    have aT := Z.f o z
    exact At.res (.inl z) z (.cell z (aR.runAg 0 [vi (w64 (a0.Scale - a1)), vu a0.Zero, vi q.Offset, (Value.slice t C D), vi r.Offset, (Value.slice F G H)] ty30 z z z) (.tmp z .nil)) ⟨(Value.slice t C D), (Value.slice F G H), z, (se_ I z z), (Sl.outF aS I low0), (Sl.outF aT I low0)⟩
theorem c_hist_Fit {A : Nat → Prop} {v0_3 : Value} {v0_5 : Value} {a0 : api_Hist} {a1 : Int} {w : World} (hs0_3 : Sl Rep.u w A v0_3 a0.Pos.Counts) (hs0_5 : Sl Rep.u w A v0_5 a0.Neg.Counts) {r0 : api_Hist} {r1 : Int} (h : hist_Fit a0 a1 = some (r0, r1)) : Rets Try.prog 43 [ag [vi a0.Scale, vu a0.Zero, vi a0.Pos.Offset, v0_3, vi a0.Neg.Offset, v0_5], vi a1] w (fun v w' => ∃ (am : Value) (an : Value), v = Value.tuple (List.toArray [ag [vi r0.Scale, vu r0.Zero, vi r0.Pos.Offset, am, vi r0.Neg.Offset, an], vi r1]) ∧ Ext w w' ∧ Sl Rep.u w' (fun k => w.heap.size ≤ k) am r0.Pos.Counts ∧ Sl Rep.u w' (fun k => w.heap.size ≤ k) an r0.Neg.Counts) := by
 unfold hist_Fit at h
 refine Rets.enter Try.func43 z z ?_
 have ao : Sl Rep.u w (imm (Lg.O0 A)) v0_3 a0.Pos.Counts := (Sl.start hs0_3)
 have ap : Sl Rep.u w (imm (Lg.O0 A)) v0_5 a0.Neg.Counts := (Sl.start hs0_5)
 refine (show WC _ _ _ _ [(0, ag [vi a0.Scale, vu a0.Zero, vi a0.Pos.Offset, v0_3, vi a0.Neg.Offset, v0_5]), (1, vi a1)] _ from ?_)
 refine sq (rg ?_)
 have bl := h
 obtain ⟨q, r, t, rfl⟩ := ao.shape
 have h := bl
 have bm := h
 obtain ⟨C, D, F, rfl⟩ := ap.shape
 have h := bm
 refine WL.box (O := (Lg.O0 A)) 11 [vi a0.Scale, vu a0.Zero, vi a0.Pos.Offset, (Value.slice q r t), vi a0.Neg.Offset, (Value.slice C D F)] z z z ?_
 intro bi bO b0 p bn
 refine WL.alloc (O := bO) 12 [vi 0, vu 0, vi 0, Value.slice none 0 0, vi 0, Value.slice none 0 0] ty30 z z ?_
 intro ad bP b1 o W
 refine wY (ya z) z (nl (th (sq (sq (rg ?_)))))
 have aq := bn.st o z
 refine wY (yL ty30 z z (aq.cells 0 [vi a0.Scale, vu a0.Zero, vi a0.Pos.Offset, (Value.slice q r t), vi a0.Neg.Offset, (Value.slice C D F)] z) z) z ?_
 have bo := ao.i p z z
 have ar := bo.i o z z
 have bp := ap.i p z z
 have au := bp.i o z z
 obtain ⟨cb, bq, h⟩ := bnd h
 refine WL.call (vals := [ag [vi a0.Scale, vu a0.Zero, vi a0.Pos.Offset, (Value.slice q r t), vi a0.Neg.Offset, (Value.slice C D F)]]) kok28 z z (c_hist_Check (A := fun _ => True) (a0 := a0) (Sl.all ar) (Sl.all au) bq) ?_
 rintro b2 av ⟨rfl, br⟩
 obtain ⟨ae, bQ, bR, e⟩ := adoptE bP (fun k => 1) br
 refine wY (ya z) z (nl (th (sq (rg (wY (ym z) z (wY (Y.neq_i z z) z (nl (th ?_))))))))
 rcases cnd h with ⟨Z, h⟩ | ⟨Z, h⟩
 ·refine WC.condT' z Z (sq (rg (wY (yb (vals := []) (cells := [vi 0, vu 0, vi 0, Value.slice none 0 0, vi 0, Value.slice none 0 0]) (fe_ z) (by kernel_rfl)) z (wY (ym z) z ?_))))
  have bs := W.st e z
  refine WL.store (v := ag [vi 0, vu 0, vi 0, Value.slice none 0 0, vi 0, Value.slice none 0 0]) (cells' := [vi 0, vu 0, vi 0, Value.slice none 0 0, vi 0, Value.slice none 0 0]) ty30 z z bs z (le_ z) z z ?_
  intro bt aC bu
  refine wY (ya z) z (nl (th (rt (At.thenR ?_))))
  obtain ⟨rfl, rfl⟩ := tup2 h
  have bw : Stp [12] (Lg.O0 A) w ae bt := (tr_ (su_ p z) (tr_ (su_ o z) (tr_ (su_ e z) (su_ aC z))))
  exact At.res (.inl z) z (.cell z (bu.runAg 0 [vi 0, vu 0, vi 0, Value.slice none 0 0, vi 0, Value.slice none 0 0] ty30 z z z) (.tmp z .nil)) ⟨Value.slice none 0 0, Value.slice none 0 0, z, (se_ bw z z), (Or.inl ⟨z, z⟩), (Or.inl ⟨z, z⟩)⟩
 ·refine WC.condF' z Z (sk (th (sq (sq (rg (wY (ya z) z (nl (th (WC.block ?_)))))))))
  obtain ⟨bj, h, aw⟩ := flow1 h
  obtain ⟨bk, h⟩ := loop_some h
  refine WC.joinB 0 (σ := Own) (fun x w' => bj = .go () ∧ Stp [] ae av x w') (fun x => [(4, pt ad 0)]) ?_ ?_
  ·refine WC.loop (σ := (Int × Own)) (fun x k w' => loopN k (hist_Fit_lp1 a0 a1) x.1 = some bj ∧ Stp [] ae av x.2 w') (fun x => [(1, vi a1), (2, pt bi 0), (4, pt ad 0), (7, vi x.1)]) (0, ae) bk (.cons z (.cons z (.cons z (.cons z .nil)))) ⟨h, (sr_ _ _ _)⟩ ?_
   rintro ⟨I, ax⟩ bk b3 ⟨h, m⟩
   obtain ⟨bS, cc, rfl, h, aa⟩ := rnd1 h
   unfold hist_Fit_lp1 at h
   try dsimp only at h m
   refine (show WC _ _ _ _ [(1, vi a1), (2, pt bi 0), (4, pt ad 0), (7, vi I)] _ from ?_)
   refine sq (sq (rg (wY (ym z) z (wY (yf fo30_0 z) z ?_))))
   have bx := aq.st e z
   have J := bx.st m z
   refine wY (yl ty3 z z (J.cell 0 _ z)) z (wY (Y.sub_i z z) z (wY (Y.leq_i z z) z (nl (th ?_))))
   rcases cnd h with ⟨ab, h⟩ | ⟨ab, h⟩
   ·refine WC.condT' z ab (sk (th (sq (WC.block (sq (WC.drawH [] [0, 1, 2, 3, 4, 5, 6, 7, 8, 9, 10, 11, 12] ax 13 fmix z (by kernel_rfl) ?_))))))
    intro b4 n
    refine WD.y 0 z (by kernel_rfl) (fun _ _ _ => yf fo30_2 z) z (WD.y 1 z (by kernel_rfl) (fun b5 cd aD => have bz := J.st n z; have bA := bz.st aD z; yL ty28 z z (bA.cells 2 [vi a0.Pos.Offset, (Value.slice q r t)] z) z) z (WD.y 2 z (by kernel_rfl) (fun _ _ _ => ym z) z (WD.y 3 z (by kernel_rfl) (fun _ _ _ => Y.conv_iu ty3.u ty92.u z) z (WD.y 5 z (by kernel_rfl) (fun _ _ _ => yf fo30_3 z) z (WD.y 6 z (by kernel_rfl) (fun b6 ce aE => have bB := J.st n z; have bC := bB.st aE z; yL ty28 z z (bC.cells 4 [vi a0.Neg.Offset, (Value.slice C D F)] z) z) z (WD.y 7 z (by kernel_rfl) (fun _ _ _ => ym z) z (WD.y 8 z (by kernel_rfl) (fun _ _ _ => Y.conv_iu ty3.u ty92.u z) z (WD.y 11 z (by kernel_rfl) (fun _ _ _ => ym z) z (WD.heavy 4 z (by kernel_rfl) ?_)))))))))
    have aF := ar.i e z z
    have aG := aF.i m z z
    have af := aG.i n z z
    obtain ⟨b7, aH, h⟩ := bnd h
    refine WL.call (vals := [ag [vi a0.Pos.Offset, (Value.slice q r t)], vu (toU64 I)]) kok73 z z (c_hist_span (A := fun _ => True) (a0 := a0.Pos) (Sl.all af) aH) ?_
    rintro bU bW ⟨rfl, aI⟩
    obtain ⟨bD, bI, bJ, j⟩ := adoptE ax (fun k => 1) aI
    refine nl (At.dq (su_ j z) (WD.heavy 9 z (by kernel_rfl) ?_))
    have aJ := au.i e z z
    have aK := aJ.i m z z
    have aL := aK.i n z z
    have ah := aL.i j z z
    obtain ⟨b8, aM, h⟩ := bnd h
    refine WL.call (vals := [ag [vi a0.Neg.Offset, (Value.slice C D F)], vu (toU64 I)]) kok73 z z (c_hist_span (A := fun _ => True) (a0 := a0.Neg) (Sl.all ah) aM) ?_
    rintro bX bY ⟨rfl, aN⟩
    obtain ⟨ay, bK, bL, l⟩ := adoptE bD (fun k => 1) aN
    refine nl (At.dq (su_ l z) (WD.y 10 z (by kernel_rfl) (fun _ _ _ => Y.max_i z z) z (WD.y 12 z (by kernel_rfl) (fun _ _ _ => Y.leq_i z z) z (WD.done_ (by kernel_rfl) (th ?_)))))
    rcases cnd h with ⟨K, h⟩ | ⟨K, h⟩
    ·refine WC.condT' z K (sq (rg ?_))
     have aO := J.st n z
     have aP := aO.st j z
     have aQ := aP.st l z
     refine wY (yL ty30 z z (aQ.cells 0 [vi a0.Scale, vu a0.Zero, vi a0.Pos.Offset, (Value.slice q r t), vi a0.Neg.Offset, (Value.slice C D F)] z) z) z (wY (ym z) z ?_)
     have aR := af.i j z z
     have aS := aR.i l z z
     have aT := ah.i l z z
     obtain ⟨⟨d, b9⟩, aU, h⟩ := bnd h
     refine WL.call (vals := [ag [vi a0.Scale, vu a0.Zero, vi a0.Pos.Offset, (Value.slice q r t), vi a0.Neg.Offset, (Value.slice C D F)], vi I]) kok31 z z (c_hist_Down (A := fun _ => True) (a0 := a0) (Sl.all aS) (Sl.all aT) aU) ?_
     rintro bZ ai ⟨bE, bF, rfl, aW, bG, bH⟩
     obtain ⟨ac, bM, H, V⟩ := adoptE ay (fun k => 1) aW
     have aj : Sl Rep.u ai (frs ac) bE d.Pos.Counts := Sl.adoptF bG (fun k hk => ⟨hk, z⟩) H
     have ak : Sl Rep.u ai (frs ac) bF d.Neg.Counts := Sl.adoptF bH (fun k hk => ⟨hk, z⟩) H
     refine wY (yx z z) z (wY (yx z z) z ?_)
     have aX := h
     obtain ⟨L, M, P, rfl⟩ := aj.shape
     have h := aX
     have aY := h
     obtain ⟨Q, S, T, rfl⟩ := ak.shape
     have h := aY
     have aZ := W.st e z
     have a2 := aZ.st m z
     have a3 := a2.st n z
     have a4 := a3.st j z
     have a5 := a4.st l z
     have a6 := a5.st V z
     refine WL.store (v := ag [vi d.Scale, vu d.Zero, vi d.Pos.Offset, (Value.slice L M P), vi d.Neg.Offset, (Value.slice Q S T)]) (cells' := [vi d.Scale, vu d.Zero, vi d.Pos.Offset, (Value.slice L M P), vi d.Neg.Offset, (Value.slice Q S T)]) ty30 z z a6 z (le_ z) z z ?_
     intro a7 G a8
     refine wY (ya z) z (nl (th (rt (At.inBlockR (At.thenR (At.loopR ?_))))))
     have h := outr1 h aa aw
     refine At.joinBR (At.inBlockR (At.thenR ?_))
     obtain ⟨rfl, rfl⟩ := tup2 h
     have U : Stp [12] (Lg.O0 A) w ac a7 := (tr_ (su_ p z) (tr_ (su_ o z) (tr_ (su_ e z) (tr_ (su_ m z) (tr_ (su_ n z) (tr_ (su_ j z) (tr_ (su_ l z) (tr_ (su_ V z) (su_ G z)))))))))
     have a9 := aj.f G z
     have ba := ak.f G z
     exact At.res (.inl z) z (.cell z (a8.runAg 0 [vi d.Scale, vu d.Zero, vi d.Pos.Offset, (Value.slice L M P), vi d.Neg.Offset, (Value.slice Q S T)] ty30 z z z) (.tmp z .nil)) ⟨(Value.slice L M P), (Value.slice Q S T), z, (se_ U z z), (Sl.outF a9 U low0), (Sl.outF ba U low0)⟩
    ·refine WC.condF' z K (sk (At.inBlock (th (rg (wY (ym z) z (wY (Y.add_i z z) z ?_))))))
     obtain ⟨bb, az, h⟩ := lt1 h
     refine WL.yE (ya z) (congrArg vi az.symm) z (nl ?_)
     exact At.round (bb, ay) bS (Nat.lt_succ_self _) ⟨next1 h aa, (tr_ (su_ m z) (tr_ (su_ n z) (tr_ (su_ j z) (su_ l z))))⟩ (.cons z (.cons z (.cons z (.cons z .nil))))
   ·refine WC.condF' z ab (WC.exit (At.thenX (At.loopX ?_)))
    exact At.hitB (σ := Own) ax ⟨brk1 h aa, (su_ m z)⟩ (.cons z .nil)
  ·rintro bT ca ⟨rfl, al⟩
   replace h := flowK_go aw
   refine (show At _ _ _ [(4, pt ad 0)] _ from ?_)
   refine At.inBlockHit (th (sq (rg (wY (yb (vals := []) (cells := [vi 0, vu 0, vi 0, Value.slice none 0 0, vi 0, Value.slice none 0 0]) (fe_ z) (by kernel_rfl)) z ?_))))
   have bc := W.st e z
   have bd := bc.st al z
   refine WL.store (v := ag [vi 0, vu 0, vi 0, Value.slice none 0 0, vi 0, Value.slice none 0 0]) (cells' := [vi 0, vu 0, vi 0, Value.slice none 0 0, vi 0, Value.slice none 0 0]) ty30 z z bd z (le_ z) z z ?_
   intro bf aA bg
   refine wY (ya z) z (nl (th (rt ?_)))
   obtain ⟨rfl, rfl⟩ := tup2 h
   have bh : Stp [12] (Lg.O0 A) w bT bf := (tr_ (su_ p z) (tr_ (su_ o z) (tr_ (su_ e z) (tr_ (su_ al z) (su_ aA z)))))
   exact At.res (.inl z) z (.cell z (bg.runAg 0 [vi 0, vu 0, vi 0, Value.slice none 0 0, vi 0, Value.slice none 0 0] ty30 z z z) (.tmp z .nil)) ⟨Value.slice none 0 0, Value.slice none 0 0, z, (se_ bh z z), (Or.inl ⟨z, z⟩), (Or.inl ⟨z, z⟩)⟩
theorem c_tocum_check {A : Nat → Prop} {v0_9 : Value} {v0_11 : Value} {a0 : api_State} {v1_1 : Value} {v1_13 : Value} {v1_15 : Value} {a1 : api_Point} {w : World} (hs0_9 : Sl Rep.u w A v0_9 a0.Hist.Pos.Counts) (hs0_11 : Sl Rep.u w A v0_11 a0.Hist.Neg.Counts) (hs1_1 : Sl rep_api_Pair w A v1_1 a1.Attrs) (hs1_13 : Sl Rep.u w A v1_13 a1.Hist.Pos.Counts) (hs1_15 : Sl Rep.u w A v1_15 a1.Hist.Neg.Counts) {r0 : Int} (h : tocum_check a0 a1 = some r0) : Rets Try.prog 44 [ag [vB a0.Some, vi a0.Start, vi a0.Time, vi a0.Int_, vu a0.Re, vu a0.Im, vi a0.Hist.Scale, vu a0.Hist.Zero, vi a0.Hist.Pos.Offset, v0_9, vi a0.Hist.Neg.Offset, v0_11], ag [vs a1.Name, v1_1, vi a1.Kind, vi a1.Temp, vB a1.Mono, vi a1.Start, vi a1.Time, vi a1.Int_, vu a1.Re, vu a1.Im, vi a1.Hist.Scale, vu a1.Hist.Zero, vi a1.Hist.Pos.Offset, v1_13, vi a1.Hist.Neg.Offset, v1_15, vi a1.Flags]] w (fun v w' => v = vi r0 ∧ Ext w w') := by
 unfold tocum_check at h
 refine Rets.enter Try.func44 z z ?_
 have r : Sl Rep.u w (imm (Lg.O0 A)) v0_9 a0.Hist.Pos.Counts := (Sl.start hs0_9)
 have t : Sl Rep.u w (imm (Lg.O0 A)) v0_11 a0.Hist.Neg.Counts := (Sl.start hs0_11)
 have C : Sl rep_api_Pair w (imm (Lg.O0 A)) v1_1 a1.Attrs := (Sl.start hs1_1)
 have D : Sl Rep.u w (imm (Lg.O0 A)) v1_13 a1.Hist.Pos.Counts := (Sl.start hs1_13)
 have F : Sl Rep.u w (imm (Lg.O0 A)) v1_15 a1.Hist.Neg.Counts := (Sl.start hs1_15)
 refine (show WC _ _ _ _ [(0, ag [vB a0.Some, vi a0.Start, vi a0.Time, vi a0.Int_, vu a0.Re, vu a0.Im, vi a0.Hist.Scale, vu a0.Hist.Zero, vi a0.Hist.Pos.Offset, v0_9, vi a0.Hist.Neg.Offset, v0_11]), (1, ag [vs a1.Name, v1_1, vi a1.Kind, vi a1.Temp, vB a1.Mono, vi a1.Start, vi a1.Time, vi a1.Int_, vu a1.Re, vu a1.Im, vi a1.Hist.Scale, vu a1.Hist.Zero, vi a1.Hist.Pos.Offset, v1_13, vi a1.Hist.Neg.Offset, v1_15, vi a1.Flags])] _ from ?_)
 refine sq (rg ?_)
 have G := h
 obtain ⟨ab, ac, ad, rfl⟩ := r.shape
 have h := G
 have H := h
 obtain ⟨ae, af, ah, rfl⟩ := t.shape
 have h := H
 refine WL.box (O := (Lg.O0 A)) 11 [vB a0.Some, vi a0.Start, vi a0.Time, vi a0.Int_, vu a0.Re, vu a0.Im, vi a0.Hist.Scale, vu a0.Hist.Zero, vi a0.Hist.Pos.Offset, (Value.slice ab ac ad), vi a0.Hist.Neg.Offset, (Value.slice ae af ah)] z z z ?_
 intro av ai au d I
 have J := C.i d z z
 have K := h
 obtain ⟨aj, ak, al, rfl⟩ := J.shape
 have h := K
 have L := D.i d z z
 have M := h
 obtain ⟨am, an, ao, rfl⟩ := L.shape
 have h := M
 have P := F.i d z z
 have Q := h
 obtain ⟨ap, aq, ar, rfl⟩ := P.shape
 have h := Q
 refine WL.box (O := ai) 12 [vs a1.Name, (Value.slice aj ak al), vi a1.Kind, vi a1.Temp, vB a1.Mono, vi a1.Start, vi a1.Time, vi a1.Int_, vu a1.Re, vu a1.Im, vi a1.Hist.Scale, vu a1.Hist.Zero, vi a1.Hist.Pos.Offset, (Value.slice am an ao), vi a1.Hist.Neg.Offset, (Value.slice ap aq ar), vi a1.Flags] z z z ?_
 intro aw p j e q
 refine wY (ya z) z (nl (th (sq (WC.block (sq (rg (wY (yf fo32_0 z) z ?_)))))))
 have l := I.st e z
 refine wY (yl ty4 z z (l.cell 0 _ z)) z (wY (Y.not z) z ?_)
 obtain ⟨ax, S, h⟩ := lt1 h
 refine WL.yE (ya z) (congrArg vB S.symm) z (nl (th ?_))
 rcases cnd h with ⟨m, h⟩ | ⟨m, h⟩
 ·refine WC.condT' z m (sk (At.inBlock (th (sq (rg (wY (ya z) z (nl (th (rt ?_)))))))))
  obtain rfl := some1 h
  have T : Stp [] (Lg.O0 A) w p j := (tr_ (su_ d z) (su_ e z))
  exact At.res (.inl z) z (.tmp z .nil) ⟨z, (se_ T z z)⟩
 ·refine WC.condF' z m (sq (rg (wY (yf fo37_6 z) z (wY (yl ty3 z z (q.cell 6 _ z)) z (wY (yf fo32_2 z) z (wY (yl ty3 z z (l.cell 2 _ z)) z (wY (Y.leq_i z z) z ?_)))))))
  obtain ⟨ay, U, h⟩ := lt1 h
  refine WL.yE (ya z) (congrArg vB U.symm) z (nl (th ?_))
  rcases cnd h with ⟨n, h⟩ | ⟨n, h⟩
  ·refine WC.condT' z n (sq (rg (wY (ya z) z (nl (th (rt (At.inBlockR (At.thenR ?_))))))))
   obtain rfl := some1 h
   have V : Stp [] (Lg.O0 A) w p j := (tr_ (su_ d z) (su_ e z))
   exact At.res (.inl z) z (.tmp z .nil) ⟨z, (se_ V z z)⟩
  ·refine WC.condF' z n (sq (rg (wY (yf fo37_5 z) z (wY (yl ty3 z z (q.cell 5 _ z)) z (wY (yf fo32_2 z) z (wY (yl ty3 z z (l.cell 2 _ z)) z (wY (Y.lss_i z z) z ?_)))))))
   obtain ⟨az, W, h⟩ := lt1 h
   refine WL.yE (ya z) (congrArg vB W.symm) z (nl (th ?_))
   rcases cnd h with ⟨o, h⟩ | ⟨o, h⟩
   ·refine WC.condT' z o (sq (rg (wY (ya z) z (nl (th (rt (At.inBlockR (At.thenR ?_))))))))
    obtain rfl := some1 h
    have Z : Stp [] (Lg.O0 A) w p j := (tr_ (su_ d z) (su_ e z))
    exact At.res (.inl z) z (.tmp z .nil) ⟨z, (se_ Z z z)⟩
   ·refine WC.condF' z o (sk (At.inBlock (th (sq (rg (wY (ya z) z (nl (th (rt ?_)))))))))
    obtain rfl := some1 h
    have aa : Stp [] (Lg.O0 A) w p j := (tr_ (su_ d z) (su_ e z))
    exact At.res (.inl z) z (.tmp z .nil) ⟨z, (se_ aa z z)⟩
theorem c_fold_Level {A : Nat → Prop} {v0_3 : Value} {v0_5 : Value} {a0 : api_Hist} {v1_3 : Value} {v1_5 : Value} {a1 : api_Hist} {w : World} (hs0_3 : Sl Rep.u w A v0_3 a0.Pos.Counts) (hs0_5 : Sl Rep.u w A v0_5 a0.Neg.Counts) (hs1_3 : Sl Rep.u w A v1_3 a1.Pos.Counts) (hs1_5 : Sl Rep.u w A v1_5 a1.Neg.Counts) {r0 : api_Hist} {r1 : api_Hist} {r2 : Int} (h : fold_Level a0 a1 = some (r0, r1, r2)) : Rets Try.prog 52 [ag [vi a0.Scale, vu a0.Zero, vi a0.Pos.Offset, v0_3, vi a0.Neg.Offset, v0_5], ag [vi a1.Scale, vu a1.Zero, vi a1.Pos.Offset, v1_3, vi a1.Neg.Offset, v1_5]] w (fun v w' => ∃ (bb : Value) (bc : Value) (bd : Value) (bf : Value), v = Value.tuple (List.toArray [ag [vi r0.Scale, vu r0.Zero, vi r0.Pos.Offset, bb, vi r0.Neg.Offset, bc], ag [vi r1.Scale, vu r1.Zero, vi r1.Pos.Offset, bd, vi r1.Neg.Offset, bf], vi r2]) ∧ Ext w w' ∧ Sl Rep.u w' (fun k => w.heap.size ≤ k) bb r0.Pos.Counts ∧ Sl Rep.u w' (fun k => w.heap.size ≤ k) bc r0.Neg.Counts ∧ Sl Rep.u w' (fun k => w.heap.size ≤ k) bd r1.Pos.Counts ∧ Sl Rep.u w' (fun k => w.heap.size ≤ k) bf r1.Neg.Counts) := by
 unfold fold_Level at h
 refine Rets.enter Try.func52 z z ?_
 have aN : Sl Rep.u w (imm (Lg.O0 A)) v0_3 a0.Pos.Counts := (Sl.start hs0_3)
 have aO : Sl Rep.u w (imm (Lg.O0 A)) v0_5 a0.Neg.Counts := (Sl.start hs0_5)
 have c7 : Sl Rep.u w (imm (Lg.O0 A)) v1_3 a1.Pos.Counts := (Sl.start hs1_3)
 have c8 : Sl Rep.u w (imm (Lg.O0 A)) v1_5 a1.Neg.Counts := (Sl.start hs1_5)
 refine (show WC _ _ _ _ [(0, ag [vi a0.Scale, vu a0.Zero, vi a0.Pos.Offset, v0_3, vi a0.Neg.Offset, v0_5]), (1, ag [vi a1.Scale, vu a1.Zero, vi a1.Pos.Offset, v1_3, vi a1.Neg.Offset, v1_5])] _ from ?_)
 refine sq (rg ?_)
 have c9 := h
 obtain ⟨K, L, M, rfl⟩ := aN.shape
 have h := c9
 have da := h
 obtain ⟨P, Q, S, rfl⟩ := aO.shape
 have h := da
 refine WL.box (O := (Lg.O0 A)) 11 [vi a0.Scale, vu a0.Zero, vi a0.Pos.Offset, (Value.slice K L M), vi a0.Neg.Offset, (Value.slice P Q S)] z z z ?_
 intro ar dS ec T db
 have aP := c7.i T z z
 have dc := h
 obtain ⟨r, t, C, rfl⟩ := aP.shape
 have h := dc
 have aQ := c8.i T z z
 have dd := h
 obtain ⟨D, F, G, rfl⟩ := aQ.shape
 have h := dd
 refine WL.box (O := dS) 12 [vi a1.Scale, vu a1.Zero, vi a1.Pos.Offset, (Value.slice r t C), vi a1.Neg.Offset, (Value.slice D F G)] z z z ?_
 intro au dT ed n de
 refine WL.alloc (O := dT) 13 [vi 0, vu 0, vi 0, Value.slice none 0 0, vi 0, Value.slice none 0 0] ty30 z z ?_
 intro av dU ee m bg
 refine WL.alloc (O := dU) 14 [vi 0, vu 0, vi 0, Value.slice none 0 0, vi 0, Value.slice none 0 0] ty30 z z ?_
 intro aw aW aR j bh
 refine wY (ya z) z (nl (th (sq (sq (rg ?_)))))
 have df := db.st n z
 have dg := df.st m z
 have bi := dg.st j z
 refine wY (yL ty30 z z (bi.cells 0 [vi a0.Scale, vu a0.Zero, vi a0.Pos.Offset, (Value.slice K L M), vi a0.Neg.Offset, (Value.slice P Q S)] z) z) z ?_
 have dh := de.st m z
 have bj := dh.st j z
 refine wY (yL ty30 z z (bj.cells 0 [vi a1.Scale, vu a1.Zero, vi a1.Pos.Offset, (Value.slice r t C), vi a1.Neg.Offset, (Value.slice D F G)] z) z) z (wY (yb (vals := [(0, ag [vi a0.Scale, vu a0.Zero, vi a0.Pos.Offset, (Value.slice K L M), vi a0.Neg.Offset, (Value.slice P Q S)]), (1, ag [vi a1.Scale, vu a1.Zero, vi a1.Pos.Offset, (Value.slice r t C), vi a1.Neg.Offset, (Value.slice D F G)])]) (cells := [vi a0.Scale, vu a0.Zero, vi a0.Pos.Offset, (Value.slice K L M), vi a0.Neg.Offset, (Value.slice P Q S), vi a1.Scale, vu a1.Zero, vi a1.Pos.Offset, (Value.slice r t C), vi a1.Neg.Offset, (Value.slice D F G)]) (fe_ z) (by kernel_rfl)) z (wY (ym z) z (nl (th ?_))))
 obtain ⟨dV, h, bk⟩ := flow1 h
 refine WC.join (σ := Own) (fun x w' => dV = .go () ∧ Stp [15] aW aR x w') (fun x => [(2, pt ar 0), (3, pt au 0), (4, pt av 0), (5, pt aw 0)]) ?_ ?_
 ·refine WC.block ?_
  obtain ⟨c4, h, bl⟩ := flow1 h
  obtain ⟨c5, h⟩ := loop_some h
  refine WC.joinB 0 (σ := Own) (fun x w' => c4 = .go () ∧ Stp [15] aW aR x w') (fun x => [(2, pt ar 0), (3, pt au 0), (4, pt av 0), (5, pt aw 0)]) ?_ ?_
  ·refine WC.loop (σ := (Int × Own)) (fun x k w' => loopN k (fold_Level_lp1 a0 a1) x.1 = some c4 ∧ Stp [15] aW aR x.2 w') (fun x => [(2, pt ar 0), (3, pt au 0), (4, pt av 0), (5, pt aw 0), (13, ag [vi a0.Scale, vu a0.Zero, vi a0.Pos.Offset, (Value.slice K L M), vi a0.Neg.Offset, (Value.slice P Q S), vi a1.Scale, vu a1.Zero, vi a1.Pos.Offset, (Value.slice r t C), vi a1.Neg.Offset, (Value.slice D F G)]), (14, vi x.1)]) (0, aW) c5 (.cons z (.cons z (.cons z (.cons z (.cons z (.cons z .nil)))))) ⟨h, (sr_ _ _ _)⟩ ?_
   rintro ⟨c6, bm⟩ c5 di ⟨h, o⟩
   obtain ⟨dW, eo, rfl, h, aS⟩ := rnd1 h
   unfold fold_Level_lp1 at h
   try dsimp only at h o
   refine (show WC _ _ _ _ [(2, pt ar 0), (3, pt au 0), (4, pt av 0), (5, pt aw 0), (13, ag [vi a0.Scale, vu a0.Zero, vi a0.Pos.Offset, (Value.slice K L M), vi a0.Neg.Offset, (Value.slice P Q S), vi a1.Scale, vu a1.Zero, vi a1.Pos.Offset, (Value.slice r t C), vi a1.Neg.Offset, (Value.slice D F G)]), (14, vi c6)] _ from ?_)
   refine sq (rg (wY (Y.lss_i z z) z (nl (th (sq ?_)))))
   rcases cnd h with ⟨aT, h⟩ | ⟨aT, h⟩
   ·refine WC.condT' z aT (sk (th (sq (WC.block (sq (rg ?_))))))
    have dj := aN.i T z z
    have dk := dj.i n z z
    have dl := dk.i m z z
    have dm := dl.i j z z
    have dn := dm.i o z z
    have dp := aO.i T z z
    have dr := dp.i n z z
    have ds := dr.i m z z
    have dt := ds.i j z z
    have du := dt.i o z z
    have dw := aP.i n z z
    have dx := dw.i m z z
    have dy := dx.i j z z
    have dz := dy.i o z z
    have dA := aQ.i n z z
    have dB := dA.i m z z
    have dC := dB.i j z z
    have dD := dC.i o z z
    obtain ⟨l, bn, h⟩ := bnd h
    obtain ⟨ef, az, bq⟩ := arrAt (R := rep_api_Hist) (w := di) (A := imm bm) (cells := [vi a0.Scale, vu a0.Zero, vi a0.Pos.Offset, (Value.slice K L M), vi a0.Neg.Offset, (Value.slice P Q S), vi a1.Scale, vu a1.Zero, vi a1.Pos.Offset, (Value.slice r t C), vi a1.Neg.Offset, (Value.slice D F G)]) (xs := [a0, a1]) ⟨[vi a0.Scale, vu a0.Zero, vi a0.Pos.Offset, (Value.slice K L M), vi a0.Neg.Offset, (Value.slice P Q S)], [vi a1.Scale, vu a1.Zero, vi a1.Pos.Offset, (Value.slice r t C), vi a1.Neg.Offset, (Value.slice D F G)], rfl, ⟨[vi a0.Scale], [vu a0.Zero, vi a0.Pos.Offset, (Value.slice K L M), vi a0.Neg.Offset, (Value.slice P Q S)], rfl, rfl, ⟨[vu a0.Zero], [vi a0.Pos.Offset, (Value.slice K L M), vi a0.Neg.Offset, (Value.slice P Q S)], rfl, rfl, ⟨[vi a0.Pos.Offset, (Value.slice K L M)], [vi a0.Neg.Offset, (Value.slice P Q S)], rfl, ⟨[vi a0.Pos.Offset], [(Value.slice K L M)], rfl, rfl, ⟨_, rfl, dn⟩⟩, ⟨[vi a0.Neg.Offset], [(Value.slice P Q S)], rfl, rfl, ⟨_, rfl, du⟩⟩⟩⟩⟩, ⟨[vi a1.Scale, vu a1.Zero, vi a1.Pos.Offset, (Value.slice r t C), vi a1.Neg.Offset, (Value.slice D F G)], [], rfl, ⟨[vi a1.Scale], [vu a1.Zero, vi a1.Pos.Offset, (Value.slice r t C), vi a1.Neg.Offset, (Value.slice D F G)], rfl, rfl, ⟨[vu a1.Zero], [vi a1.Pos.Offset, (Value.slice r t C), vi a1.Neg.Offset, (Value.slice D F G)], rfl, rfl, ⟨[vi a1.Pos.Offset, (Value.slice r t C)], [vi a1.Neg.Offset, (Value.slice D F G)], rfl, ⟨[vi a1.Pos.Offset], [(Value.slice r t C)], rfl, rfl, ⟨_, rfl, dz⟩⟩, ⟨[vi a1.Neg.Offset], [(Value.slice D F G)], rfl, rfl, ⟨_, rfl, dD⟩⟩⟩⟩⟩, rfl⟩⟩ bn
    obtain ⟨_, _, rfl, rfl, ⟨_, _, rfl, rfl, ⟨_, _, rfl, ⟨_, _, rfl, rfl, ⟨dX, rfl, br⟩⟩, ⟨_, _, rfl, rfl, ⟨dE, rfl, bs⟩⟩⟩⟩⟩ := bq
    replace az : _ = [vi l.Scale, vu l.Zero, vi l.Pos.Offset, dX, vi l.Neg.Offset, dE] := az
    refine wY (Y.indexArrAg ty118 ty30 z z az bn) z (WL.alloc (O := bm) 15 [vi 0, vu 0, vi 0, Value.slice none 0 0, vi 0, Value.slice none 0 0] ty30 z z ?_)
    intro eg dF d0 U bt
    have aX := br.i U z z
    have bu := h
    obtain ⟨aA, aC, aD, rfl⟩ := aX.shape
    have h := bu
    have aY := bs.i U z z
    have bw := h
    obtain ⟨aE, aF, aG, rfl⟩ := aY.shape
    have h := bw
    refine WL.store (v := ag [vi l.Scale, vu l.Zero, vi l.Pos.Offset, (Value.slice aA aC aD), vi l.Neg.Offset, (Value.slice aE aF aG)]) (cells' := [vi l.Scale, vu l.Zero, vi l.Pos.Offset, (Value.slice aA aC aD), vi l.Neg.Offset, (Value.slice aE aF aG)]) ty30 z z bt z (le_ z) z z ?_
    intro d1 V bx
    refine nl (th (sq (rg (wY (yL ty30 z z (bx.cells 0 [vi l.Scale, vu l.Zero, vi l.Pos.Offset, (Value.slice aA aC aD), vi l.Neg.Offset, (Value.slice aE aF aG)] z) z) z ?_))))
    have bz := aX.i V z z
    have bA := aY.i V z z
    obtain ⟨eh, bB, h⟩ := bnd h
    refine WL.call (vals := [ag [vi l.Scale, vu l.Zero, vi l.Pos.Offset, (Value.slice aA aC aD), vi l.Neg.Offset, (Value.slice aE aF aG)]]) kok28 z z (c_hist_Check (A := fun _ => True) (a0 := l) (Sl.all bz) (Sl.all bA) bB) ?_
    rintro d2 d3 ⟨rfl, bC⟩
    obtain ⟨bo, dO, dP, ao⟩ := adoptE dF (fun k => 1) bC
    refine wY (ya z) z (nl (th (sq (rg (wY (ym z) z (wY (Y.neq_i z z) z (nl (th ?_))))))))
    rcases cnd h with ⟨aH, h⟩ | ⟨aH, h⟩
    ·refine WC.condT' z aH (sq (rg (wY (yb (vals := []) (cells := [vi 0, vu 0, vi 0, Value.slice none 0 0, vi 0, Value.slice none 0 0]) (fe_ z) (by kernel_rfl)) z (wY (yb (vals := []) (cells := [vi 0, vu 0, vi 0, Value.slice none 0 0, vi 0, Value.slice none 0 0]) (fe_ z) (by kernel_rfl)) z (wY (ym z) z ?_)))))
     have bD := bg.st j z
     have bE := bD.st o z
     have bF := bE.st U z
     have bG := bF.st V z
     have bH := bG.st ao z
     refine WL.store (v := ag [vi 0, vu 0, vi 0, Value.slice none 0 0, vi 0, Value.slice none 0 0]) (cells' := [vi 0, vu 0, vi 0, Value.slice none 0 0, vi 0, Value.slice none 0 0]) ty30 z z bH z (le_ z) z z ?_
     intro d4 aK bI
     have bJ := bh.st o z
     have bK := bJ.st U z
     have bL := bK.st V z
     have bM := bL.st ao z
     have bO := bM.st aK z
     refine WL.store (v := ag [vi 0, vu 0, vi 0, Value.slice none 0 0, vi 0, Value.slice none 0 0]) (cells' := [vi 0, vu 0, vi 0, Value.slice none 0 0, vi 0, Value.slice none 0 0]) ty30 z z bO z (le_ z) z z ?_
     intro bP aL bQ
     refine wY (ya z) z (nl (th (rt (At.inBlockR (At.thenR (At.loopR ?_))))))
     have h := outr1 h aS bl
     refine At.joinBR (At.inBlockR ?_)
     have h := outs1 h bk
     refine At.joinR (At.thenR ?_)
     obtain ⟨rfl, rfl, rfl⟩ := tup3 h
     have bR : Stp [13, 14, 15] (Lg.O0 A) w bo bP := (tr_ (su_ T z) (tr_ (su_ n z) (tr_ (su_ m z) (tr_ (su_ j z) (tr_ (su_ o z) (tr_ (su_ U z) (tr_ (su_ V z) (tr_ (su_ ao z) (tr_ (su_ aK z) (su_ aL z))))))))))
     have bS := bI.st aL z
     exact At.res (.inl z) z (.cell z (bS.runAg 0 [vi 0, vu 0, vi 0, Value.slice none 0 0, vi 0, Value.slice none 0 0] ty30 z z z) (.cell z (bQ.runAg 0 [vi 0, vu 0, vi 0, Value.slice none 0 0, vi 0, Value.slice none 0 0] ty30 z z z) (.tmp z .nil))) ⟨Value.slice none 0 0, Value.slice none 0 0, Value.slice none 0 0, Value.slice none 0 0, z, (se_ bR z z), (Or.inl ⟨z, z⟩), (Or.inl ⟨z, z⟩), (Or.inl ⟨z, z⟩), (Or.inl ⟨z, z⟩)⟩
    ·refine WC.condF' z aH (sk (At.inBlock (th (rg (wY (Y.add_i z z) z (wY (ym z) z (nl ?_)))))))
     exact At.round (w64 (c6 + 1), bo) dW (Nat.lt_succ_self _) ⟨next1 h aS, (tr_ (su_ o z) (tr_ (su_ U z) (tr_ (su_ V z) (su_ ao z))))⟩ (.cons z (.cons z (.cons z (.cons z (.cons z (.cons z .nil))))))
   ·refine WC.condF' z aT (WC.exit (At.thenX (At.loopX ?_)))
    exact At.hitB (σ := Own) bm ⟨brk1 h aS, (su_ o z)⟩ (.cons z (.cons z (.cons z (.cons z .nil))))
  ·rintro dY ei ⟨rfl, bT⟩
   replace h := flowK_go bl
   refine (show At _ _ _ [(2, pt ar 0), (3, pt au 0), (4, pt av 0), (5, pt aw 0)] _ from ?_)
   refine At.inBlockHit ?_
   exact At.join (σ := Own) dY ⟨go2 h, (su_ bT z)⟩ (.cons z (.cons z (.cons z (.cons z .nil))))
 ·rintro dZ ej ⟨rfl, q⟩
  replace h := flowK_go bk
  refine (show At _ _ _ [(2, pt ar 0), (3, pt au 0), (4, pt av 0), (5, pt aw 0)] _ from ?_)
  refine th (sq (rg (wY (yf fo30_0 z) z ?_)))
  have aI := bi.st q z
  refine wY (yl ty3 z z (aI.cell 0 _ z)) z (wY (yf fo30_0 z) z ?_)
  have aZ := bj.st q z
  refine wY (yl ty3 z z (aZ.cell 0 _ z)) z (wY (Y.min_i z z) z ?_)
  obtain ⟨aq, aM, h⟩ := lt1 h
  refine WL.yE (ya z) (congrArg vi aM.symm) z (nl (th (sq (rg (wY (yL ty30 z z (aI.cells 0 [vi a0.Scale, vu a0.Zero, vi a0.Pos.Offset, (Value.slice K L M), vi a0.Neg.Offset, (Value.slice P Q S)] z) z) z (wY (yf fo30_0 z) z (wY (yl ty3 z z (aI.cell 0 _ z)) z (wY (ym z) z (wY (Y.sub_i z z) z ?_)))))))))
  have bU := aN.i T z z
  have bW := bU.i n z z
  have bX := bW.i m z z
  have bY := bX.i j z z
  have bZ := bY.i q z z
  have b0 := aO.i T z z
  have b1 := b0.i n z z
  have b2 := b1.i m z z
  have b3 := b2.i j z z
  have b4 := b3.i q z z
  obtain ⟨⟨d, ek⟩, b5, h⟩ := bnd h
  refine WL.call (vals := [ag [vi a0.Scale, vu a0.Zero, vi a0.Pos.Offset, (Value.slice K L M), vi a0.Neg.Offset, (Value.slice P Q S)], vi (w64 (a0.Scale - aq))]) kok31 z z (c_hist_Down (A := fun _ => True) (a0 := a0) (Sl.all bZ) (Sl.all b4) b5) ?_
  rintro d5 a2 ⟨dG, dH, rfl, b6, dI, dJ⟩
  obtain ⟨aU, dQ, ax, W⟩ := adoptE dZ (fun k => 1) b6
  have a3 : Sl Rep.u a2 (frs aU) dG d.Pos.Counts := Sl.adoptF dI (fun k hk => ⟨hk, z⟩) ax
  have a4 : Sl Rep.u a2 (frs aU) dH d.Neg.Counts := Sl.adoptF dJ (fun k hk => ⟨hk, z⟩) ax
  refine wY (ym z) z (wY (yx z z) z (wY (yx z z) z ?_))
  have b7 := h
  obtain ⟨ab, ac, ad, rfl⟩ := a3.shape
  have h := b7
  have b8 := h
  obtain ⟨ae, af, ah, rfl⟩ := a4.shape
  have h := b8
  have b9 := bg.st j z
  have ca := b9.st q z
  have cb := ca.st W z
  refine WL.store (v := ag [vi d.Scale, vu d.Zero, vi d.Pos.Offset, (Value.slice ab ac ad), vi d.Neg.Offset, (Value.slice ae af ah)]) (cells' := [vi d.Scale, vu d.Zero, vi d.Pos.Offset, (Value.slice ab ac ad), vi d.Neg.Offset, (Value.slice ae af ah)]) ty30 z z cb z (le_ z) z z ?_
  intro d6 H cc
  refine nl (th (sq (rg ?_)))
  have cd := aZ.st W z
  have a5 := cd.st H z
  refine wY (yL ty30 z z (a5.cells 0 [vi a1.Scale, vu a1.Zero, vi a1.Pos.Offset, (Value.slice r t C), vi a1.Neg.Offset, (Value.slice D F G)] z) z) z (wY (yf fo30_0 z) z (wY (yl ty3 z z (a5.cell 0 _ z)) z (wY (ym z) z (wY (Y.sub_i z z) z ?_))))
  have ce := aP.i n z z
  have cf := ce.i m z z
  have cg := cf.i j z z
  have ch := cg.i q z z
  have ci := ch.i W z z
  have cj := ci.i H z z
  have ck := aQ.i n z z
  have cl := ck.i m z z
  have cm := cl.i j z z
  have cn := cm.i q z z
  have co := cn.i W z z
  have cp := co.i H z z
  obtain ⟨⟨e, em⟩, cq, h⟩ := bnd h
  refine WL.call (vals := [ag [vi a1.Scale, vu a1.Zero, vi a1.Pos.Offset, (Value.slice r t C), vi a1.Neg.Offset, (Value.slice D F G)], vi (w64 (a1.Scale - aq))]) kok31 z z (c_hist_Down (A := fun _ => True) (a0 := a1) (Sl.all cj) (Sl.all cp) cq) ?_
  rintro d7 a6 ⟨dK, dL, rfl, cr, dM, dN⟩
  obtain ⟨aJ, dR, ay, aa⟩ := adoptE aU (fun k => 1) cr
  have a7 : Sl Rep.u a6 (frs aJ) dK e.Pos.Counts := Sl.adoptF dM (fun k hk => ⟨hk, z⟩) ay
  have a8 : Sl Rep.u a6 (frs aJ) dL e.Neg.Counts := Sl.adoptF dN (fun k hk => ⟨hk, z⟩) ay
  refine wY (ym z) z (wY (yx z z) z (wY (yx z z) z ?_))
  have cs := h
  obtain ⟨ai, aj, ak, rfl⟩ := a7.shape
  have h := cs
  have ct := h
  obtain ⟨al, am, an, rfl⟩ := a8.shape
  have h := ct
  have cu := bh.st q z
  have cw := cu.st W z
  have cx := cw.st H z
  have cy := cx.st aa z
  refine WL.store (v := ag [vi e.Scale, vu e.Zero, vi e.Pos.Offset, (Value.slice ai aj ak), vi e.Neg.Offset, (Value.slice al am an)]) (cells' := [vi e.Scale, vu e.Zero, vi e.Pos.Offset, (Value.slice ai aj ak), vi e.Neg.Offset, (Value.slice al am an)]) ty30 z z cy z (le_ z) z z ?_
  intro d8 Z a9
  refine nl (th (sq (WC.drawH [13] [0, 1, 2] aJ 5 fmix z (by kernel_rfl) ?_)))
  intro d9 p
  refine WD.y 1 z (by kernel_rfl) (fun ea en bp => have cz := a9.st p z; have cA := cz.st bp z; yL ty30 z z (cA.cells 0 [vi e.Scale, vu e.Zero, vi e.Pos.Offset, (Value.slice ai aj ak), vi e.Neg.Offset, (Value.slice al am an)] z) z) z (WD.heavy 0 z (by kernel_rfl) ?_)
  have cC := cc.st aa z
  have cD := cC.st Z z
  have ba := cD.st p z
  refine wY (yL ty30 z z (ba.cells 0 [vi d.Scale, vu d.Zero, vi d.Pos.Offset, (Value.slice ab ac ad), vi d.Neg.Offset, (Value.slice ae af ah)] z) z) z (nl (At.dq (sr_ _ _ _) (WD.heavy 2 z (by kernel_rfl) (WL.store (v := ag [vi d.Scale, vu d.Zero, vi d.Pos.Offset, (Value.slice ab ac ad), vi d.Neg.Offset, (Value.slice ae af ah)]) (cells' := [vi d.Scale, vu d.Zero, vi d.Pos.Offset, (Value.slice ab ac ad), vi d.Neg.Offset, (Value.slice ae af ah)]) ty30 z z ba z (le_ z) z z ?_))))
  intro eb I cE
  refine nl (At.dq (su_ I z) (WD.phase [14] [0, 1, 2, 3, 4] (by kernel_rfl) (by kernel_rfl) (WD.heavy 3 z (by kernel_rfl) ?_)))
  have cF := a9.st p z
  have cG := cF.st I z
  refine WL.store (v := ag [vi e.Scale, vu e.Zero, vi e.Pos.Offset, (Value.slice ai aj ak), vi e.Neg.Offset, (Value.slice al am an)]) (cells' := [vi e.Scale, vu e.Zero, vi e.Pos.Offset, (Value.slice ai aj ak), vi e.Neg.Offset, (Value.slice al am an)]) ty30 z z cG z (le_ z) z z ?_
  intro cH J cI
  refine nl (At.dq (su_ J z) (WD.y 4 z (by kernel_rfl) (fun _ _ _ => ya z) z (WD.done_ (by kernel_rfl) (th (rt ?_)))))
  obtain ⟨rfl, rfl, rfl⟩ := tup3 h
  have ap : Stp [13, 14, 15] (Lg.O0 A) w aJ cH := (tr_ (su_ T z) (tr_ (su_ n z) (tr_ (su_ m z) (tr_ (su_ j z) (tr_ (su_ q z) (tr_ (su_ W z) (tr_ (su_ H z) (tr_ (su_ aa z) (tr_ (su_ Z z) (tr_ (su_ p z) (tr_ (su_ I z) (su_ J z))))))))))))
  have cJ := a3.f H z
  have cK := cJ.f aa z
  have cL := cK.f Z z
  have cM := cL.f p z
  have cN := cM.f I z
  have cO := cN.f J z
  have cP := a4.f H z
  have cQ := cP.f aa z
  have cR := cQ.f Z z
  have cS := cR.f p z
  have cT := cS.f I z
  have cU := cT.f J z
  have cV := a7.f Z z
  have cW := cV.f p z
  have cX := cW.f I z
  have cY := cX.f J z
  have cZ := a8.f Z z
  have c0 := cZ.f p z
  have c1 := c0.f I z
  have c2 := c1.f J z
  have c3 := cE.st J z
  exact At.res (.inl z) z (.cell z (c3.runAg 0 [vi d.Scale, vu d.Zero, vi d.Pos.Offset, (Value.slice ab ac ad), vi d.Neg.Offset, (Value.slice ae af ah)] ty30 z z z) (.cell z (cI.runAg 0 [vi e.Scale, vu e.Zero, vi e.Pos.Offset, (Value.slice ai aj ak), vi e.Neg.Offset, (Value.slice al am an)] ty30 z z z) (.tmp z .nil))) ⟨(Value.slice ab ac ad), (Value.slice ae af ah), (Value.slice ai aj ak), (Value.slice al am an), z, (se_ ap z z), (Sl.outF cO ap low0), (Sl.outF cU ap low0), (Sl.outF cY ap low0), (Sl.outF c2 ap low0)⟩
theorem c_fold_ends {A : Nat → Prop} {v0_1 : Value} {a0 : api_Side} {w : World} (hs0_1 : Sl Rep.u w A v0_1 a0.Counts) {r0 : Int} {r1 : Int} (h : fold_ends a0 = some (r0, r1)) : Rets Try.prog 87 [ag [vi a0.Offset, v0_1]] w (fun v w' => v = tp [vi r0, vi r1] ∧ Ext w w') := by
 unfold fold_ends at h
 refine Rets.enter Try.func87 z z ?_
 have l : Sl Rep.u w (imm (Lg.O0 A)) v0_1 a0.Counts := (Sl.start hs0_1)
 refine (show WC _ _ _ _ [(0, ag [vi a0.Offset, v0_1])] _ from ?_)
 refine sq (rg ?_)
 have o := h
 obtain ⟨D, F, G, rfl⟩ := l.shape
 have h := o
 refine WL.box (O := (Lg.O0 A)) 11 [vi a0.Offset, (Value.slice D F G)] z z z ?_
 intro J n H j p
 refine wY (ya z) z (wY (ya z) z (nl (th (sq (WC.draw 9 n fmix (by kernel_rfl) ?_)))))
 intro q d
 refine WS.y (yf fo28_0 z) z ?_
 have e := p.st d z
 refine WS.y (yl ty3 z z (e.cell 0 _ z)) z (WS.y (yf fo28_0 z) z (WS.y (yl ty3 z z (e.cell 0 _ z)) z (WS.y (yf fo28_1 z) z (WS.y (yl ty26 z z (e.cell 1 _ z)) z ?_))))
 have r := l.i j z z
 have t := r.i d z z
 refine WS.y (Y.len ty26 z t) z (WS.y (Y.add_i z z) z (WS.y (ya z) z (WS.tail ?_)))
 obtain ⟨I, m, h⟩ := lt1 h
 refine WL.yE (ya z) (congrArg vi m.symm) z (nl (th (rt ?_)))
 obtain ⟨rfl, rfl⟩ := tup2 h
 have C : Stp [] (Lg.O0 A) w n q := (tr_ (su_ j z) (su_ d z))
 exact At.res (.inl z) z (.tmp z (.tmp z .nil)) ⟨z, (se_ C z z)⟩
theorem c_fold_cover {A : Nat → Prop} {v0_1 : Value} {a0 : api_Side} {v1_1 : Value} {a1 : api_Side} {w : World} (hs0_1 : Sl Rep.u w A v0_1 a0.Counts) (hs1_1 : Sl Rep.u w A v1_1 a1.Counts) {r0 : Int} {r1 : Int} (h : fold_cover a0 a1 = some (r0, r1)) : Rets Try.prog 61 [ag [vi a0.Offset, v0_1], ag [vi a1.Offset, v1_1]] w (fun v w' => v = tp [vi r0, vi r1] ∧ Ext w w') := by
 unfold fold_cover at h
 refine Rets.enter Try.func61 z z ?_
 have F : Sl Rep.u w (imm (Lg.O0 A)) v0_1 a0.Counts := (Sl.start hs0_1)
 have Z : Sl Rep.u w (imm (Lg.O0 A)) v1_1 a1.Counts := (Sl.start hs1_1)
 refine (show WC _ _ _ _ [(0, ag [vi a0.Offset, v0_1]), (1, ag [vi a1.Offset, v1_1])] _ from ?_)
 refine sq (rg ?_)
 have aa := h
 obtain ⟨G, H, I, rfl⟩ := F.shape
 have h := aa
 refine WL.box (O := (Lg.O0 A)) 11 [vi a0.Offset, (Value.slice G H I)] z z z ?_
 intro aO aw aG e ab
 have o := Z.i e z z
 have ac := h
 obtain ⟨J, K, L, rfl⟩ := o.shape
 have h := ac
 refine WL.box (O := aw) 12 [vi a1.Offset, (Value.slice J K L)] z z z ?_
 intro aP n aH d p
 refine wY (ya z) z (wY (ya z) z (nl (th (sq (sq (rg (wY (yf fo28_1 z) z ?_)))))))
 have q := ab.st d z
 refine wY (yl ty26 z z (q.cell 1 _ z)) z ?_
 have ad := F.i e z z
 have r := ad.i d z z
 refine wY (Y.len ty26 z r) z (wY (Y.eql_i z z) z (nl (th ?_)))
 rcases cnd h with ⟨t, h⟩ | ⟨t, h⟩
 ·refine WC.condT' z t (sq (WC.draw 6 n fmix (by kernel_rfl) ?_))
  intro ae j
  refine WS.y (yf fo28_0 z) z ?_
  have M := p.st j z
  refine WS.y (yl ty3 z z (M.cell 0 _ z)) z (WS.y (yf fo28_1 z) z (WS.y (yl ty26 z z (M.cell 1 _ z)) z ?_))
  have af := o.i d z z
  have ah := af.i j z z
  refine WS.y (Y.len ty26 z ah) z (WS.y (ya z) z (WS.tail ?_))
  obtain ⟨aI, T, h⟩ := lt1 h
  refine WL.yE (ya z) (congrArg vi T.symm) z (nl (th (rt (At.thenR ?_))))
  obtain ⟨rfl, rfl⟩ := tup2 h
  have ai : Stp [] (Lg.O0 A) w n ae := (tr_ (su_ e z) (tr_ (su_ d z) (su_ j z)))
  exact At.res (.inl z) z (.tmp z (.tmp z .nil)) ⟨z, (se_ ai z z)⟩
 ·refine WC.condF' z t (sk (th (sq (sq (rg (wY (yf fo28_1 z) z (wY (yl ty26 z z (p.cell 1 _ z)) z ?_)))))))
  have P := o.i d z z
  refine wY (Y.len ty26 z P) z (wY (Y.eql_i z z) z (nl (th ?_)))
  rcases cnd h with ⟨C, h⟩ | ⟨C, h⟩
  ·refine WC.condT' z C (sq (WC.draw 6 n fmix (by kernel_rfl) ?_))
   intro aj l
   refine WS.y (yf fo28_0 z) z ?_
   have Q := q.st l z
   refine WS.y (yl ty3 z z (Q.cell 0 _ z)) z (WS.y (yf fo28_1 z) z (WS.y (yl ty26 z z (Q.cell 1 _ z)) z ?_))
   have ak := r.i l z z
   refine WS.y (Y.len ty26 z ak) z (WS.y (ya z) z (WS.tail ?_))
   obtain ⟨aJ, U, h⟩ := lt1 h
   refine WL.yE (ya z) (congrArg vi U.symm) z (nl (th (rt (At.thenR ?_))))
   obtain ⟨rfl, rfl⟩ := tup2 h
   have al : Stp [] (Lg.O0 A) w n aj := (tr_ (su_ e z) (tr_ (su_ d z) (su_ l z)))
   exact At.res (.inl z) z (.tmp z (.tmp z .nil)) ⟨z, (se_ al z z)⟩
  ·refine WC.condF' z C (sk (th (sq (rg (wY (yL ty28 z z (q.cells 0 [vi a0.Offset, (Value.slice G H I)] z) z) z ?_)))))
   obtain ⟨⟨aQ, aR⟩, am, h⟩ := bnd h
   refine WL.call (vals := [ag [vi a0.Offset, (Value.slice G H I)]]) kok87 z z (c_fold_ends (A := fun _ => True) (a0 := a0) (Sl.all r) am) ?_
   rintro aK aL ⟨rfl, an⟩
   obtain ⟨ax, ay, az, m⟩ := adoptE n (fun k => 1) an
   refine wY (ym z) z (wY (yx z z) z (wY (yx z z) z (wY (ya z) z (wY (ya z) z (nl (th (sq (rg ?_))))))))
   have ao := p.st m z
   refine wY (yL ty28 z z (ao.cells 0 [vi a1.Offset, (Value.slice J K L)] z) z) z ?_
   have ap := P.i m z z
   obtain ⟨⟨aS, aT⟩, aq, h⟩ := bnd h
   refine WL.call (vals := [ag [vi a1.Offset, (Value.slice J K L)]]) kok87 z z (c_fold_ends (A := fun _ => True) (a0 := a1) (Sl.all ap) aq) ?_
   rintro aM ar ⟨rfl, au⟩
   obtain ⟨aA, aC, aD, V⟩ := adoptE ax (fun k => 1) au
   refine wY (ym z) z (wY (yx z z) z (wY (yx z z) z (wY (ya z) z (wY (ya z) z (nl (th (sq (rg (wY (ym z) z ?_)))))))))
   refine wY (ym z) z (wY (Y.min_i z z) z (wY (ym z) z (wY (ym z) z (wY (Y.max_i z z) z ?_))))
   obtain ⟨aE, D, h⟩ := lt1 h
   refine WL.yE (ya z) (congrArg vi D.symm) z ?_
   obtain ⟨aF, S, h⟩ := lt1 h
   refine WL.yE (ya z) (congrArg vi S.symm) z (nl (th (sq (rg (wY (ym z) z (wY (ym z) z (wY (ym z) z (wY (Y.sub_i z z) z (wY (ya z) z ?_)))))))))
   obtain ⟨aN, W, h⟩ := lt1 h
   refine WL.yE (ya z) (congrArg vi W.symm) z (nl (th (rt ?_)))
   obtain ⟨rfl, rfl⟩ := tup2 h
   have av : Stp [] (Lg.O0 A) w aA ar := (tr_ (su_ e z) (tr_ (su_ d z) (tr_ (su_ m z) (su_ V z))))
   exact At.res (.inl z) z (.tmp z (.tmp z .nil)) ⟨z, (se_ av z z)⟩
theorem c_hist_At {A : Nat → Prop} {v0_1 : Value} {a0 : api_Side} {a1 : Int} {w : World} (hs0_1 : Sl Rep.u w A v0_1 a0.Counts) {r0 : UInt64} (h : hist_At a0 a1 = some r0) : Rets Try.prog 62 [ag [vi a0.Offset, v0_1], vi a1] w (fun v w' => v = vu r0 ∧ Ext w w') := by
 unfold hist_At at h
 refine Rets.enter Try.func62 z z ?_
 have j : Sl Rep.u w (imm (Lg.O0 A)) v0_1 a0.Counts := (Sl.start hs0_1)
 refine (show WC _ _ _ _ [(0, ag [vi a0.Offset, v0_1]), (1, vi a1)] _ from ?_)
 refine sq (rg ?_)
 have C := h
 obtain ⟨P, Q, S, rfl⟩ := j.shape
 have h := C
 refine WL.box (O := (Lg.O0 A)) 11 [vi a0.Offset, (Value.slice P Q S)] z z z ?_
 intro r t l d e
 refine wY (ya (v := vu 0) z) z (nl (th (sq (sq (rg (wY (ym z) z (wY (yf fo28_0 z) z (wY (yl ty3 z z (e.cell 0 _ z)) z (wY (Y.lss_i z z) z ?_)))))))))
 refine wY (ym z) z ?_
 refine WL.cut 12 (σ := Unit) (fun _ w' => l = w') (fun _ => [(1, vi a1), (2, pt r 0), (21, vB ((decide (a1 < a0.Offset)) || (decide (toU64 (a0.Counts.length : Int) ≤ ((toU64 a1) - (toU64 a0.Offset))))))]) ?_ ?_
 ·refine WL.part 9 z (fun m => ?_) (fun m => ?_)
  ·refine WL.gS z z z z (WL.gS z z z z (WL.gS z z z z (WL.gS z z z z (WL.gS z z z z (WL.gS z z z z (WL.gS z z z z (WL.gS z z z z (WL.gS z z z z (WL.gS z z z z ?_)))))))))
   refine WL.gS z z z z (wY (Y.pick (b := true) z z) z (WL.ren (v' := vB ((decide (a1 < a0.Offset)) || (decide (toU64 (a0.Counts.length : Int) ≤ ((toU64 a1) - (toU64 a0.Offset)))))) 21 z (congrArg vB (orT m)) ?_))
   exact nl (At.join () z (.cons z (.cons z (.cons z .nil))))
  ·refine ug z z (wY (ym z) z (ug z z (wY (Y.conv_iu ty3.u ty25.u z) z (ug z z (wY (yf fo28_0 z) z (ug z z (wY (yl ty3 z z (e.cell 0 _ z)) z (ug z z (wY (Y.conv_iu ty3.u ty25.u z) z ?_)))))))))
   refine ug z z (wY (Y.sub_u z z) z (ug z z (wY (yf fo28_1 z) z (ug z z (wY (yl ty26 z z (e.cell 1 _ z)) z (ug z z ?_))))))
   have D := j.i d z z
   refine wY (Y.len ty26 z D) z (ug z z (wY (Y.conv_iu ty3.u ty25.u z) z (ug z z (wY (Y.geq_u z z) z (wY (Y.pick (b := false) z z) z (WL.ren (v' := vB ((decide (a1 < a0.Offset)) || (decide (toU64 (a0.Counts.length : Int) ≤ ((toU64 a1) - (toU64 a0.Offset)))))) 21 z (congrArg vB (orF m)) ?_))))))
   exact nl (At.join () z (.cons z (.cons z (.cons z .nil))))
 ·rintro _ _ rfl
  refine (show WL _ _ _ _ _ [(1, vi a1), (2, pt r 0), (21, vB ((decide (a1 < a0.Offset)) || (decide (toU64 (a0.Counts.length : Int) ≤ ((toU64 a1) - (toU64 a0.Offset))))))] _ from ?_)
  refine nl (th ?_)
  rcases cnd h with ⟨n, h⟩ | ⟨n, h⟩
  ·refine WC.condT' z n (sq (rg (wY (ya (v := vu 0) z) z (nl (th (rt (At.thenR ?_)))))))
   obtain rfl := some1 h
   have F : Stp [] (Lg.O0 A) w t l := (su_ d z)
   exact At.res (.inl z) z (.tmp z .nil) ⟨z, (se_ F z z)⟩
  ·refine WC.condF' z n (sk (th (sq (rg (wY (yf fo28_1 z) z (wY (yl ty26 z z (e.cell 1 _ z)) z (wY (ym z) z (wY (yf fo28_0 z) z (wY (yl ty3 z z (e.cell 0 _ z)) z ?_)))))))))
   refine wY (Y.sub_i z z) z ?_
   obtain ⟨T, G, h⟩ := bnd h
   have H := j.i d z z
   obtain ⟨Z, U, V, W, I, J, K, o, p, L⟩ := Sl.at2 H G
   obtain rfl := p
   replace o : CellsAt _ _ _ [vu T] := o
   have q := CAt.imm o L
   refine wY (Y.indexAddr ty26 ty25 z I z J K) z (wY (yl ty25 z z q.at_) z (wY (ya z) z (nl (th (rt ?_)))))
   obtain rfl := some1 h
   have M : Stp [] (Lg.O0 A) w t l := (su_ d z)
   exact At.res (.inl z) z (.tmp z .nil) ⟨z, (se_ M z z)⟩
end Go.Lg
