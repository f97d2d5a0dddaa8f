/- The walks of TodeltaHists and of what it calls, printed by gen.py. -/
import Derived.Test.YtoiklipabcecfaaDhLgPart0
import Derived.Test.YtoiklipabcecfaaDhLgPart2
import Derived.Test.YtoiklipabcecfaaProg
set_option linter.unusedVariables false
namespace Go.Lg
open Go Go.Proofs
set_option maxRecDepth 100000
set_option maxHeartbeats 4000000
theorem fmix : Try.prog.follows .mixedOrders = true := by kernel_rfl
theorem ty3 : TyOk Try.prog 3 (.int .i64) 1 8 (.int .i64 0) := tyOk Try.underlying3 (by kernel_rfl)
theorem ty4 : TyOk Try.prog 4 .bool 1 1 (.bool false) := tyOk Try.underlying4 (by kernel_rfl)
theorem ty5 : TyOk Try.prog 5 (.int .u8) 1 1 (.int .u8 0) := tyOk Try.underlying5 (by kernel_rfl)
theorem ty9 : TyOk Try.prog 9 .string 1 16 (.string ⟨#[]⟩) := tyOk Try.underlying9 (by kernel_rfl)
theorem ty22 : TyOk Try.prog 22 (.slice 37) 1 24 (.slice none 0 0) := tyOk Try.underlying22 (by kernel_rfl)
theorem ty25 : TyOk Try.prog 25 (.int .u64) 1 8 (.int .u64 0) := tyOk Try.underlying25 (by kernel_rfl)
theorem ty26 : TyOk Try.prog 26 (.slice 25) 1 24 (.slice none 0 0) := tyOk Try.underlying26 (by kernel_rfl)
theorem ty28 : TyOk Try.prog 28 (.struct #[(Field.mk "Offset" 3 0 false "" "" 0), (Field.mk "Counts" 26 1 false "" "" 8)]) 2 32 (.agg #[(.int .i64 0), (.slice none 0 0)]) := tyOk Try.underlying28 (by kernel_rfl)
theorem ty30 : TyOk Try.prog 30 (.struct #[(Field.mk "Scale" 3 0 false "" "" 0), (Field.mk "Zero" 25 1 false "" "" 8), (Field.mk "Pos" 28 2 false "" "" 16), (Field.mk "Neg" 28 4 false "" "" 48)]) 6 80 (.agg #[(.int .i64 0), (.int .u64 0), (.int .i64 0), (.slice none 0 0), (.int .i64 0), (.slice none 0 0)]) := tyOk Try.underlying30 (by kernel_rfl)
theorem ty32 : TyOk Try.prog 32 (.struct #[(Field.mk "Some" 4 0 false "" "" 0), (Field.mk "Start" 3 1 false "" "" 8), (Field.mk "Time" 3 2 false "" "" 16), (Field.mk "Int" 3 3 false "" "" 24), (Field.mk "Re" 25 4 false "" "" 32), (Field.mk "Im" 25 5 false "" "" 40), (Field.mk "Hist" 30 6 false "" "" 48)]) 12 128 (.agg #[(.bool false), (.int .i64 0), (.int .i64 0), (.int .i64 0), (.int .u64 0), (.int .u64 0), (.int .i64 0), (.int .u64 0), (.int .i64 0), (.slice none 0 0), (.int .i64 0), (.slice none 0 0)]) := tyOk Try.underlying32 (by kernel_rfl)
theorem ty35 : TyOk Try.prog 35 (.slice 107) 1 24 (.slice none 0 0) := tyOk Try.underlying35 (by kernel_rfl)
theorem ty37 : TyOk Try.prog 37 (.struct #[(Field.mk "Name" 9 0 false "" "" 0), (Field.mk "Attrs" 35 1 false "" "" 16), (Field.mk "Kind" 3 2 false "" "" 40), (Field.mk "Temp" 3 3 false "" "" 48), (Field.mk "Mono" 4 4 false "" "" 56), (Field.mk "Start" 3 5 false "" "" 64), (Field.mk "Time" 3 6 false "" "" 72), (Field.mk "Int" 3 7 false "" "" 80), (Field.mk "Re" 25 8 false "" "" 88), (Field.mk "Im" 25 9 false "" "" 96), (Field.mk "Hist" 30 10 false "" "" 104), (Field.mk "Flags" 3 16 false "" "" 184)]) 17 192 (.agg #[(.string ⟨#[]⟩), (.slice none 0 0), (.int .i64 0), (.int .i64 0), (.bool false), (.int .i64 0), (.int .i64 0), (.int .i64 0), (.int .u64 0), (.int .u64 0), (.int .i64 0), (.int .u64 0), (.int .i64 0), (.slice none 0 0), (.int .i64 0), (.slice none 0 0), (.int .i64 0)]) := tyOk Try.underlying37 (by kernel_rfl)
theorem ty86 : TyOk Try.prog 86 (.array 2 28) 4 64 (.agg #[(.int .i64 0), (.slice none 0 0), (.int .i64 0), (.slice none 0 0)]) := tyOk Try.underlying86 (by kernel_rfl)
theorem ty92 : TyOk Try.prog 92 (.int .u64) 1 8 (.int .u64 0) := tyOk Try.underlying92 (by kernel_rfl)
theorem ty93 : TyOk Try.prog 93 (.pointer 28) 1 8 (.pointer none) := tyOk Try.underlying93 (by kernel_rfl)
theorem ty94 : TyOk Try.prog 94 (.struct #[(Field.mk "to" 93 0 false "" "limnograph/fold" 0), (Field.mk "a" 28 1 false "" "limnograph/fold" 8), (Field.mk "b" 28 3 false "" "limnograph/fold" 40)]) 5 72 (.agg #[(.pointer none), (.int .i64 0), (.slice none 0 0), (.int .i64 0), (.slice none 0 0)]) := tyOk Try.underlying94 (by kernel_rfl)
theorem ty95 : TyOk Try.prog 95 (.slice 94) 1 24 (.slice none 0 0) := tyOk Try.underlying95 (by kernel_rfl)
theorem ty102 : TyOk Try.prog 102 (.struct #[(Field.mk "i" 3 0 false "" "limnograph/todelta" 0), (Field.mk "re" 25 1 false "" "limnograph/todelta" 8), (Field.mk "im" 25 2 false "" "limnograph/todelta" 16), (Field.mk "h" 30 3 false "" "limnograph/todelta" 24)]) 9 104 (.agg #[(.int .i64 0), (.int .u64 0), (.int .u64 0), (.int .i64 0), (.int .u64 0), (.int .i64 0), (.slice none 0 0), (.int .i64 0), (.slice none 0 0)]) := tyOk Try.underlying102 (by kernel_rfl)
theorem ty107 : TyOk Try.prog 107 (.struct #[(Field.mk "Key" 9 0 false "" "" 0), (Field.mk "Val" 9 1 false "" "" 16)]) 2 32 (.agg #[(.string ⟨#[]⟩), (.string ⟨#[]⟩)]) := tyOk Try.underlying107 (by kernel_rfl)
theorem ty118 : TyOk Try.prog 118 (.array 2 30) 12 160 (.agg #[(.int .i64 0), (.int .u64 0), (.int .i64 0), (.slice none 0 0), (.int .i64 0), (.slice none 0 0), (.int .i64 0), (.int .u64 0), (.int .i64 0), (.slice none 0 0), (.int .i64 0), (.slice none 0 0)]) := tyOk Try.underlying118 (by kernel_rfl)
theorem ty124 : TyOk Try.prog 124 (.slice 5) 1 24 (.slice none 0 0) := tyOk Try.underlying124 (by kernel_rfl)
theorem fo28_0 : FieldOk Try.prog 28 0 0 := fieldOk Try.underlying28 rfl rfl (by kernel_rfl)
theorem fo28_1 : FieldOk Try.prog 28 1 1 := fieldOk Try.underlying28 rfl rfl (by kernel_rfl)
theorem fo30_0 : FieldOk Try.prog 30 0 0 := fieldOk Try.underlying30 rfl rfl (by kernel_rfl)
theorem fo30_1 : FieldOk Try.prog 30 1 1 := fieldOk Try.underlying30 rfl rfl (by kernel_rfl)
theorem fo30_2 : FieldOk Try.prog 30 2 2 := fieldOk Try.underlying30 rfl rfl (by kernel_rfl)
theorem fo30_3 : FieldOk Try.prog 30 3 4 := fieldOk Try.underlying30 rfl rfl (by kernel_rfl)
theorem fo32_0 : FieldOk Try.prog 32 0 0 := fieldOk Try.underlying32 rfl rfl (by kernel_rfl)
theorem fo32_1 : FieldOk Try.prog 32 1 1 := fieldOk Try.underlying32 rfl rfl (by kernel_rfl)
theorem fo32_2 : FieldOk Try.prog 32 2 2 := fieldOk Try.underlying32 rfl rfl (by kernel_rfl)
theorem fo32_3 : FieldOk Try.prog 32 3 3 := fieldOk Try.underlying32 rfl rfl (by kernel_rfl)
theorem fo32_4 : FieldOk Try.prog 32 4 4 := fieldOk Try.underlying32 rfl rfl (by kernel_rfl)
theorem fo32_5 : FieldOk Try.prog 32 5 5 := fieldOk Try.underlying32 rfl rfl (by kernel_rfl)
theorem fo32_6 : FieldOk Try.prog 32 6 6 := fieldOk Try.underlying32 rfl rfl (by kernel_rfl)
theorem fo37_0 : FieldOk Try.prog 37 0 0 := fieldOk Try.underlying37 rfl rfl (by kernel_rfl)
theorem fo37_1 : FieldOk Try.prog 37 1 1 := fieldOk Try.underlying37 rfl rfl (by kernel_rfl)
theorem fo37_2 : FieldOk Try.prog 37 2 2 := fieldOk Try.underlying37 rfl rfl (by kernel_rfl)
theorem fo37_3 : FieldOk Try.prog 37 3 3 := fieldOk Try.underlying37 rfl rfl (by kernel_rfl)
theorem fo37_4 : FieldOk Try.prog 37 4 4 := fieldOk Try.underlying37 rfl rfl (by kernel_rfl)
theorem fo37_5 : FieldOk Try.prog 37 5 5 := fieldOk Try.underlying37 rfl rfl (by kernel_rfl)
theorem fo37_6 : FieldOk Try.prog 37 6 6 := fieldOk Try.underlying37 rfl rfl (by kernel_rfl)
theorem fo37_7 : FieldOk Try.prog 37 7 7 := fieldOk Try.underlying37 rfl rfl (by kernel_rfl)
theorem fo37_8 : FieldOk Try.prog 37 8 8 := fieldOk Try.underlying37 rfl rfl (by kernel_rfl)
theorem fo37_9 : FieldOk Try.prog 37 9 9 := fieldOk Try.underlying37 rfl rfl (by kernel_rfl)
theorem fo37_10 : FieldOk Try.prog 37 10 10 := fieldOk Try.underlying37 rfl rfl (by kernel_rfl)
theorem fo37_11 : FieldOk Try.prog 37 11 16 := fieldOk Try.underlying37 rfl rfl (by kernel_rfl)
theorem fo94_0 : FieldOk Try.prog 94 0 0 := fieldOk Try.underlying94 rfl rfl (by kernel_rfl)
theorem fo94_1 : FieldOk Try.prog 94 1 1 := fieldOk Try.underlying94 rfl rfl (by kernel_rfl)
theorem fo94_2 : FieldOk Try.prog 94 2 3 := fieldOk Try.underlying94 rfl rfl (by kernel_rfl)
theorem fo102_0 : FieldOk Try.prog 102 0 0 := fieldOk Try.underlying102 rfl rfl (by kernel_rfl)
theorem fo102_1 : FieldOk Try.prog 102 1 1 := fieldOk Try.underlying102 rfl rfl (by kernel_rfl)
theorem fo102_2 : FieldOk Try.prog 102 2 2 := fieldOk Try.underlying102 rfl rfl (by kernel_rfl)
theorem fo102_3 : FieldOk Try.prog 102 3 3 := fieldOk Try.underlying102 rfl rfl (by kernel_rfl)
theorem fo107_0 : FieldOk Try.prog 107 0 0 := fieldOk Try.underlying107 rfl rfl (by kernel_rfl)
theorem fo107_1 : FieldOk Try.prog 107 1 1 := fieldOk Try.underlying107 rfl rfl (by kernel_rfl)
theorem x64_58 : X64 Try.prog 58 := x64 Try.func58 (by kernel_rfl) rfl (by kernel_rfl) (by kernel_rfl)
theorem xfrom_95 : XFrom Try.prog 95 := xfrom Try.func95 (by kernel_rfl) rfl (by kernel_rfl) (by kernel_rfl)
theorem xbits_115 : XBits Try.prog 115 := xbits Try.func115 (by kernel_rfl) rfl (by kernel_rfl) (by kernel_rfl)
theorem kok11 : CallOk Try.prog 11 := callOk Try.func11 (by kernel_rfl) rfl
theorem kok12 : CallOk Try.prog 12 := callOk Try.func12 (by kernel_rfl) rfl
theorem kok13 : CallOk Try.prog 13 := callOk Try.func13 (by kernel_rfl) rfl
theorem kok14 : CallOk Try.prog 14 := callOk Try.func14 (by kernel_rfl) rfl
theorem kok17 : CallOk Try.prog 17 := callOk Try.func17 (by kernel_rfl) rfl
theorem kok18 : CallOk Try.prog 18 := callOk Try.func18 (by kernel_rfl) rfl
theorem kok26 : CallOk Try.prog 26 := callOk Try.func26 (by kernel_rfl) rfl
theorem kok27 : CallOk Try.prog 27 := callOk Try.func27 (by kernel_rfl) rfl
theorem kok28 : CallOk Try.prog 28 := callOk Try.func28 (by kernel_rfl) rfl
theorem kok31 : CallOk Try.prog 31 := callOk Try.func31 (by kernel_rfl) rfl
theorem kok32 : CallOk Try.prog 32 := callOk Try.func32 (by kernel_rfl) rfl
theorem kok33 : CallOk Try.prog 33 := callOk Try.func33 (by kernel_rfl) rfl
theorem kok34 : CallOk Try.prog 34 := callOk Try.func34 (by kernel_rfl) rfl
theorem kok35 : CallOk Try.prog 35 := callOk Try.func35 (by kernel_rfl) rfl
theorem kok36 : CallOk Try.prog 36 := callOk Try.func36 (by kernel_rfl) rfl
theorem kok37 : CallOk Try.prog 37 := callOk Try.func37 (by kernel_rfl) rfl
theorem kok38 : CallOk Try.prog 38 := callOk Try.func38 (by kernel_rfl) rfl
theorem kok39 : CallOk Try.prog 39 := callOk Try.func39 (by kernel_rfl) rfl
theorem kok40 : CallOk Try.prog 40 := callOk Try.func40 (by kernel_rfl) rfl
theorem kok41 : CallOk Try.prog 41 := callOk Try.func41 (by kernel_rfl) rfl
theorem kok42 : CallOk Try.prog 42 := callOk Try.func42 (by kernel_rfl) rfl
theorem kok43 : CallOk Try.prog 43 := callOk Try.func43 (by kernel_rfl) rfl
theorem kok46 : CallOk Try.prog 46 := callOk Try.func46 (by kernel_rfl) rfl
theorem kok52 : CallOk Try.prog 52 := callOk Try.func52 (by kernel_rfl) rfl
theorem kok56 : CallOk Try.prog 56 := callOk Try.func56 (by kernel_rfl) rfl
theorem kok57 : CallOk Try.prog 57 := callOk Try.func57 (by kernel_rfl) rfl
theorem kok59 : CallOk Try.prog 59 := callOk Try.func59 (by kernel_rfl) rfl
theorem kok60 : CallOk Try.prog 60 := callOk Try.func60 (by kernel_rfl) rfl
theorem kok61 : CallOk Try.prog 61 := callOk Try.func61 (by kernel_rfl) rfl
theorem kok62 : CallOk Try.prog 62 := callOk Try.func62 (by kernel_rfl) rfl
theorem kok63 : CallOk Try.prog 63 := callOk Try.func63 (by kernel_rfl) rfl
theorem kok64 : CallOk Try.prog 64 := callOk Try.func64 (by kernel_rfl) rfl
theorem kok65 : CallOk Try.prog 65 := callOk Try.func65 (by kernel_rfl) rfl
theorem kok66 : CallOk Try.prog 66 := callOk Try.func66 (by kernel_rfl) rfl
theorem kok67 : CallOk Try.prog 67 := callOk Try.func67 (by kernel_rfl) rfl
theorem kok68 : CallOk Try.prog 68 := callOk Try.func68 (by kernel_rfl) rfl
theorem kok69 : CallOk Try.prog 69 := callOk Try.func69 (by kernel_rfl) rfl
theorem kok70 : CallOk Try.prog 70 := callOk Try.func70 (by kernel_rfl) rfl
theorem kok71 : CallOk Try.prog 71 := callOk Try.func71 (by kernel_rfl) rfl
theorem kok72 : CallOk Try.prog 72 := callOk Try.func72 (by kernel_rfl) rfl
theorem kok73 : CallOk Try.prog 73 := callOk Try.func73 (by kernel_rfl) rfl
theorem kok76 : CallOk Try.prog 76 := callOk Try.func76 (by kernel_rfl) rfl
theorem kok87 : CallOk Try.prog 87 := callOk Try.func87 (by kernel_rfl) rfl
theorem kok88 : CallOk Try.prog 88 := callOk Try.func88 (by kernel_rfl) rfl
theorem kok89 : CallOk Try.prog 89 := callOk Try.func89 (by kernel_rfl) rfl
theorem kok90 : CallOk Try.prog 90 := callOk Try.func90 (by kernel_rfl) rfl
theorem kok91 : CallOk Try.prog 91 := callOk Try.func91 (by kernel_rfl) rfl
theorem kok92 : CallOk Try.prog 92 := callOk Try.func92 (by kernel_rfl) rfl
theorem kok93 : CallOk Try.prog 93 := callOk Try.func93 (by kernel_rfl) rfl
theorem kok94 : CallOk Try.prog 94 := callOk Try.func94 (by kernel_rfl) rfl
theorem kok96 : CallOk Try.prog 96 := callOk Try.func96 (by kernel_rfl) rfl
theorem kok97 : CallOk Try.prog 97 := callOk Try.func97 (by kernel_rfl) rfl
theorem kok110 : CallOk Try.prog 110 := callOk Try.func110 (by kernel_rfl) rfl
theorem kok111 : CallOk Try.prog 111 := callOk Try.func111 (by kernel_rfl) rfl
theorem kok114 : CallOk Try.prog 114 := callOk Try.func114 (by kernel_rfl) rfl
theorem kok116 : CallOk Try.prog 116 := callOk Try.func116 (by kernel_rfl) rfl
theorem kok117 : CallOk Try.prog 117 := callOk Try.func117 (by kernel_rfl) rfl
theorem c_hist_sides {A : Nat → Prop} {v0_3 : Value} {v0_5 : Value} {a0 : api_Hist} {w : World} (hs0_3 : Sl Rep.u w A v0_3 a0.Pos.Counts) (hs0_5 : Sl Rep.u w A v0_5 a0.Neg.Counts) {r0 : List api_Side} (h : hist_sides a0 = some r0) : Rets Try.prog 57 [ag [vi a0.Scale, vu a0.Zero, vi a0.Pos.Offset, v0_3, vi a0.Neg.Offset, v0_5]] w (fun v w' => ∃ (H : List Value), v = Value.agg (List.toArray H) ∧ Ext w w' ∧ Rows' rep_api_Side w' (fun k => A k ∨ w.heap.size ≤ k) H r0 ∧ r0.length = 2) := by
 unfold hist_sides at h
 refine Rets.enter Try.func57 z z ?_
 have D : Sl Rep.u w (imm (Lg.O0 A)) v0_3 a0.Pos.Counts := (Sl.start hs0_3)
 have E : Sl Rep.u w (imm (Lg.O0 A)) v0_5 a0.Neg.Counts := (Sl.start hs0_5)
 refine (show WC _ _ _ _ [(0, ag [vi a0.Scale, vu a0.Zero, vi a0.Pos.Offset, v0_3, vi a0.Neg.Offset, v0_5])] _ from ?_)
 refine sq (rg ?_)
 have J := h
 obtain ⟨l, m, o, rfl⟩ := D.shape
 have h := J
 have K := h
 obtain ⟨d, e, j, rfl⟩ := E.shape
 have h := K
 refine WL.box (O := (Lg.O0 A)) 11 [vi a0.Scale, vu a0.Zero, vi a0.Pos.Offset, (Value.slice l m o), vi a0.Neg.Offset, (Value.slice d e j)] z z z ?_
 intro ac Z aa t L
 refine WL.alloc (O := Z) 12 [vi 0, Value.slice none 0 0, vi 0, Value.slice none 0 0] ty86 z z ?_
 intro ad I ab r M
 refine nl (th (sq (rg (wY (yf fo30_2 z) z ?_))))
 have F := L.st r z
 refine wY (yL ty28 z z (F.cells 2 [vi a0.Pos.Offset, (Value.slice l m o)] z) z) z (wY (yf fo30_3 z) z (wY (yL ty28 z z (F.cells 4 [vi a0.Neg.Offset, (Value.slice d e j)] z) z) z (wY (yb (vals := [(0, ag [vi a0.Pos.Offset, (Value.slice l m o)]), (1, ag [vi a0.Neg.Offset, (Value.slice d e j)])]) (cells := [vi a0.Pos.Offset, (Value.slice l m o), vi a0.Neg.Offset, (Value.slice d e j)]) (fe_ z) (by kernel_rfl)) z (WL.store (v := ag [vi a0.Pos.Offset, (Value.slice l m o), vi a0.Neg.Offset, (Value.slice d e j)]) (cells' := [vi a0.Pos.Offset, (Value.slice l m o), vi a0.Neg.Offset, (Value.slice d e j)]) ty86 z z M z (le_ z) z z ?_))))
 intro P C Q
 refine nl (th (rt ?_))
 obtain rfl := some1 h
 have G : Stp [12] (Lg.O0 A) w I P := (tr_ (su_ t z) (tr_ (su_ r z) (su_ C z)))
 have S := D.i t z z
 have T := S.i r z z
 have U := T.i C z z
 have V := E.i t z z
 have W := V.i r z z
 have X := W.i C z z
 exact At.res (.inl z) z (.cell z (Q.runAg 0 [vi a0.Pos.Offset, (Value.slice l m o), vi a0.Neg.Offset, (Value.slice d e j)] ty86 z z z) .nil) ⟨[vi a0.Pos.Offset, (Value.slice l m o), vi a0.Neg.Offset, (Value.slice d e j)], z, (se_ G z z), (Rows'.outI (O' := I) (R := rep_api_Side) ⟨[vi a0.Pos.Offset, (Value.slice l m o)], [vi a0.Neg.Offset, (Value.slice d e j)], z, ⟨[vi a0.Pos.Offset], [(Value.slice l m o)], z, z, ⟨_, z, U⟩⟩, ⟨[vi a0.Neg.Offset, (Value.slice d e j)], [], z, ⟨[vi a0.Neg.Offset], [(Value.slice d e j)], z, z, ⟨_, z, X⟩⟩, z⟩⟩ G low0 O0_A), z⟩
theorem c_hist_Total {A : Nat → Prop} {v0_3 : Value} {v0_5 : Value} {a0 : api_Hist} {w : World} (hs0_3 : Sl Rep.u w A v0_3 a0.Pos.Counts) (hs0_5 : Sl Rep.u w A v0_5 a0.Neg.Counts) {r0 : UInt64} {r1 : Bool} (h : hist_Total a0 = some (r0, r1)) : Rets Try.prog 27 [ag [vi a0.Scale, vu a0.Zero, vi a0.Pos.Offset, v0_3, vi a0.Neg.Offset, v0_5]] w (fun v w' => v = tp [vu r0, vB r1] ∧ Ext w w') := by
 unfold hist_Total at h
 refine Rets.enter Try.func27 z z ?_
 have aj : Sl Rep.u w (imm (Lg.O0 A)) v0_3 a0.Pos.Counts := (Sl.start hs0_3)
 have ak : Sl Rep.u w (imm (Lg.O0 A)) v0_5 a0.Neg.Counts := (Sl.start hs0_5)
 refine (show WC _ _ _ _ [(0, ag [vi a0.Scale, vu a0.Zero, vi a0.Pos.Offset, v0_3, vi a0.Neg.Offset, v0_5])] _ from ?_)
 refine sq (rg ?_)
 have aY := h
 obtain ⟨al, am, an, rfl⟩ := aj.shape
 have h := aY
 have aZ := h
 obtain ⟨ao, ap, aq, rfl⟩ := ak.shape
 have h := aZ
 refine WL.box (O := (Lg.O0 A)) 11 [vi a0.Scale, vu a0.Zero, vi a0.Pos.Offset, (Value.slice al am an), vi a0.Neg.Offset, (Value.slice ao ap aq)] z z z ?_
 intro bF ar bx j au
 refine wY (ya (v := vu 0) z) z (wY (ya z) z (nl (th (sq (rg (wY (yf fo30_1 z) z (wY (yl ty25 z z (au.cell 1 _ z)) z (wY (ya z) z (wY (ya (v := vu 0) z) z ?_)))))))))
 refine nl (th (sq (sq (rg (wY (yL ty30 z z (au.cells 0 [vi a0.Scale, vu a0.Zero, vi a0.Pos.Offset, (Value.slice al am an), vi a0.Neg.Offset, (Value.slice ao ap aq)] z) z) z ?_)))))
 have a1 := aj.i j z z
 have a2 := ak.i j z z
 obtain ⟨bj, a3, h⟩ := bnd h
 refine WL.call (vals := [ag [vi a0.Scale, vu a0.Zero, vi a0.Pos.Offset, (Value.slice al am an), vi a0.Neg.Offset, (Value.slice ao ap aq)]]) kok57 z z (c_hist_sides (A := imm ar) (a0 := a0) a1 a2 a3) ?_
 rintro bz L ⟨d, rfl, a4, bk, bl⟩
 obtain ⟨S, av, aw, T⟩ := adoptE ar (fun k => 1) a4
 have a5 := Rows'.adoptI (O := ar) bk (fun _ hk => hk) (fun _ _ => Nat.le_refl _) av aw
 refine wY (ym z) z (nl (th ?_))
 obtain ⟨bm, h, a6⟩ := bnd h
 refine WC.join (σ := (UInt64 × UInt64 × Own)) (fun x w' => (x.1, x.2.1) = bm ∧ Stp [12] S L x.2.2 w') (fun x => [(4, vu x.1), (5, vu x.2.1)]) ?_ ?_
 ·refine WC.block ?_
  obtain ⟨aR, h, a7⟩ := flow1 h
  obtain ⟨aS, h⟩ := loop_some h
  refine WC.joinB 0 (σ := (UInt64 × UInt64 × Own)) (fun x w' => aR = .go (x.1, x.2.1) ∧ Stp [12] S L x.2.2 w') (fun x => [(4, vu x.1), (5, vu x.2.1)]) ?_ ?_
  ·refine WC.loop (σ := (UInt64 × UInt64 × Int × Own)) (fun x k w' => loopN k (hist_Total_lp1 bj) (x.1, x.2.1, x.2.2.1) = some aR ∧ Stp [12] S L x.2.2.2 w') (fun x => [(4, vu x.1), (5, vu x.2.1), (14, Value.agg (List.toArray d)), (15, vi x.2.2.1)]) (a0.Zero, 0, 0, S) aS (.cons z (.cons z (.cons z (.cons z .nil)))) ⟨h, (sr_ _ _ _)⟩ ?_
   rintro ⟨r, m, e, ax⟩ aS a8 ⟨h, l⟩
   obtain ⟨bn, bG, rfl, h, ay⟩ := rnd1 h
   unfold hist_Total_lp1 at h
   try dsimp only at h l
   refine (show WC _ _ _ _ [(4, vu r), (5, vu m), (14, Value.agg (List.toArray d)), (15, vi e)] _ from ?_)
   refine sq (rg (wY (Y.lss_i z z) z (nl (th (sq ?_)))))
   rcases cnd h with ⟨M, h⟩ | ⟨M, h⟩
   ·refine WC.condT' z M (sk (th (sq (WC.block (sq (rg ?_))))))
    have a9 := Rows'.i a5 l z z
    obtain ⟨o, az, h⟩ := bnd h
    obtain ⟨bA, t, aI⟩ := arrAt (R := rep_api_Side) (w := a8) (A := imm ax) (cells := d) a9 az
    obtain ⟨_, _, rfl, rfl, ⟨bo, rfl, ba⟩⟩ := aI
    replace t : _ = [vi o.Offset, bo] := t
    refine wY (Y.indexArrAg ty86 ty28 z z t az bl) z (WL.alloc (O := ax) 12 [vi 0, Value.slice none 0 0] ty28 z z ?_)
    intro bH bp bB U bb
    have aA := ba.i U z z
    have bc := h
    obtain ⟨V, W, X, rfl⟩ := aA.shape
    have h := bc
    refine WL.store (v := ag [vi o.Offset, (Value.slice V W X)]) (cells' := [vi o.Offset, (Value.slice V W X)]) ty28 z z bb z (le_ z) z z ?_
    intro P Z bd
    refine nl (th (sq (rg (wY (yf fo28_1 z) z (wY (yl ty26 z z (bd.cell 1 _ z)) z ?_)))))
    have aC := aA.i Z z z
    refine wY (Y.len ty26 z aC) z (wY (ym z) z (nl (th ?_)))
    obtain ⟨bq, h, bf⟩ := bnd h
    refine WC.join (σ := (UInt64 × UInt64)) (fun x w' => (x.1, x.2) = bq ∧ P = w') (fun x => [(4, vu x.1), (5, vu x.2), (14, Value.agg (List.toArray d)), (15, vi e)]) ?_ ?_
    ·refine WC.block ?_
     obtain ⟨aT, h, bg⟩ := flow1 h
     obtain ⟨aU, h⟩ := loop_some h
     refine WC.joinB 2 (σ := (UInt64 × UInt64)) (fun x w' => aT = .go (x.1, x.2) ∧ P = w') (fun x => [(4, vu x.1), (5, vu x.2), (14, Value.agg (List.toArray d)), (15, vi e)]) ?_ ?_
     ·refine WC.loop (σ := (UInt64 × UInt64 × Int)) (fun x k w' => loopN k (hist_Total_lp2 o) (x.1, x.2.1, x.2.2) = some aT ∧ P = w') (fun x => [(4, vu x.1), (5, vu x.2.1), (14, Value.agg (List.toArray d)), (15, vi e), (19, (Value.slice V W X)), (20, vi (o.Counts.length : Int)), (21, vi x.2.2)]) (r, m, 0) aU (.cons z (.cons z (.cons z (.cons z (.cons z (.cons z (.cons z .nil))))))) ⟨h, z⟩ ?_
      rintro ⟨aa, G, aW⟩ aU _ ⟨h, rfl⟩
      obtain ⟨br, bC, rfl, h, ab⟩ := rnd1 h
      unfold hist_Total_lp2 at h
      try dsimp only at h
      refine (show WC _ _ _ _ [(4, vu aa), (5, vu G), (14, Value.agg (List.toArray d)), (15, vi e), (19, (Value.slice V W X)), (20, vi (o.Counts.length : Int)), (21, vi aW)] _ from ?_)
      refine sq (rg (wY (Y.lss_i z z) z (nl (th (sq ?_)))))
      rcases cnd h with ⟨C, h⟩ | ⟨C, h⟩
      ·refine WC.condT' z C (sk (th (sq (WC.block (sq (rg ?_))))))
       obtain ⟨bh, aJ, h⟩ := bnd h
       obtain ⟨bD, bs, bt, bw, aK, aL, aM, D, aD, aN⟩ := Sl.at2 aC aJ
       obtain rfl := aD
       replace D : CellsAt _ _ _ [vu bh] := D
       have aE := CAt.imm D aN
       refine wY (Y.indexAddr ty26 ty25 z aK z aL aM) z (wY (yl ty25 z z aE.at_) z (wY (ya z) z (nl (th (sq (rg (wY (ya (v := vu 0) z) z (nl (th ?_)))))))))
       refine sq (rg (wY (ym z) z (wY (ym z) z (wY (Y.add64 (c := 0) x64_58 (by decide) z z z) z (wY (ym z) z (wY (yx z z) z (wY (yx z z) z ?_)))))))
       obtain ⟨aF, ah, h⟩ := lt1 h
       refine WL.yE (ya z) (congrArg vu ah.symm) z ?_
       obtain ⟨bi, H, h⟩ := lt1 h
       refine WL.yE (ya z) (congrArg vu H.symm) z (nl (th (rg (wY (ym z) z (wY (ym z) z (wY (Y.or_u z z) z ?_))))))
       obtain ⟨ai, Q, h⟩ := lt1 h
       refine WL.yE (ya z) (congrArg vu Q.symm) z (nl (At.inBlock (th (rg (wY (Y.add_i z z) z (wY (ym z) z (nl ?_)))))))
       exact At.round (aF, ai, w64 (aW + 1)) br (Nat.lt_succ_self _) ⟨next1 h ab, z⟩ (.cons z (.cons z (.cons z (.cons z (.cons z (.cons z (.cons z .nil)))))))
      ·refine WC.condF' z C (WC.exit (At.thenX (At.loopX ?_)))
       exact At.hitB (σ := (UInt64 × UInt64)) (aa, G) ⟨brk1 h ab, z⟩ (.cons z (.cons z (.cons z (.cons z .nil))))
     ·rintro ⟨ac, I⟩ _ ⟨rfl, rfl⟩
      replace h := flowK_go bg
      try dsimp only at h
      refine (show At _ _ _ [(4, vu ac), (5, vu I), (14, Value.agg (List.toArray d)), (15, vi e)] _ from ?_)
      refine At.inBlockHit ?_
      exact At.join (σ := (UInt64 × UInt64)) (ac, I) ⟨some1 h, z⟩ (.cons z (.cons z (.cons z (.cons z .nil))))
    ·rintro ⟨ad, J⟩ _ ⟨rfl, rfl⟩
     replace h := bf
     try dsimp only at h
     refine (show At _ _ _ [(4, vu ad), (5, vu J), (14, Value.agg (List.toArray d)), (15, vi e)] _ from ?_)
     refine At.inBlock (th (rg (wY (Y.add_i z z) z (wY (ym z) z (nl ?_)))))
     exact At.round (ad, J, w64 (e + 1), bp) bn (Nat.lt_succ_self _) ⟨next1 h ay, (tr_ (su_ l z) (tr_ (su_ U z) (su_ Z z)))⟩ (.cons z (.cons z (.cons z (.cons z .nil))))
   ·refine WC.condF' z M (WC.exit (At.thenX (At.loopX ?_)))
    exact At.hitB (σ := (UInt64 × UInt64 × Own)) (r, m, ax) ⟨brk1 h ay, (su_ l z)⟩ (.cons z (.cons z .nil))
  ·rintro ⟨ae, K, bu⟩ bE ⟨rfl, af⟩
   replace h := flowK_go a7
   try dsimp only at h af
   refine (show At _ _ _ [(4, vu ae), (5, vu K)] _ from ?_)
   refine At.inBlockHit ?_
   exact At.join (σ := (UInt64 × UInt64 × Own)) (ae, K, bu) ⟨some1 h, (su_ af z)⟩ (.cons z (.cons z .nil))
 ·rintro ⟨aO, aG, aX⟩ aH ⟨rfl, E⟩
  replace h := a6
  try dsimp only at h E
  refine (show At _ _ _ [(4, vu aO), (5, vu aG)] _ from ?_)
  refine th (sq (sq (rg (wY (ym z) z (wY (Y.neq_u (b := 0) z z) z (nl (th ?_)))))))
  rcases cnd h with ⟨F, h⟩ | ⟨F, h⟩
  ·refine WC.condT' z F (sq (rg (wY (ya (v := vu 0) z) z (wY (ya z) z (nl (th (rt (At.thenR ?_))))))))
   obtain ⟨rfl, rfl⟩ := tup2 h
   have aP : Stp [12] (Lg.O0 A) w aX aH := (tr_ (su_ j z) (tr_ (su_ T z) (su_ E z)))
   exact At.res (.inl z) z (.tmp z (.tmp z .nil)) ⟨z, (se_ aP z z)⟩
  ·refine WC.condF' z F (sk (th (sq (rg (wY (ym z) z (wY (ya z) z (wY (ya z) z (nl (th ?_)))))))))
   refine rt ?_
   obtain ⟨rfl, rfl⟩ := tup2 h
   have aQ : Stp [12] (Lg.O0 A) w aX aH := (tr_ (su_ j z) (tr_ (su_ T z) (su_ E z)))
   exact At.res (.inl z) z (.tmp z (.tmp z .nil)) ⟨z, (se_ aQ z z)⟩
theorem c_hist_check {A : Nat → Prop} {v0_1 : Value} {a0 : api_Side} {w : World} (hs0_1 : Sl Rep.u w A v0_1 a0.Counts) {r0 : Int} (h : hist_check a0 = some r0) : Rets Try.prog 59 [ag [vi a0.Offset, v0_1]] w (fun v w' => v = vi r0 ∧ Ext w w') := by
 unfold hist_check at h
 refine Rets.enter Try.func59 z z ?_
 have L : Sl Rep.u w (imm (Lg.O0 A)) v0_1 a0.Counts := (Sl.start hs0_1)
 refine (show WC _ _ _ _ [(0, ag [vi a0.Offset, v0_1])] _ from ?_)
 refine sq (rg ?_)
 have V := h
 obtain ⟨av, aw, ax, rfl⟩ := L.shape
 have h := V
 refine WL.box (O := (Lg.O0 A)) 11 [vi a0.Offset, (Value.slice av aw ax)] z z z ?_
 intro K m e j l
 refine wY (ya z) z (nl (th (sq (rg (wY (yf fo28_1 z) z (wY (yl ty26 z z (l.cell 1 _ z)) z ?_))))))
 have o := L.i j z z
 refine wY (Y.len ty26 z o) z ?_
 obtain ⟨d, M, h⟩ := lt1 h
 refine WL.yE (ya z) (congrArg vi M.symm) z (nl (th (sq (WC.block (sq (rg (wY (ym z) z (wY (Y.gtr_i z z) z ?_))))))))
 obtain ⟨aI, W, h⟩ := lt1 h
 refine WL.yE (ya z) (congrArg vB W.symm) z (nl (th ?_))
 rcases cnd h with ⟨r, h⟩ | ⟨r, h⟩
 ·refine WC.condT' z r (sq (rg (wY (ya z) z (nl (th (rt (At.inBlockR (At.thenR ?_))))))))
  obtain rfl := some1 h
  have X : Stp [] (Lg.O0 A) w m e := (su_ j z)
  exact At.res (.inl z) z (.tmp z .nil) ⟨z, (se_ X z z)⟩
 ·refine WC.condF' z r (sq (rg (wY (ym z) z (wY (Y.eql_i z z) z (wY (ym z) z ?_)))))
  refine WL.cut 4 (σ := Unit) (fun _ w' => e = w') (fun _ => [(1, pt K 0), (3, vi d), (17, vB ((decide (d = 0)) && (!decide (a0.Offset = 0))))]) ?_ ?_
  ·refine WL.part 13 z (fun t => ?_) (fun t => ?_)
   ·refine ug z z (wY (yf fo28_0 z) z (ug z z (wY (yl ty3 z z (l.cell 0 _ z)) z (ug z z (wY (Y.neq_i z z) z (wY (Y.pick (b := true) z z) z (WL.ren (v' := vB ((decide (d = 0)) && (!decide (a0.Offset = 0)))) 17 z (congrArg vB (andT t)) ?_)))))))
    exact nl (At.join () z (.cons z (.cons z (.cons z .nil))))
   ·refine WL.gS z z z z (WL.gS z z z z (WL.gS z z z z (wY (Y.pick (b := false) z z) z (WL.ren (v' := vB ((decide (d = 0)) && (!decide (a0.Offset = 0)))) 17 z (congrArg vB (andF t)) ?_))))
    exact nl (At.join () z (.cons z (.cons z (.cons z .nil))))
  ·rintro _ _ rfl
   refine (show WL _ _ _ _ _ [(1, pt K 0), (3, vi d), (17, vB ((decide (d = 0)) && (!decide (a0.Offset = 0))))] _ from ?_)
   obtain ⟨aJ, Z, h⟩ := lt1 h
   refine WL.yE (ya z) (congrArg vB Z.symm) z (nl (th ?_))
   rcases cnd h with ⟨C, h⟩ | ⟨C, h⟩
   ·refine WC.condT' z C (sq (rg (wY (ya z) z (nl (th (rt (At.inBlockR (At.thenR ?_))))))))
    obtain rfl := some1 h
    have aa : Stp [] (Lg.O0 A) w m e := (su_ j z)
    exact At.res (.inl z) z (.tmp z .nil) ⟨z, (se_ aa z z)⟩
   ·refine WC.condF' z C (sq (rg (wY (ym z) z (wY (Y.eql_i z z) z ?_))))
    obtain ⟨aK, ab, h⟩ := lt1 h
    refine WL.yE (ya z) (congrArg vB ab.symm) z (nl (th ?_))
    rcases cnd h with ⟨D, h⟩ | ⟨D, h⟩
    ·refine WC.condT' z D (sq (rg (wY (ya z) z (nl (th (rt (At.inBlockR (At.thenR ?_))))))))
     obtain rfl := some1 h
     have ac : Stp [] (Lg.O0 A) w m e := (su_ j z)
     exact At.res (.inl z) z (.tmp z .nil) ⟨z, (se_ ac z z)⟩
    ·refine WC.condF' z D (sq (rg (wY (yf fo28_1 z) z (wY (yl ty26 z z (l.cell 1 _ z)) z ?_))))
     obtain ⟨ay, ad, h⟩ := bnd h
     obtain ⟨aL, aC, aD, aG, ae, af, ah, E, P, ai⟩ := Sl.at2 o ad
     obtain rfl := P
     replace E : CellsAt _ _ _ [vu ay] := E
     have Q := CAt.imm E ai
     refine wY (Y.indexAddr ty26 ty25 z ae z af ah) z (wY (yl ty25 z z Q.at_) z (wY (Y.eql_u (b := 0) z z) z (wY (ym z) z ?_)))
     obtain ⟨az, h, aj⟩ := bnd h
     refine WL.cut 8 (σ := Bool) (fun x w' => x = az ∧ e = w') (fun x => [(1, pt K 0), (3, vi d), (35, vB x)]) ?_ ?_
     ·rcases cnd h with ⟨F, h⟩ | ⟨F, h⟩
      ·refine WL.ren 27 z (congrArg vB F) (WL.gS z z z z (WL.gS z z z z (WL.gS z z z z (WL.gS z z z z (WL.gS z z z z (WL.gS z z z z (WL.gS z z z z (wY (Y.pick (b := true) z z) z ?_))))))))
       exact nl (At.join (σ := Bool) true ⟨some1 h, z⟩ (.cons z (.cons z (.cons z .nil))))
      ·refine WL.ren 27 z (congrArg vB F) (ug z z (wY (yf fo28_1 z) z (ug z z (wY (yl ty26 z z (l.cell 1 _ z)) z (ug z z (wY (ym z) z (ug z z (wY (Y.sub_i z z) z (ug z z ?_)))))))))
       obtain ⟨U, ak, h⟩ := bnd h
       obtain ⟨aM, aE, aF, aH, al, am, an, G, S, ao⟩ := Sl.at2 o ak
       obtain rfl := S
       replace G : CellsAt _ _ _ [vu U] := G
       have T := CAt.imm G ao
       refine wY (Y.indexAddr ty26 ty25 z al z am an) z (ug z z (wY (yl ty25 z z T.at_) z (ug z z (wY (Y.eql_u (b := 0) z z) z (wY (Y.pick (b := false) z z) z ?_)))))
       exact nl (At.join (σ := Bool) (decide (U = 0)) ⟨some1 h, z⟩ (.cons z (.cons z (.cons z .nil))))
     ·rintro aA _ ⟨rfl, rfl⟩
      replace h := aj
      try dsimp only at h
      refine (show WL _ _ _ _ _ [(1, pt K 0), (3, vi d), (35, vB aA)] _ from ?_)
      refine wY (ya z) z (nl (th ?_))
      rcases cnd h with ⟨H, h⟩ | ⟨H, h⟩
      ·refine WC.condT' z H (sq (rg (wY (ya z) z (nl (th (rt (At.inBlockR (At.thenR ?_))))))))
       obtain rfl := some1 h
       have ap : Stp [] (Lg.O0 A) w m e := (su_ j z)
       exact At.res (.inl z) z (.tmp z .nil) ⟨z, (se_ ap z z)⟩
      ·refine WC.condF' z H (sq (rg (wY (yf fo28_0 z) z (wY (yl ty3 z z (l.cell 0 _ z)) z (wY (Y.lss_i z z) z (wY (ym z) z ?_))))))
       refine WL.cut 7 (σ := Unit) (fun _ w' => e = w') (fun _ => [(47, vB ((decide (a0.Offset < (-1073741824))) || (decide (w64 (1073741824 - (w64 (d - 1))) < a0.Offset))))]) ?_ ?_
       ·refine WL.part 40 z (fun I => ?_) (fun I => ?_)
        ·refine WL.gS z z z z (WL.gS z z z z (WL.gS z z z z (WL.gS z z z z (WL.gS z z z z (WL.gS z z z z (wY (Y.pick (b := true) z z) z (WL.ren (v' := vB ((decide (a0.Offset < (-1073741824))) || (decide (w64 (1073741824 - (w64 (d - 1))) < a0.Offset)))) 47 z (congrArg vB (orT I)) ?_)))))))
         exact nl (At.join () z (.cons z .nil))
        ·refine ug z z (wY (yf fo28_0 z) z (ug z z (wY (yl ty3 z z (l.cell 0 _ z)) z (ug z z (wY (ym z) z (ug z z (wY (Y.sub_i z z) z (ug z z (wY (Y.sub_i z z) z ?_)))))))))
         refine ug z z (wY (Y.gtr_i z z) z (wY (Y.pick (b := false) z z) z (WL.ren (v' := vB ((decide (a0.Offset < (-1073741824))) || (decide (w64 (1073741824 - (w64 (d - 1))) < a0.Offset)))) 47 z (congrArg vB (orF I)) ?_)))
         exact nl (At.join () z (.cons z .nil))
       ·rintro _ _ rfl
        refine (show WL _ _ _ _ _ [(47, vB ((decide (a0.Offset < (-1073741824))) || (decide (w64 (1073741824 - (w64 (d - 1))) < a0.Offset))))] _ from ?_)
        obtain ⟨aN, aq, h⟩ := lt1 h
        refine WL.yE (ya z) (congrArg vB aq.symm) z (nl (th ?_))
        rcases cnd h with ⟨J, h⟩ | ⟨J, h⟩
        ·refine WC.condT' z J (sq (rg (wY (ya z) z (nl (th (rt (At.inBlockR (At.thenR ?_))))))))
         obtain rfl := some1 h
         have ar : Stp [] (Lg.O0 A) w m e := (su_ j z)
         exact At.res (.inl z) z (.tmp z .nil) ⟨z, (se_ ar z z)⟩
        ·refine WC.condF' z J (sk (At.inBlock (th (sq (rg (wY (ya z) z (nl (th (rt ?_)))))))))
         obtain rfl := some1 h
         have au : Stp [] (Lg.O0 A) w m e := (su_ j z)
         exact At.res (.inl z) z (.tmp z .nil) ⟨z, (se_ au z z)⟩
theorem c_hist_Check {A : Nat → Prop} {v0_3 : Value} {v0_5 : Value} {a0 : api_Hist} {w : World} (hs0_3 : Sl Rep.u w A v0_3 a0.Pos.Counts) (hs0_5 : Sl Rep.u w A v0_5 a0.Neg.Counts) {r0 : Int} (h : hist_Check a0 = some r0) : Rets Try.prog 28 [ag [vi a0.Scale, vu a0.Zero, vi a0.Pos.Offset, v0_3, vi a0.Neg.Offset, v0_5]] w (fun v w' => v = vi r0 ∧ Ext w w') := by
 unfold hist_Check at h
 refine Rets.enter Try.func28 z z ?_
 have ae : Sl Rep.u w (imm (Lg.O0 A)) v0_3 a0.Pos.Counts := (Sl.start hs0_3)
 have af : Sl Rep.u w (imm (Lg.O0 A)) v0_5 a0.Neg.Counts := (Sl.start hs0_5)
 refine (show WC _ _ _ _ [(0, ag [vi a0.Scale, vu a0.Zero, vi a0.Pos.Offset, v0_3, vi a0.Neg.Offset, v0_5])] _ from ?_)
 refine sq (rg ?_)
 have aG := h
 obtain ⟨F, G, H, rfl⟩ := ae.shape
 have h := aG
 have aH := h
 obtain ⟨I, J, K, rfl⟩ := af.shape
 have h := aH
 refine WL.box (O := (Lg.O0 A)) 11 [vi a0.Scale, vu a0.Zero, vi a0.Pos.Offset, (Value.slice F G H), vi a0.Neg.Offset, (Value.slice I J K)] z z z ?_
 intro m W ah d r
 refine wY (ya z) z (nl (th (sq (sq (rg (wY (yf fo30_0 z) z (wY (yl ty3 z z (r.cell 0 _ z)) z (wY (Y.lss_i z z) z (wY (ym z) z ?_)))))))))
 refine WL.cut 4 (σ := Unit) (fun _ w' => ah = w') (fun _ => [(1, pt m 0), (15, vB ((decide (a0.Scale < (-10))) || (decide (20 < a0.Scale))))]) ?_ ?_
 ·refine WL.part 11 z (fun M => ?_) (fun M => ?_)
  ·refine WL.gS z z z z (WL.gS z z z z (WL.gS z z z z (wY (Y.pick (b := true) z z) z (WL.ren (v' := vB ((decide (a0.Scale < (-10))) || (decide (20 < a0.Scale)))) 15 z (congrArg vB (orT M)) ?_))))
   exact nl (At.join () z (.cons z (.cons z .nil)))
  ·refine ug z z (wY (yf fo30_0 z) z (ug z z (wY (yl ty3 z z (r.cell 0 _ z)) z (ug z z (wY (Y.gtr_i z z) z (wY (Y.pick (b := false) z z) z (WL.ren (v' := vB ((decide (a0.Scale < (-10))) || (decide (20 < a0.Scale)))) 15 z (congrArg vB (orF M)) ?_)))))))
   exact nl (At.join () z (.cons z (.cons z .nil)))
 ·rintro _ _ rfl
  refine (show WL _ _ _ _ _ [(1, pt m 0), (15, vB ((decide (a0.Scale < (-10))) || (decide (20 < a0.Scale))))] _ from ?_)
  refine nl (th ?_)
  rcases cnd h with ⟨P, h⟩ | ⟨P, h⟩
  ·refine WC.condT' z P (sq (rg (wY (ya z) z (nl (th (rt (At.thenR ?_)))))))
   obtain rfl := some1 h
   have aI : Stp [] (Lg.O0 A) w W ah := (su_ d z)
   exact At.res (.inl z) z (.tmp z .nil) ⟨z, (se_ aI z z)⟩
  ·refine WC.condF' z P (sk (th (sq (sq (rg (wY (yL ty30 z z (r.cells 0 [vi a0.Scale, vu a0.Zero, vi a0.Pos.Offset, (Value.slice F G H), vi a0.Neg.Offset, (Value.slice I J K)] z) z) z ?_))))))
   have ai := ae.i d z z
   have aj := af.i d z z
   obtain ⟨a6, aJ, h⟩ := bnd h
   refine WL.call (vals := [ag [vi a0.Scale, vu a0.Zero, vi a0.Pos.Offset, (Value.slice F G H), vi a0.Neg.Offset, (Value.slice I J K)]]) kok57 z z (c_hist_sides (A := imm W) (a0 := a0) ai aj aJ) ?_
   rintro bj Q ⟨S, rfl, aK, a7, a8⟩
   obtain ⟨X, ak, al, e⟩ := adoptE W (fun k => 1) aK
   have aL := Rows'.adoptI (O := W) a7 (fun _ hk => hk) (fun _ _ => Nat.le_refl _) ak al
   refine wY (ym z) z (nl (th ?_))
   obtain ⟨a9, h, am⟩ := flow1 h
   refine WC.join (σ := Own) (fun x w' => a9 = .go () ∧ Stp [12] X Q x w') (fun x => [(1, pt m 0)]) ?_ ?_
   ·refine WC.block ?_
    obtain ⟨aC, h, an⟩ := flow1 h
    obtain ⟨aD, h⟩ := loop_some h
    refine WC.joinB 0 (σ := Own) (fun x w' => aC = .go () ∧ Stp [12] X Q x w') (fun x => [(1, pt m 0)]) ?_ ?_
    ·refine WC.loop (σ := (Int × Own)) (fun x k w' => loopN k (hist_Check_lp1 a6) x.1 = some aC ∧ Stp [12] X Q x.2 w') (fun x => [(1, pt m 0), (17, Value.agg (List.toArray S)), (18, vi x.1)]) (0, X) aD (.cons z (.cons z (.cons z .nil))) ⟨h, (sr_ _ _ _)⟩ ?_
     rintro ⟨aE, ao⟩ aD aM ⟨h, j⟩
     obtain ⟨ba, bs, rfl, h, T⟩ := rnd1 h
     unfold hist_Check_lp1 at h
     try dsimp only at h j
     refine (show WC _ _ _ _ [(1, pt m 0), (17, Value.agg (List.toArray S)), (18, vi aE)] _ from ?_)
     refine sq (rg (wY (Y.lss_i z z) z (nl (th (sq ?_)))))
     rcases cnd h with ⟨U, h⟩ | ⟨U, h⟩
     ·refine WC.condT' z U (sk (th (sq (WC.block (sq (rg ?_))))))
      have aN := Rows'.i aL j z z
      obtain ⟨o, ap, h⟩ := bnd h
      obtain ⟨bk, t, au⟩ := arrAt (R := rep_api_Side) (w := aM) (A := imm ao) (cells := S) aN ap
      obtain ⟨_, _, rfl, rfl, ⟨bb, rfl, aO⟩⟩ := au
      replace t : _ = [vi o.Offset, bb] := t
      refine wY (Y.indexArrAg ty86 ty28 z z t ap a8) z (WL.alloc (O := ao) 12 [vi 0, Value.slice none 0 0] ty28 z z ?_)
      intro bt bc bl C aP
      have aq := aO.i C z z
      have aQ := h
      obtain ⟨Z, aa, ab, rfl⟩ := aq.shape
      have h := aQ
      refine WL.store (v := ag [vi o.Offset, (Value.slice Z aa ab)]) (cells' := [vi o.Offset, (Value.slice Z aa ab)]) ty28 z z aP z (le_ z) z z ?_
      intro bm D aR
      refine nl (th (sq (rg (wY (yL ty28 z z (aR.cells 0 [vi o.Offset, (Value.slice Z aa ab)] z) z) z ?_))))
      have aS := aq.i D z z
      obtain ⟨bu, aT, h⟩ := bnd h
      refine WL.call (vals := [ag [vi o.Offset, (Value.slice Z aa ab)]]) kok59 z z (c_hist_check (A := fun _ => True) (a0 := o) (Sl.all aS) aT) ?_
      rintro bn aU ⟨rfl, aW⟩
      obtain ⟨aF, bd, bf, ac⟩ := adoptE bc (fun k => 1) aW
      refine wY (ya z) z (nl (th (sq (rg (wY (ym z) z (wY (Y.neq_i z z) z (nl (th ?_))))))))
      rcases cnd h with ⟨V, h⟩ | ⟨V, h⟩
      ·refine WC.condT' z V (sq (rg (wY (ym z) z (wY (ya z) z (nl (th (rt (At.inBlockR (At.thenR ?_)))))))))
       refine At.loopR ?_
       have h := outr1 h T an
       refine At.joinBR (At.inBlockR ?_)
       have h := outs1 h am
       refine At.joinR (At.thenR ?_)
       obtain rfl := some1 h
       have aX : Stp [12] (Lg.O0 A) w aF aU := (tr_ (su_ d z) (tr_ (su_ e z) (tr_ (su_ j z) (tr_ (su_ C z) (tr_ (su_ D z) (su_ ac z))))))
       exact At.res (.inl z) z (.tmp z .nil) ⟨z, (se_ aX z z)⟩
      ·refine WC.condF' z V (sk (At.inBlock (th (rg (wY (Y.add_i z z) z (wY (ym z) z (nl ?_)))))))
       exact At.round (w64 (aE + 1), aF) ba (Nat.lt_succ_self _) ⟨next1 h T, (tr_ (su_ j z) (tr_ (su_ C z) (tr_ (su_ D z) (su_ ac z))))⟩ (.cons z (.cons z (.cons z .nil)))
     ·refine WC.condF' z U (WC.exit (At.thenX (At.loopX ?_)))
      exact At.hitB (σ := Own) ao ⟨brk1 h T, (su_ j z)⟩ (.cons z .nil)
    ·rintro bg bo ⟨rfl, av⟩
     replace h := flowK_go an
     refine (show At _ _ _ [(1, pt m 0)] _ from ?_)
     refine At.inBlockHit ?_
     exact At.join (σ := Own) bg ⟨go2 h, (su_ av z)⟩ (.cons z .nil)
   ·rintro bh bp ⟨rfl, l⟩
    replace h := flowK_go am
    refine (show At _ _ _ [(1, pt m 0)] _ from ?_)
    refine th (sq (sq (rg ?_)))
    have aY := r.st e z
    have aZ := aY.st l z
    refine wY (yL ty30 z z (aZ.cells 0 [vi a0.Scale, vu a0.Zero, vi a0.Pos.Offset, (Value.slice F G H), vi a0.Neg.Offset, (Value.slice I J K)] z) z) z ?_
    have a1 := ai.i e z z
    have a2 := a1.i l z z
    have a3 := aj.i e z z
    have aw := a3.i l z z
    obtain ⟨⟨bq, br⟩, ax, h⟩ := bnd h
    refine WL.call (vals := [ag [vi a0.Scale, vu a0.Zero, vi a0.Pos.Offset, (Value.slice F G H), vi a0.Neg.Offset, (Value.slice I J K)]]) kok27 z z (c_hist_Total (A := fun _ => True) (a0 := a0) (Sl.all a2) (Sl.all aw) ax) ?_
    rintro bi ad ⟨rfl, ay⟩
    obtain ⟨ar, a4, a5, L⟩ := adoptE bh (fun k => 1) ay
    refine wY (ym z) z (wY (yx z z) z (wY (yx z z) z (wY (ya z) z (wY (ya z) z (nl (th (sq (rg (wY (ym z) z ?_)))))))))
    refine wY (Y.not z) z (nl (th ?_))
    rcases cnd h with ⟨E, h⟩ | ⟨E, h⟩
    ·refine WC.condT' z E (sq (rg (wY (ya z) z (nl (th (rt (At.thenR ?_)))))))
     obtain rfl := some1 h
     have az : Stp [12] (Lg.O0 A) w ar ad := (tr_ (su_ d z) (tr_ (su_ e z) (tr_ (su_ l z) (su_ L z))))
     exact At.res (.inl z) z (.tmp z .nil) ⟨z, (se_ az z z)⟩
    ·refine WC.condF' z E (sk (th (sq (rg (wY (ya z) z (nl (th (rt ?_))))))))
     obtain rfl := some1 h
     have aA : Stp [12] (Lg.O0 A) w ar ad := (tr_ (su_ d z) (tr_ (su_ e z) (tr_ (su_ l z) (su_ L z))))
     exact At.res (.inl z) z (.tmp z .nil) ⟨z, (se_ aA z z)⟩
theorem c_label_small {a0 : UInt8} {w : World} {r0 : Bool} (h : label_small a0 = some r0) : Rets Try.prog 93 [vb a0] w (fun v w' => v = vB r0 ∧ Ext w w') := by
 unfold label_small at h
 refine Rets.enter Try.func93 z z ?_
 refine (show WC _ _ _ _ [(0, vb a0)] _ from ?_)
 refine sq (rg (wY (ya z) z (nl (th (sq (rg (wY (ym z) z (wY (Y.geq_b (b := 97) z z) z (wY (ym z) z ?_)))))))))
 refine WL.cut 3 (σ := Unit) (fun _ w' => w = w') (fun _ => [(8, vB ((decide (97 ≤ a0)) && (decide (a0 ≤ 122))))]) ?_ ?_
 ·refine WL.part 5 z (fun d => ?_) (fun d => ?_)
  ·refine ug z z (wY (ym z) z (ug z z (wY (Y.leq_b (b := 122) z z) z (wY (Y.pick (b := true) z z) z (WL.ren (v' := vB ((decide (97 ≤ a0)) && (decide (a0 ≤ 122)))) 8 z (congrArg vB (andT d)) ?_)))))
   exact nl (At.join () z (.cons z .nil))
  ·refine WL.gS z z z z (WL.gS z z z z (wY (Y.pick (b := false) z z) z (WL.ren (v' := vB ((decide (97 ≤ a0)) && (decide (a0 ≤ 122)))) 8 z (congrArg vB (andF d)) ?_)))
   exact nl (At.join () z (.cons z .nil))
 ·rintro _ _ rfl
  refine (show WL _ _ _ _ _ [(8, vB ((decide (97 ≤ a0)) && (decide (a0 ≤ 122))))] _ from ?_)
  obtain ⟨l, e, h⟩ := lt1 h
  refine WL.yE (ya z) (congrArg vB e.symm) z (nl (th (rt ?_)))
  obtain rfl := some1 h
  have j : Stp [] (Lg.O0 (fun _ => False)) w (Lg.O0 (fun _ => False)) w := (sr_ _ _ _)
  exact At.res (.inl z) z (.tmp z .nil) ⟨z, (se_ j z z)⟩
theorem c_label_isName {a0 : List UInt8} {w : World} {r0 : Bool} (h : label_isName a0 = some r0) : Rets Try.prog 67 [vs a0] w (fun v w' => v = vB r0 ∧ Ext w w') := by
 unfold label_isName at h
 refine Rets.enter Try.func67 z z ?_
 refine (show WC _ _ _ _ [(0, vs a0)] _ from ?_)
 refine sq (rg (wY (ya z) z (nl (th (sq (sq (rg (wY (ym z) z (wY (Y.eql_s (b := []) z z) z ?_)))))))))
 refine wY (ym z) z ?_
 refine WL.cut 4 (σ := Unit) (fun _ w' => w = w') (fun _ => [(0, vs a0), (11, vB ((decide (a0 = [])) || (decide (32 < (a0.length : Int)))))]) ?_ ?_
 ·refine WL.part 7 z (fun C => ?_) (fun C => ?_)
  ·refine WL.gS z z z z (WL.gS z z z z (WL.gS z z z z (wY (Y.pick (b := true) z z) z (WL.ren (v' := vB ((decide (a0 = [])) || (decide (32 < (a0.length : Int))))) 11 z (congrArg vB (orT C)) ?_))))
   exact nl (At.join () z (.cons z (.cons z .nil)))
  ·refine ug z z (wY (ym z) z (ug z z (wY (Y.len_s ty9 z) z (ug z z (wY (Y.gtr_i z z) z (wY (Y.pick (b := false) z z) z (WL.ren (v' := vB ((decide (a0 = [])) || (decide (32 < (a0.length : Int))))) 11 z (congrArg vB (orF C)) ?_)))))))
   exact nl (At.join () z (.cons z (.cons z .nil)))
 ·rintro _ _ rfl
  refine (show WL _ _ _ _ _ [(0, vs a0), (11, vB ((decide (a0 = [])) || (decide (32 < (a0.length : Int)))))] _ from ?_)
  refine wY (ym z) z ?_
  obtain ⟨az, h, af⟩ := bnd h
  refine WL.cut 5 (σ := (Bool × Own)) (fun x w' => x.1 = az ∧ Stp [] (Lg.O0 (fun _ => False)) w x.2 w') (fun x => [(0, vs a0), (17, vB x.1)]) ?_ ?_
  ·rcases cnd h with ⟨D, h⟩ | ⟨D, h⟩
   ·refine WL.ren 12 z (congrArg vB D) (WL.gS z z z z (WL.gS z z z z (WL.gS z z z z (WL.gS z z z z (wY (Y.pick (b := true) z z) z ?_)))))
    exact nl (At.join (σ := (Bool × Own)) (true, (Lg.O0 (fun _ => False))) ⟨some1 h, (sr_ _ _ _)⟩ (.cons z (.cons z .nil)))
   ·refine WL.ren 12 z (congrArg vB D) (ug z z (wY (ym z) z (ug z z ?_)))
    obtain ⟨aA, ah, h⟩ := bnd h
    refine wY (Y.index_s ty9 z z ah) z (ug z z ?_)
    obtain ⟨aC, ai, h⟩ := bnd h
    refine WL.call (vals := [vb aA]) kok93 z z (c_label_small ai) ?_
    rintro aN aO ⟨rfl, aj⟩
    obtain ⟨aD, aE, aF, V⟩ := adoptE (Lg.O0 (fun _ => False)) (fun k => 1) aj
    refine ug z z (wY (Y.not z) z (wY (Y.pick (b := false) z z) z ?_))
    exact nl (At.join (σ := (Bool × Own)) ((!aC), aD) ⟨some1 h, (su_ V z)⟩ (.cons z (.cons z .nil)))
  ·rintro ⟨aG, aa⟩ ak ⟨rfl, o⟩
   replace h := af
   try dsimp only at h o
   refine (show WL _ _ _ _ _ [(0, vs a0), (17, vB aG)] _ from ?_)
   refine nl (th ?_)
   rcases cnd h with ⟨E, h⟩ | ⟨E, h⟩
   ·refine WC.condT' z E (sq (rg (wY (ya z) z (nl (th (rt (At.thenR ?_)))))))
    obtain rfl := some1 h
    have al : Stp [] (Lg.O0 (fun _ => False)) w aa ak := (su_ o z)
    exact At.res (.inl z) z (.tmp z .nil) ⟨z, (se_ al z z)⟩
   ·refine WC.condF' z E (sk (th (sq (sq (rg (wY (ym z) z (WL.s2b (O := aa) ty9 ty124 ty5 z z ?_)))))))
    intro j Q S M T
    refine wY (Y.len ty124 z T) z (wY (ym z) z (nl (th (WC.block ?_))))
    obtain ⟨ab, h, U⟩ := flow1 h
    obtain ⟨ac, h⟩ := loop_some h
    refine WC.joinB 0 (σ := Own) (fun x w' => ab = .go () ∧ Stp [] Q S x w') (fun x => []) ?_ ?_
    ·refine WC.loop (σ := (Int × Own)) (fun x k w' => loopN k (label_isName_lp1 a0) x.1 = some ab ∧ Stp [] Q S x.2 w') (fun x => [(19, j), (20, vi (a0.length : Int)), (21, vi x.1)]) (0, Q) ac (.cons z (.cons z (.cons z .nil))) ⟨h, (sr_ _ _ _)⟩ ?_
     rintro ⟨l, ad⟩ ac aP ⟨h, m⟩
     obtain ⟨aH, aS, rfl, h, F⟩ := rnd1 h
     unfold label_isName_lp1 at h
     try dsimp only at h m
     refine (show WC _ _ _ _ [(19, j), (20, vi (a0.length : Int)), (21, vi l)] _ from ?_)
     refine sq (rg (wY (Y.lss_i z z) z (nl (th (sq ?_)))))
     rcases cnd h with ⟨G, h⟩ | ⟨G, h⟩
     ·refine WC.condT' z G (sk (th (sq (WC.block (sq (rg ?_))))))
      obtain ⟨d, am, h⟩ := bnd h
      have an := T.f m z
      obtain ⟨aT, aL, aM, aQ, ao, ap, aq, H, W, ar⟩ := Sl.at2 an am
      obtain rfl := W
      replace H : CellsAt _ _ _ [vb d] := H
      have X := CAt.frs H ar
      refine wY (Y.indexAddr ty124 ty5 z ao z ap aq) z (wY (yl ty5 z z X.at_) z (wY (ya z) z (nl (th (sq (rg (wY (ym z) z ?_)))))))
      obtain ⟨e, au, h⟩ := bnd h
      refine WL.call (vals := [vb d]) kok93 z z (c_label_small au) ?_
      rintro aR r ⟨rfl, av⟩
      obtain ⟨ae, aI, aJ, P⟩ := adoptE ad (fun k => 1) av
      refine wY (Y.not z) z (wY (ym z) z ?_)
      refine WL.cut 7 (σ := Unit) (fun _ w' => r = w') (fun _ => [(4, vb d), (19, j), (20, vi (a0.length : Int)), (21, vi l), (35, vB ((!e) && ((decide (d < 48)) || (decide (57 < d)))))]) ?_ ?_
      ·refine WL.part 28 z (fun I => ?_) (fun I => ?_)
       ·refine ug z z (wY (ym z) z (ug z z (wY (Y.lss_b (b := 48) z z) z (ug z z (wY (ym z) z ?_)))))
        refine WL.cut 3 (σ := Unit) (fun _ w' => r = w') (fun _ => [(4, vb d), (19, j), (20, vi (a0.length : Int)), (21, vi l), (28, vB true), (29, vb d), (30, vB (decide (d < 48))), (31, vB (decide (d < 48))), (34, vB ((decide (d < 48)) || (decide (57 < d))))]) ?_ ?_
        ·refine WL.part 31 z (fun t => ?_) (fun t => ?_)
         ·refine WL.gS z z z z (WL.gS z z z z (ug z z (wY (Y.pick (b := true) z z) z (WL.ren (v' := vB ((decide (d < 48)) || (decide (57 < d)))) 34 z (congrArg vB (orT t)) (WL.ren 31 z (congrArg vB t.symm) ?_)))))
          exact nl (At.join () z (.cons z (.cons z (.cons z (.cons z (.cons z (.cons z (.cons z (.cons z (.cons z .nil))))))))))
         ·refine ug z z (wY (ym z) z (ug z z (wY (Y.gtr_b (b := 57) z z) z (ug z z (wY (Y.pick (b := false) z z) z (WL.ren (v' := vB ((decide (d < 48)) || (decide (57 < d)))) 34 z (congrArg vB (orF t)) (WL.ren 31 z (congrArg vB t.symm) ?_)))))))
          exact nl (At.join () z (.cons z (.cons z (.cons z (.cons z (.cons z (.cons z (.cons z (.cons z (.cons z .nil))))))))))
        ·rintro _ _ rfl
         refine (show WL _ _ _ _ _ [(4, vb d), (19, j), (20, vi (a0.length : Int)), (21, vi l), (28, vB true), (29, vb d), (30, vB (decide (d < 48))), (31, vB (decide (d < 48))), (34, vB ((decide (d < 48)) || (decide (57 < d))))] _ from ?_)
         refine wY (Y.pick (b := true) z z) z (WL.ren (v' := vB ((!e) && ((decide (d < 48)) || (decide (57 < d))))) 35 z (congrArg vB (andT I)) ?_)
         exact nl (At.join () z (.cons z (.cons z (.cons z (.cons z (.cons z .nil))))))
       ·refine WL.gS z z z z (WL.gS z z z z (WL.gS z z z z (WL.gS z z z z (WL.gS z z z z (WL.gS z z z z (wY (Y.pick (b := false) z z) z (WL.ren (v' := vB ((!e) && ((decide (d < 48)) || (decide (57 < d))))) 35 z (congrArg vB (andF I)) ?_)))))))
        exact nl (At.join () z (.cons z (.cons z (.cons z (.cons z (.cons z .nil))))))
      ·rintro _ _ rfl
       refine (show WL _ _ _ _ _ [(4, vb d), (19, j), (20, vi (a0.length : Int)), (21, vi l), (35, vB ((!e) && ((decide (d < 48)) || (decide (57 < d)))))] _ from ?_)
       refine wY (ym z) z ?_
       refine WL.cut 3 (σ := Unit) (fun _ w' => r = w') (fun _ => [(4, vb d), (19, j), (20, vi (a0.length : Int)), (21, vi l), (39, vB (((!e) && ((decide (d < 48)) || (decide (57 < d)))) && (!decide (d = 95))))]) ?_ ?_
       ·refine WL.part 36 z (fun J => ?_) (fun J => ?_)
        ·refine ug z z (wY (ym z) z (ug z z (wY (Y.neq_b (b := 95) z z) z (wY (Y.pick (b := true) z z) z (WL.ren (v' := vB (((!e) && ((decide (d < 48)) || (decide (57 < d)))) && (!decide (d = 95)))) 39 z (congrArg vB (andT J)) ?_)))))
         exact nl (At.join () z (.cons z (.cons z (.cons z (.cons z (.cons z .nil))))))
        ·refine WL.gS z z z z (WL.gS z z z z (wY (Y.pick (b := false) z z) z (WL.ren (v' := vB (((!e) && ((decide (d < 48)) || (decide (57 < d)))) && (!decide (d = 95)))) 39 z (congrArg vB (andF J)) ?_)))
         exact nl (At.join () z (.cons z (.cons z (.cons z (.cons z (.cons z .nil))))))
       ·rintro _ _ rfl
        refine (show WL _ _ _ _ _ [(4, vb d), (19, j), (20, vi (a0.length : Int)), (21, vi l), (39, vB (((!e) && ((decide (d < 48)) || (decide (57 < d)))) && (!decide (d = 95))))] _ from ?_)
        refine wY (ym z) z ?_
        refine WL.cut 3 (σ := Unit) (fun _ w' => r = w') (fun _ => [(19, j), (20, vi (a0.length : Int)), (21, vi l), (43, vB ((((!e) && ((decide (d < 48)) || (decide (57 < d)))) && (!decide (d = 95))) && (!decide (d = 46))))]) ?_ ?_
        ·refine WL.part 40 z (fun K => ?_) (fun K => ?_)
         ·refine ug z z (wY (ym z) z (ug z z (wY (Y.neq_b (b := 46) z z) z (wY (Y.pick (b := true) z z) z (WL.ren (v' := vB ((((!e) && ((decide (d < 48)) || (decide (57 < d)))) && (!decide (d = 95))) && (!decide (d = 46)))) 43 z (congrArg vB (andT K)) ?_)))))
          exact nl (At.join () z (.cons z (.cons z (.cons z (.cons z .nil)))))
         ·refine WL.gS z z z z (WL.gS z z z z (wY (Y.pick (b := false) z z) z (WL.ren (v' := vB ((((!e) && ((decide (d < 48)) || (decide (57 < d)))) && (!decide (d = 95))) && (!decide (d = 46)))) 43 z (congrArg vB (andF K)) ?_)))
          exact nl (At.join () z (.cons z (.cons z (.cons z (.cons z .nil)))))
        ·rintro _ _ rfl
         refine (show WL _ _ _ _ _ [(19, j), (20, vi (a0.length : Int)), (21, vi l), (43, vB ((((!e) && ((decide (d < 48)) || (decide (57 < d)))) && (!decide (d = 95))) && (!decide (d = 46))))] _ from ?_)
         refine nl (th ?_)
         rcases cnd h with ⟨L, h⟩ | ⟨L, h⟩
         ·refine WC.condT' z L (sq (rg (wY (ya z) z (nl (th (rt (At.inBlockR (At.thenR (At.loopR ?_)))))))))
          have h := outr1 h F U
          refine At.joinBR (At.inBlockR (At.thenR ?_))
          obtain rfl := some1 h
          have aw : Stp [] (Lg.O0 (fun _ => False)) w ae r := (tr_ (su_ o z) (tr_ (su_ M z) (tr_ (su_ m z) (su_ P z))))
          exact At.res (.inl z) z (.tmp z .nil) ⟨z, (se_ aw z z)⟩
         ·refine WC.condF' z L (sk (At.inBlock (th (rg (wY (Y.add_i z z) z (wY (ym z) z (nl ?_)))))))
          exact At.round (w64 (l + 1), ae) aH (Nat.lt_succ_self _) ⟨next1 h F, (tr_ (su_ m z) (su_ P z))⟩ (.cons z (.cons z (.cons z .nil)))
     ·refine WC.condF' z G (WC.exit (At.thenX (At.loopX ?_)))
      exact At.hitB (σ := Own) ad ⟨brk1 h F, (su_ m z)⟩ .nil
    ·rintro aK ax ⟨rfl, Z⟩
     replace h := flowK_go U
     refine (show At _ _ _ [] _ from ?_)
     refine At.inBlockHit (th (sq (rg (wY (ya z) z (nl (th (rt ?_)))))))
     obtain rfl := some1 h
     have ay : Stp [] (Lg.O0 (fun _ => False)) w aK ax := (tr_ (su_ o z) (tr_ (su_ M z) (su_ Z z)))
     exact At.res (.inl z) z (.tmp z .nil) ⟨z, (se_ ay z z)⟩
theorem c_label_isValue {a0 : List UInt8} {w : World} {r0 : Bool} (h : label_isValue a0 = some r0) : Rets Try.prog 68 [vs a0] w (fun v w' => v = vB r0 ∧ Ext w w') := by
 unfold label_isValue at h
 refine Rets.enter Try.func68 z z ?_
 refine (show WC _ _ _ _ [(0, vs a0)] _ from ?_)
 refine sq (rg (wY (ya z) z (nl (th (sq (sq (rg (wY (ym z) z (wY (Y.eql_s (b := []) z z) z ?_)))))))))
 refine wY (ym z) z ?_
 refine WL.cut 4 (σ := Unit) (fun _ w' => w = w') (fun _ => [(0, vs a0), (11, vB ((decide (a0 = [])) || (decide (32 < (a0.length : Int)))))]) ?_ ?_
 ·refine WL.part 7 z (fun l => ?_) (fun l => ?_)
  ·refine WL.gS z z z z (WL.gS z z z z (WL.gS z z z z (wY (Y.pick (b := true) z z) z (WL.ren (v' := vB ((decide (a0 = [])) || (decide (32 < (a0.length : Int))))) 11 z (congrArg vB (orT l)) ?_))))
   exact nl (At.join () z (.cons z (.cons z .nil)))
  ·refine ug z z (wY (ym z) z (ug z z (wY (Y.len_s ty9 z) z (ug z z (wY (Y.gtr_i z z) z (wY (Y.pick (b := false) z z) z (WL.ren (v' := vB ((decide (a0 = [])) || (decide (32 < (a0.length : Int))))) 11 z (congrArg vB (orF l)) ?_)))))))
   exact nl (At.join () z (.cons z (.cons z .nil)))
 ·rintro _ _ rfl
  refine (show WL _ _ _ _ _ [(0, vs a0), (11, vB ((decide (a0 = [])) || (decide (32 < (a0.length : Int)))))] _ from ?_)
  refine nl (th ?_)
  rcases cnd h with ⟨m, h⟩ | ⟨m, h⟩
  ·refine WC.condT' z m (sq (rg (wY (ya z) z (nl (th (rt (At.thenR ?_)))))))
   obtain rfl := some1 h
   have T : Stp [] (Lg.O0 (fun _ => False)) w (Lg.O0 (fun _ => False)) w := (sr_ _ _ _)
   exact At.res (.inl z) z (.tmp z .nil) ⟨z, (se_ T z z)⟩
  ·refine WC.condF' z m (sk (th (sq (sq (rg (wY (ym z) z (WL.s2b (O := (Lg.O0 (fun _ => False))) ty9 ty124 ty5 z z ?_)))))))
   intro e P d H I
   refine wY (Y.len ty124 z I) z (wY (ym z) z (nl (th (WC.block ?_))))
   obtain ⟨Q, h, J⟩ := flow1 h
   obtain ⟨S, h⟩ := loop_some h
   refine WC.joinB 0 (σ := Unit) (fun x w' => Q = .go () ∧ d = w') (fun x => []) ?_ ?_
   ·refine WC.loop (σ := Int) (fun x k w' => loopN k (label_isValue_lp1 a0) x = some Q ∧ d = w') (fun x => [(13, e), (14, vi (a0.length : Int)), (15, vi x)]) 0 S (.cons z (.cons z (.cons z .nil))) ⟨h, z⟩ ?_
    rintro j S _ ⟨h, rfl⟩
    obtain ⟨aj, ay, rfl, h, o⟩ := rnd1 h
    unfold label_isValue_lp1 at h
    try dsimp only at h
    refine (show WC _ _ _ _ [(13, e), (14, vi (a0.length : Int)), (15, vi j)] _ from ?_)
    refine sq (rg (wY (Y.lss_i z z) z (nl (th (sq ?_)))))
    rcases cnd h with ⟨r, h⟩ | ⟨r, h⟩
    ·refine WC.condT' z r (sk (th (sq (WC.block (sq (rg ?_))))))
     obtain ⟨ak, U, h⟩ := bnd h
     obtain ⟨az, av, aw, ax, V, W, X, t, L, Z⟩ := Sl.at2 I U
     obtain rfl := L
     replace t : CellsAt _ _ _ [vb ak] := t
     have M := CAt.frs t Z
     refine wY (Y.indexAddr ty124 ty5 z V z W X) z (wY (yl ty5 z z M.at_) z (wY (ya z) z (nl (th ?_))))
     obtain ⟨al, h, K⟩ := flow1 h
     refine WC.join (σ := Unit) (fun x w' => al = .go () ∧ d = w') (fun x => [(13, e), (14, vi (a0.length : Int)), (15, vi j)]) ?_ ?_
     ·refine WC.block (sq ?_)
      obtain ⟨am, h, aa⟩ := bnd h
      refine WC.join (σ := Bool) (fun x w' => x = am ∧ d = w') (fun x => [(13, e), (14, vi (a0.length : Int)), (15, vi j), (19, vB x)]) ?_ ?_
      ·refine sq (rg (wY (ym z) z (wY (Y.lss_b (b := 33) z z) z ?_)))
       obtain ⟨an, ab, h⟩ := lt1 h
       refine WL.yE (ya z) (congrArg vB ab.symm) z (nl (th ?_))
       rcases cnd h with ⟨C, h⟩ | ⟨C, h⟩
       ·refine WC.condT' z C (sk ?_)
        exact At.join (σ := Bool) an ⟨some1 h, z⟩ (.cons z (.cons z (.cons z (.cons z .nil))))
       ·refine WC.condF' z C (sq (rg (wY (ym z) z (wY (Y.gtr_b (b := 126) z z) z ?_))))
        obtain ⟨ao, ac, h⟩ := lt1 h
        refine WL.yE (ya z) (congrArg vB ac.symm) z (nl (th ?_))
        rcases cnd h with ⟨D, h⟩ | ⟨D, h⟩
        ·refine WC.condT' z D (sk ?_)
         exact At.join (σ := Bool) ao ⟨some1 h, z⟩ (.cons z (.cons z (.cons z (.cons z .nil))))
        ·refine WC.condF' z D (sq (rg (wY (ym z) z (wY (Y.eql_b (b := 61) z z) z ?_))))
         obtain ⟨ap, ad, h⟩ := lt1 h
         refine WL.yE (ya z) (congrArg vB ad.symm) z (nl (th ?_))
         rcases cnd h with ⟨E, h⟩ | ⟨E, h⟩
         ·refine WC.condT' z E (sk ?_)
          exact At.join (σ := Bool) ap ⟨some1 h, z⟩ (.cons z (.cons z (.cons z (.cons z .nil))))
         ·refine WC.condF' z E (sq (rg (wY (ym z) z (wY (Y.eql_b (b := 59) z z) z ?_))))
          obtain ⟨aq, ae, h⟩ := lt1 h
          refine WL.yE (ya z) (congrArg vB ae.symm) z (nl (th ?_))
          rcases cnd h with ⟨F, h⟩ | ⟨F, h⟩
          ·refine WC.condT' z F (sk ?_)
           exact At.join (σ := Bool) aq ⟨some1 h, z⟩ (.cons z (.cons z (.cons z (.cons z .nil))))
          ·refine WC.condF' z F (rg (wY (ym z) z (wY (Y.eql_b (b := 44) z z) z ?_)))
           obtain ⟨ar, af, h⟩ := lt1 h
           refine WL.yE (ya z) (congrArg vB af.symm) z (nl ?_)
           exact At.join (σ := Bool) ar ⟨some1 h, z⟩ (.cons z (.cons z (.cons z (.cons z .nil))))
      ·rintro au _ ⟨rfl, rfl⟩
       replace h := aa
       try dsimp only at h
       refine (show At _ _ _ [(13, e), (14, vi (a0.length : Int)), (15, vi j), (19, vB au)] _ from ?_)
       refine th ?_
       rcases cnd h with ⟨G, h⟩ | ⟨G, h⟩
       ·refine WC.condT' z G (sq (rg (wY (ya z) z (nl (th (rt (At.inBlockR ?_)))))))
        have h := outs1 h K
        refine At.joinR (At.inBlockR (At.thenR (At.loopR ?_)))
        have h := outr1 h o J
        refine At.joinBR (At.inBlockR (At.thenR ?_))
        obtain rfl := some1 h
        have ah : Stp [] (Lg.O0 (fun _ => False)) w P d := (su_ H z)
        exact At.res (.inl z) z (.tmp z .nil) ⟨z, (se_ ah z z)⟩
       ·refine WC.condF' z G (sk (At.inBlock ?_))
        exact At.join (σ := Unit) () ⟨go2 h, z⟩ (.cons z (.cons z (.cons z .nil)))
     ·rintro _ _ ⟨rfl, rfl⟩
      replace h := flowK_go K
      refine (show At _ _ _ [(13, e), (14, vi (a0.length : Int)), (15, vi j)] _ from ?_)
      refine At.inBlock (th (rg (wY (Y.add_i z z) z (wY (ym z) z (nl ?_)))))
      exact At.round (w64 (j + 1)) aj (Nat.lt_succ_self _) ⟨next1 h o, z⟩ (.cons z (.cons z (.cons z .nil)))
    ·refine WC.condF' z r (WC.exit (At.thenX (At.loopX ?_)))
     exact At.hitB (σ := Unit) () ⟨brk1 h o, z⟩ .nil
   ·rintro _ _ ⟨rfl, rfl⟩
    replace h := flowK_go J
    refine (show At _ _ _ [] _ from ?_)
    refine At.inBlockHit (th (sq (rg (wY (ya z) z (nl (th (rt ?_)))))))
    obtain rfl := some1 h
    have ai : Stp [] (Lg.O0 (fun _ => False)) w P d := (su_ H z)
    exact At.res (.inl z) z (.tmp z .nil) ⟨z, (se_ ai z z)⟩
theorem c_label_Check {A : Nat → Prop} {a0 : List UInt8} {a1 : List api_Pair} {v1 : Value} {w : World} (hs1 : Sl rep_api_Pair w A v1 a1) {r0 : Int} (h : label_Check a0 a1 = some r0) : Rets Try.prog 35 [vs a0, v1] w (fun v w' => v = vi r0 ∧ Ext w w') := by
 unfold label_Check at h
 refine Rets.enter Try.func35 z z ?_
 have a2 : Sl rep_api_Pair w (imm (Lg.O0 A)) v1 a1 := (Sl.start hs1)
 refine (show WC _ _ _ _ [(0, vs a0), (1, v1)] _ from ?_)
 refine sq (rg (wY (ya z) z (nl (th (sq (sq (rg (wY (ym z) z ?_))))))))
 obtain ⟨ch, a3, h⟩ := bnd h
 refine WL.call (vals := [vs a0]) kok67 z z (c_label_isName a3) ?_
 rintro b6 K ⟨rfl, a4⟩
 obtain ⟨U, bH, bI, l⟩ := adoptE (Lg.O0 A) (fun k => 1) a4
 refine wY (Y.not z) z (nl (th ?_))
 rcases cnd h with ⟨X, h⟩ | ⟨X, h⟩
 ·refine WC.condT' z X (sq (rg (wY (ya z) z (nl (th (rt (At.thenR ?_)))))))
  obtain rfl := some1 h
  have a5 : Stp [] (Lg.O0 A) w U K := (su_ l z)
  exact At.res (.inl z) z (.tmp z .nil) ⟨z, (se_ a5 z z)⟩
 ·refine WC.condF' z X (sk (th (sq (sq (rg (wY (ym z) z ?_))))))
  have Z := a2.i l z z
  refine wY (Y.len ty35 z Z) z (wY (Y.gtr_i z z) z (nl (th ?_)))
  rcases cnd h with ⟨aa, h⟩ | ⟨aa, h⟩
  ·refine WC.condT' z aa (sq (rg (wY (ya z) z (nl (th (rt (At.thenR ?_)))))))
   obtain rfl := some1 h
   have a6 : Stp [] (Lg.O0 A) w U K := (su_ l z)
   exact At.res (.inl z) z (.tmp z .nil) ⟨z, (se_ a6 z z)⟩
  ·refine WC.condF' z aa (sk (th (sq (sq (rg (wY (ym z) z (wY (Y.len ty35 z Z) z (wY (ym z) z (nl ?_)))))))))
   refine th (WC.block ?_)
   obtain ⟨aW, h, ab⟩ := flow1 h
   obtain ⟨aX, h⟩ := loop_some h
   refine WC.joinB 0 (σ := Own) (fun x w' => aW = .go () ∧ Stp [11] U K x w') (fun x => []) ?_ ?_
   ·refine WC.loop (σ := (Int × Own)) (fun x k w' => loopN k (label_Check_lp1 a1) x.1 = some aW ∧ Stp [11] U K x.2 w') (fun x => [(1, v1), (13, v1), (14, vi (a1.length : Int)), (15, vi x.1)]) (0, U) aX (.cons z (.cons z (.cons z (.cons z .nil)))) ⟨h, (sr_ _ _ _)⟩ ?_
    rintro ⟨E, aY⟩ aX b7 ⟨h, m⟩
    obtain ⟨bJ, ci, rfl, h, L⟩ := rnd1 h
    unfold label_Check_lp1 at h
    try dsimp only at h m
    refine (show WC _ _ _ _ [(1, v1), (13, v1), (14, vi (a1.length : Int)), (15, vi E)] _ from ?_)
    refine sq (rg (wY (Y.lss_i z z) z (nl (th (sq ?_)))))
    rcases cnd h with ⟨ac, h⟩ | ⟨ac, h⟩
    ·refine WC.condT' z ac (sk (th (sq (WC.block (sq (rg (wY (ym z) z ?_)))))))
     obtain ⟨t, a7, h⟩ := bnd h
     have al := Z.i m z z
     obtain ⟨cj, bZ, b0, b8, a8, a9, ba, ad, ax, bb⟩ := Sl.at2 al a7
     obtain ⟨_, _, rfl, rfl, rfl⟩ := ax
     replace ad : CellsAt _ _ _ [vs t.Key, vs t.Val] := ad
     have ay := CAt.imm ad bb
     refine wY (Y.indexAddr ty35 ty107 z a8 z a9 ba) z (wY (yL ty107 z z ay.at_ z) z (WL.alloc (O := aY) 11 [vs [], vs []] ty107 z z ?_))
     intro e bK b9 C bc
     refine wY (ya z) z (WL.store (v := ag [vs t.Key, vs t.Val]) (cells' := [vs t.Key, vs t.Val]) ty107 z z bc z (le_ z) z z ?_)
     intro ca D ae
     refine nl (th (sq (sq (rg (wY (yf fo107_0 z) z (wY (yl ty9 z z (ae.cell 0 _ z)) z ?_))))))
     obtain ⟨ck, bd, h⟩ := bnd h
     refine WL.call (vals := [vs t.Key]) kok67 z z (c_label_isName bd) ?_
     rintro cb bf ⟨rfl, bg⟩
     obtain ⟨am, bL, bM, o⟩ := adoptE bK (fun k => 1) bg
     refine wY (Y.not z) z (wY (ym z) z ?_)
     obtain ⟨bO, h, bh⟩ := bnd h
     refine WL.cut 5 (σ := (Bool × Own)) (fun x w' => x.1 = bO ∧ Stp [] am bf x.2 w') (fun x => [(1, v1), (5, vi E), (6, pt e 0), (13, v1), (14, vi (a1.length : Int)), (15, vi E), (29, vB x.1)]) ?_ ?_
     ·rcases cnd h with ⟨af, h⟩ | ⟨af, h⟩
      ·refine WL.ren 24 z (congrArg vB af) (WL.gS z z z z (WL.gS z z z z (WL.gS z z z z (WL.gS z z z z (wY (Y.pick (b := true) z z) z ?_)))))
       exact nl (At.join (σ := (Bool × Own)) (true, am) ⟨some1 h, (sr_ _ _ _)⟩ (.cons z (.cons z (.cons z (.cons z (.cons z (.cons z (.cons z .nil))))))))
      ·refine WL.ren 24 z (congrArg vB af) (ug z z (wY (yf fo107_1 z) z (ug z z ?_)))
       have bi := ae.st o z
       refine wY (yl ty9 z z (bi.cell 1 _ z)) z (ug z z ?_)
       obtain ⟨bP, bj, h⟩ := bnd h
       refine WL.call (vals := [vs t.Val]) kok68 z z (c_label_isValue bj) ?_
       rintro cc cd ⟨rfl, bk⟩
       obtain ⟨bQ, bR, bS, az⟩ := adoptE am (fun k => 1) bk
       refine ug z z (wY (Y.not z) z (wY (Y.pick (b := false) z z) z ?_))
       exact nl (At.join (σ := (Bool × Own)) ((!bP), bQ) ⟨some1 h, (su_ az z)⟩ (.cons z (.cons z (.cons z (.cons z (.cons z (.cons z (.cons z .nil))))))))
     ·rintro ⟨bT, I⟩ F ⟨rfl, r⟩
      replace h := bh
      try dsimp only at h r
      refine (show WL _ _ _ _ _ [(1, v1), (5, vi E), (6, pt e 0), (13, v1), (14, vi (a1.length : Int)), (15, vi E), (29, vB bT)] _ from ?_)
      refine nl (th ?_)
      rcases cnd h with ⟨ah, h⟩ | ⟨ah, h⟩
      ·refine WC.condT' z ah (sq (rg (wY (ya z) z (nl (th (rt (At.thenR (At.inBlockR (At.thenR ?_)))))))))
       refine At.loopR ?_
       have h := outr1 h L ab
       refine At.joinBR (At.inBlockR (At.thenR ?_))
       obtain rfl := some1 h
       have bl : Stp [11] (Lg.O0 A) w I F := (tr_ (su_ l z) (tr_ (su_ m z) (tr_ (su_ C z) (tr_ (su_ D z) (tr_ (su_ o z) (su_ r z))))))
       exact At.res (.inl z) z (.tmp z .nil) ⟨z, (se_ bl z z)⟩
      ·refine WC.condF' z ah (sk (th (sq (rg (wY (ym z) z (wY (ym z) z ?_))))))
       obtain ⟨an, bm, h⟩ := bnd h
       have bn := al.i C z z
       have bo := bn.i D z z
       have bp := bo.i o z z
       have bq := bp.i r z z
       obtain ⟨J, br, ao⟩ := Sl.slice (ρ := [(30, v1), (31, vi E)]) (x := (.tmp 30)) (lo := none) (hi := (some (.tmp 31))) ty35 ty107 rfl rfl rfl bq bm
       refine wY (Y.sub (.cons z (.cons z .nil)) (br _ _)) z (wY (Y.mkfunc (fv := []) (cv := [pt e 0]) z z) z ?_)
       obtain ⟨bs, h, aA⟩ := bnd h
       refine WL.callJ (vals := [J, Value.func (.func 70) (List.toArray []) (List.toArray [pt e 0])]) (σ := (Bool × Own)) (fun x w' => x.1 = bs ∧ Stp [] I F x.2 w') (fun x => vB x.1) kok69 z z ?_ ?_
       ·refine Rets.enter Try.func69 z z ?_
        refine (show WC _ _ _ _ [(0, J), (1, Value.func (.func 70) (List.toArray []) (List.toArray [pt e 0]))] _ from ?_)
        refine sq (rg (wY (ya z) z (nl (th (sq (rg (wY (ym z) z (wY (ym z) z ?_))))))))
        obtain ⟨bt, h, aC⟩ := bnd h
        refine WL.callJ (vals := [J, Value.func (.func 70) (List.toArray []) (List.toArray [pt e 0])]) (σ := (Int × Own)) (fun x w' => x.1 = bt ∧ Stp [] I F x.2 w') (fun x => vi x.1) kok94 z z ?_ ?_
        ·refine Rets.enter Try.func94 z z ?_
         refine (show WC _ _ _ _ [(0, J), (1, Value.func (.func 70) (List.toArray []) (List.toArray [pt e 0]))] _ from ?_)
         refine sq (rg (wY (ya z) z (nl (th (sq (sq (rg (wY (ym z) z (wY (Y.len ty35 z ao) z ?_)))))))))
         refine wY (ym z) z (nl (th (WC.block ?_)))
         obtain ⟨ap, h, ak⟩ := flow1 h
         obtain ⟨aq, h⟩ := loop_some h
         refine WC.joinB 0 (σ := Own) (fun x w' => ap = .go () ∧ Stp [] I F x w') (fun x => []) ?_ ?_
         ·refine WC.loop (σ := (Int × Own)) (fun x k w' => loopN k (label_Check_lp2 t an) x.1 = some ap ∧ Stp [] I F x.2 w') (fun x => [(0, J), (1, Value.func (.func 70) (List.toArray []) (List.toArray [pt e 0])), (7, vi (an.length : Int)), (8, vi x.1)]) (0, I) aq (.cons z (.cons z (.cons z (.cons z .nil)))) ⟨h, (sr_ _ _ _)⟩ ?_
          rintro ⟨ai, aj⟩ aq aD ⟨h, d⟩
          obtain ⟨bu, ce, rfl, h, M⟩ := rnd1 h
          unfold label_Check_lp2 at h
          try dsimp only at h d
          refine (show WC _ _ _ _ [(0, J), (1, Value.func (.func 70) (List.toArray []) (List.toArray [pt e 0])), (7, vi (an.length : Int)), (8, vi ai)] _ from ?_)
          refine sq (rg (wY (Y.lss_i z z) z (nl (th (sq ?_)))))
          rcases cnd h with ⟨P, h⟩ | ⟨P, h⟩
          ·refine WC.condT' z P (sk (th (sq (WC.block (sq (rg (wY (ym z) z (wY (ya z) z (nl ?_)))))))))
           refine th (sq (rg (wY (ym z) z (wY (ym z) z (wY (ym z) z ?_)))))
           obtain ⟨j, aE, h⟩ := bnd h
           have aF := ao.i d z z
           obtain ⟨cf, bU, bW, b1, aG, aH, aI, Q, ar, aJ⟩ := Sl.at2 aF aE
           obtain ⟨_, _, rfl, rfl, rfl⟩ := ar
           replace Q : CellsAt _ _ _ [vs j.Key, vs j.Val] := Q
           have au := CAt.imm Q aJ
           refine wY (Y.indexAddr ty35 ty107 z aG z aH aI) z (wY (yL ty107 z z au.at_ z) z ?_)
           obtain ⟨bw, h, aK⟩ := bnd h
           refine WL.callV (fv := []) (cv := [pt e 0]) (vals := [ag [vs j.Key, vs j.Val]]) (σ := (Bool × Own)) (fun x w' => x.1 = bw ∧ Stp [] aj aD x.2 w') (fun x => vB x.1) kok70 z z z ?_ ?_
           ·refine Rets.enter Try.func70 z z ?_
            refine (show WC _ _ _ _ [(0, ag [vs j.Key, vs j.Val]), (1, pt e 0)] _ from ?_)
            refine sq (rg (WL.box (O := aj) 12 [vs j.Key, vs j.Val] z z z ?_))
            intro cg bx b2 V aL
            refine wY (ya z) z (nl (th (sq (rg (wY (yf fo107_0 z) z (wY (yl ty9 z z (aL.cell 0 _ z)) z (wY (yf fo107_0 z) z ?_)))))))
            have aM := ae.st o z
            have aN := aM.st r z
            have aO := aN.st d z
            have aP := aO.st V z
            refine wY (yl ty9 z z (aP.cell 0 _ z)) z (wY (Y.eql_s z z) z ?_)
            obtain ⟨bz, aQ, h⟩ := lt1 h
            refine WL.yE (ya z) (congrArg vB aQ.symm) z (nl (th (rt ?_)))
            exact At.res (.inl z) z (.tmp z .nil) ⟨(bz, bx), ⟨some1 h, (su_ V z)⟩, z⟩
           ·rintro ⟨bA, av⟩ b3 ⟨rfl, G⟩
            replace h := aK
            try dsimp only at h G
            refine (show WL _ _ _ _ _ ((16, vB bA) :: _) _ from ?_)
            refine nl (th ?_)
            rcases cnd h with ⟨S, h⟩ | ⟨S, h⟩
            ·refine WC.condT' z S (sq (rg (wY (ym z) z (wY (ya z) z (nl (th (rt (At.inBlockR (At.thenR ?_)))))))))
             refine At.loopR ?_
             have h := outr1 h M ak
             refine At.joinBR (At.inBlockR (At.thenR ?_))
             exact At.res (.inl z) z (.tmp z .nil) ⟨(ai, av), ⟨some1 h, (tr_ (su_ d z) (su_ G z))⟩, z⟩
            ·refine WC.condF' z S (sk (At.inBlock (th (rg (wY (Y.add_i z z) z (wY (ym z) z (nl ?_)))))))
             exact At.round (w64 (ai + 1), av) bu (Nat.lt_succ_self _) ⟨next1 h M, (tr_ (su_ d z) (su_ G z))⟩ (.cons z (.cons z (.cons z (.cons z .nil))))
          ·refine WC.condF' z P (WC.exit (At.thenX (At.loopX ?_)))
           exact At.hitB (σ := Own) aj ⟨brk1 h M, (su_ d z)⟩ .nil
         ·rintro bB b4 ⟨rfl, aw⟩
          replace h := flowK_go ak
          refine (show At _ _ _ [] _ from ?_)
          refine At.inBlockHit (th (sq (rg (wY (ya z) z (nl (th (rt ?_)))))))
          exact At.res (.inl z) z (.tmp z .nil) ⟨((-1), bB), ⟨some1 h, (su_ aw z)⟩, z⟩
        ·rintro ⟨bC, bD⟩ b5 ⟨rfl, W⟩
         replace h := aC
         try dsimp only at h W
         refine (show WL _ _ _ _ _ ((7, vi bC) :: _) _ from ?_)
         refine wY (Y.geq_i z z) z ?_
         obtain ⟨bE, aR, h⟩ := lt1 h
         refine WL.yE (ya z) (congrArg vB aR.symm) z (nl (th (rt ?_)))
         exact At.res (.inl z) z (.tmp z .nil) ⟨(bE, bD), ⟨some1 h, (su_ W z)⟩, z⟩
       ·rintro ⟨bX, aZ⟩ bF ⟨rfl, H⟩
        replace h := aA
        try dsimp only at h H
        refine (show WL _ _ _ _ _ ((34, vB bX) :: _) _ from ?_)
        refine nl (th ?_)
        rcases cnd h with ⟨T, h⟩ | ⟨T, h⟩
        ·refine WC.condT' z T (sq (rg (wY (ya z) z (nl (th (rt (At.inBlockR (At.thenR (At.loopR ?_)))))))))
         have h := outr1 h L ab
         refine At.joinBR (At.inBlockR (At.thenR ?_))
         obtain rfl := some1 h
         have aS : Stp [11] (Lg.O0 A) w aZ bF := (tr_ (su_ l z) (tr_ (su_ m z) (tr_ (su_ C z) (tr_ (su_ D z) (tr_ (su_ o z) (tr_ (su_ r z) (su_ H z)))))))
         exact At.res (.inl z) z (.tmp z .nil) ⟨z, (se_ aS z z)⟩
        ·refine WC.condF' z T (sk (At.inBlock (th (rg (wY (Y.add_i z z) z (wY (ym z) z (nl ?_)))))))
         exact At.round (w64 (E + 1), aZ) bJ (Nat.lt_succ_self _) ⟨next1 h L, (tr_ (su_ m z) (tr_ (su_ C z) (tr_ (su_ D z) (tr_ (su_ o z) (tr_ (su_ r z) (su_ H z))))))⟩ (.cons z (.cons z (.cons z (.cons z .nil))))
    ·refine WC.condF' z ac (WC.exit (At.thenX (At.loopX ?_)))
     exact At.hitB (σ := Own) aY ⟨brk1 h L, (su_ m z)⟩ .nil
   ·rintro bY bG ⟨rfl, aT⟩
    replace h := flowK_go ab
    refine (show At _ _ _ [] _ from ?_)
    refine At.inBlockHit (th (sq (rg (wY (ya z) z (nl (th (rt ?_)))))))
    obtain rfl := some1 h
    have aU : Stp [11] (Lg.O0 A) w bY bG := (tr_ (su_ l z) (su_ aT z))
    exact At.res (.inl z) z (.tmp z .nil) ⟨z, (se_ aU z z)⟩
theorem c_point_kinds {A : Nat → Prop} {v0_1 : Value} {v0_13 : Value} {v0_15 : Value} {a0 : api_Point} {w : World} (hs0_1 : Sl rep_api_Pair w A v0_1 a0.Attrs) (hs0_13 : Sl Rep.u w A v0_13 a0.Hist.Pos.Counts) (hs0_15 : Sl Rep.u w A v0_15 a0.Hist.Neg.Counts) {r0 : Bool} (h : point_kinds a0 = some r0) : Rets Try.prog 36 [ag [vs a0.Name, v0_1, vi a0.Kind, vi a0.Temp, vB a0.Mono, vi a0.Start, vi a0.Time, vi a0.Int_, vu a0.Re, vu a0.Im, vi a0.Hist.Scale, vu a0.Hist.Zero, vi a0.Hist.Pos.Offset, v0_13, vi a0.Hist.Neg.Offset, v0_15, vi a0.Flags]] w (fun v w' => v = vB r0 ∧ Ext w w') := by
 unfold point_kinds at h
 refine Rets.enter Try.func36 z z ?_
 have F : Sl rep_api_Pair w (imm (Lg.O0 A)) v0_1 a0.Attrs := (Sl.start hs0_1)
 have G : Sl Rep.u w (imm (Lg.O0 A)) v0_13 a0.Hist.Pos.Counts := (Sl.start hs0_13)
 have H : Sl Rep.u w (imm (Lg.O0 A)) v0_15 a0.Hist.Neg.Counts := (Sl.start hs0_15)
 refine (show WC _ _ _ _ [(0, ag [vs a0.Name, v0_1, vi a0.Kind, vi a0.Temp, vB a0.Mono, vi a0.Start, vi a0.Time, vi a0.Int_, vu a0.Re, vu a0.Im, vi a0.Hist.Scale, vu a0.Hist.Zero, vi a0.Hist.Pos.Offset, v0_13, vi a0.Hist.Neg.Offset, v0_15, vi a0.Flags])] _ from ?_)
 refine sq (rg ?_)
 have I := h
 obtain ⟨aa, ab, ac, rfl⟩ := F.shape
 have h := I
 have J := h
 obtain ⟨ad, ae, af, rfl⟩ := G.shape
 have h := J
 have K := h
 obtain ⟨ah, ai, aj, rfl⟩ := H.shape
 have h := K
 refine WL.box (O := (Lg.O0 A)) 11 [vs a0.Name, (Value.slice aa ab ac), vi a0.Kind, vi a0.Temp, vB a0.Mono, vi a0.Start, vi a0.Time, vi a0.Int_, vu a0.Re, vu a0.Im, vi a0.Hist.Scale, vu a0.Hist.Zero, vi a0.Hist.Pos.Offset, (Value.slice ad ae af), vi a0.Hist.Neg.Offset, (Value.slice ah ai aj), vi a0.Flags] z z z ?_
 intro E D d e j
 refine wY (ya z) z (nl (th (sq (sq (rg (wY (yf fo37_2 z) z (wY (yl ty3 z z (j.cell 2 _ z)) z (nl (th ?_)))))))))
 refine WC.block (sq (rg (wY (Y.eql_i z z) z ?_)))
 obtain ⟨aq, L, h⟩ := lt1 h
 refine WL.yE (ya z) (congrArg vB L.symm) z (nl (th ?_))
 rcases cnd h with ⟨l, h⟩ | ⟨l, h⟩
 ·refine WC.condT' z l (sq (rg (wY (yf fo37_3 z) z (wY (yl ty3 z z (j.cell 3 _ z)) z (wY (Y.eql_i z z) z ?_)))))
  obtain ⟨ar, M, h⟩ := lt1 h
  refine WL.yE (ya z) (congrArg vB M.symm) z (nl (th (rt (At.inBlockR (At.thenR ?_)))))
  obtain rfl := some1 h
  have P : Stp [] (Lg.O0 A) w D d := (su_ e z)
  exact At.res (.inl z) z (.tmp z .nil) ⟨z, (se_ P z z)⟩
 ·refine WC.condF' z l (sq ?_)
  obtain ⟨ak, h, Q⟩ := bnd h
  refine WC.join (σ := Bool) (fun x w' => x = ak ∧ d = w') (fun x => [(1, pt E 0), (10, vB x)]) ?_ ?_
  ·refine sq (rg (wY (Y.eql_i z z) z ?_))
   obtain ⟨al, S, h⟩ := lt1 h
   refine WL.yE (ya z) (congrArg vB S.symm) z (nl (th ?_))
   rcases cnd h with ⟨m, h⟩ | ⟨m, h⟩
   ·refine WC.condT' z m (sk ?_)
    exact At.join (σ := Bool) al ⟨some1 h, z⟩ (.cons z (.cons z .nil))
   ·refine WC.condF' z m (sq (rg (wY (Y.eql_i z z) z ?_)))
    obtain ⟨am, T, h⟩ := lt1 h
    refine WL.yE (ya z) (congrArg vB T.symm) z (nl (th ?_))
    rcases cnd h with ⟨o, h⟩ | ⟨o, h⟩
    ·refine WC.condT' z o (sk ?_)
     exact At.join (σ := Bool) am ⟨some1 h, z⟩ (.cons z (.cons z .nil))
    ·refine WC.condF' z o (sq (rg (wY (Y.eql_i z z) z ?_)))
     obtain ⟨an, U, h⟩ := lt1 h
     refine WL.yE (ya z) (congrArg vB U.symm) z (nl (th ?_))
     rcases cnd h with ⟨r, h⟩ | ⟨r, h⟩
     ·refine WC.condT' z r (sk ?_)
      exact At.join (σ := Bool) an ⟨some1 h, z⟩ (.cons z (.cons z .nil))
     ·refine WC.condF' z r (rg (wY (Y.eql_i z z) z ?_))
      obtain ⟨ao, V, h⟩ := lt1 h
      refine WL.yE (ya z) (congrArg vB V.symm) z (nl ?_)
      exact At.join (σ := Bool) ao ⟨some1 h, z⟩ (.cons z (.cons z .nil))
  ·rintro ap _ ⟨rfl, rfl⟩
   replace h := Q
   try dsimp only at h
   refine (show At _ _ _ [(1, pt E 0), (10, vB ap)] _ from ?_)
   refine th ?_
   rcases cnd h with ⟨t, h⟩ | ⟨t, h⟩
   ·refine WC.condT' z t (sq (rg (wY (yf fo37_3 z) z (wY (yl ty3 z z (j.cell 3 _ z)) z (wY (Y.eql_i z z) z (wY (ym z) z ?_))))))
    refine WL.cut 4 (σ := Unit) (fun _ w' => d = w') (fun _ => [(22, vB ((decide (a0.Temp = 1)) || (decide (a0.Temp = 2))))]) ?_ ?_
    ·refine WL.part 18 z (fun C => ?_) (fun C => ?_)
     ·refine WL.gS z z z z (WL.gS z z z z (WL.gS z z z z (wY (Y.pick (b := true) z z) z (WL.ren (v' := vB ((decide (a0.Temp = 1)) || (decide (a0.Temp = 2)))) 22 z (congrArg vB (orT C)) ?_))))
      exact nl (At.join () z (.cons z .nil))
     ·refine ug z z (wY (yf fo37_3 z) z (ug z z (wY (yl ty3 z z (j.cell 3 _ z)) z (ug z z (wY (Y.eql_i z z) z (wY (Y.pick (b := false) z z) z (WL.ren (v' := vB ((decide (a0.Temp = 1)) || (decide (a0.Temp = 2)))) 22 z (congrArg vB (orF C)) ?_)))))))
      exact nl (At.join () z (.cons z .nil))
    ·rintro _ _ rfl
     refine (show WL _ _ _ _ _ [(22, vB ((decide (a0.Temp = 1)) || (decide (a0.Temp = 2))))] _ from ?_)
     obtain ⟨au, W, h⟩ := lt1 h
     refine WL.yE (ya z) (congrArg vB W.symm) z (nl (th (rt (At.inBlockR (At.thenR ?_)))))
     obtain rfl := some1 h
     have X : Stp [] (Lg.O0 A) w D d := (su_ e z)
     exact At.res (.inl z) z (.tmp z .nil) ⟨z, (se_ X z z)⟩
   ·refine WC.condF' z t (sk (At.inBlock (th (sq (rg (wY (ya z) z (nl (th (rt ?_)))))))))
    obtain rfl := some1 h
    have Z : Stp [] (Lg.O0 A) w D d := (su_ e z)
    exact At.res (.inl z) z (.tmp z .nil) ⟨z, (se_ Z z z)⟩
theorem c_point_sum {A : Nat → Prop} {v0_1 : Value} {v0_13 : Value} {v0_15 : Value} {a0 : api_Point} {w : World} (hs0_1 : Sl rep_api_Pair w A v0_1 a0.Attrs) (hs0_13 : Sl Rep.u w A v0_13 a0.Hist.Pos.Counts) (hs0_15 : Sl Rep.u w A v0_15 a0.Hist.Neg.Counts) {r0 : Bool} (h : point_sum a0 = some r0) : Rets Try.prog 37 [ag [vs a0.Name, v0_1, vi a0.Kind, vi a0.Temp, vB a0.Mono, vi a0.Start, vi a0.Time, vi a0.Int_, vu a0.Re, vu a0.Im, vi a0.Hist.Scale, vu a0.Hist.Zero, vi a0.Hist.Pos.Offset, v0_13, vi a0.Hist.Neg.Offset, v0_15, vi a0.Flags]] w (fun v w' => v = vB r0 ∧ Ext w w') := by
 unfold point_sum at h
 refine Rets.enter Try.func37 z z ?_
 have m : Sl rep_api_Pair w (imm (Lg.O0 A)) v0_1 a0.Attrs := (Sl.start hs0_1)
 have o : Sl Rep.u w (imm (Lg.O0 A)) v0_13 a0.Hist.Pos.Counts := (Sl.start hs0_13)
 have r : Sl Rep.u w (imm (Lg.O0 A)) v0_15 a0.Hist.Neg.Counts := (Sl.start hs0_15)
 refine (show WC _ _ _ _ [(0, ag [vs a0.Name, v0_1, vi a0.Kind, vi a0.Temp, vB a0.Mono, vi a0.Start, vi a0.Time, vi a0.Int_, vu a0.Re, vu a0.Im, vi a0.Hist.Scale, vu a0.Hist.Zero, vi a0.Hist.Pos.Offset, v0_13, vi a0.Hist.Neg.Offset, v0_15, vi a0.Flags])] _ from ?_)
 refine sq (rg ?_)
 have t := h
 obtain ⟨G, H, I, rfl⟩ := m.shape
 have h := t
 have C := h
 obtain ⟨J, K, L, rfl⟩ := o.shape
 have h := C
 have D := h
 obtain ⟨M, P, Q, rfl⟩ := r.shape
 have h := D
 refine WL.box (O := (Lg.O0 A)) 11 [vs a0.Name, (Value.slice G H I), vi a0.Kind, vi a0.Temp, vB a0.Mono, vi a0.Start, vi a0.Time, vi a0.Int_, vu a0.Re, vu a0.Im, vi a0.Hist.Scale, vu a0.Hist.Zero, vi a0.Hist.Pos.Offset, (Value.slice J K L), vi a0.Hist.Neg.Offset, (Value.slice M P Q), vi a0.Flags] z z z ?_
 intro T S e l j
 refine wY (ya z) z (nl (th (sq (rg (wY (yf fo37_2 z) z (wY (yl ty3 z z (j.cell 2 _ z)) z (wY (Y.eql_i z z) z (wY (ym z) z ?_))))))))
 refine WL.cut 4 (σ := Unit) (fun _ w' => e = w') (fun _ => [(10, vB ((decide (a0.Kind = 1)) || (decide (a0.Kind = 2))))]) ?_ ?_
 ·refine WL.part 6 z (fun d => ?_) (fun d => ?_)
  ·refine WL.gS z z z z (WL.gS z z z z (WL.gS z z z z (wY (Y.pick (b := true) z z) z (WL.ren (v' := vB ((decide (a0.Kind = 1)) || (decide (a0.Kind = 2)))) 10 z (congrArg vB (orT d)) ?_))))
   exact nl (At.join () z (.cons z .nil))
  ·refine ug z z (wY (yf fo37_2 z) z (ug z z (wY (yl ty3 z z (j.cell 2 _ z)) z (ug z z (wY (Y.eql_i z z) z (wY (Y.pick (b := false) z z) z (WL.ren (v' := vB ((decide (a0.Kind = 1)) || (decide (a0.Kind = 2)))) 10 z (congrArg vB (orF d)) ?_)))))))
   exact nl (At.join () z (.cons z .nil))
 ·rintro _ _ rfl
  refine (show WL _ _ _ _ _ [(10, vB ((decide (a0.Kind = 1)) || (decide (a0.Kind = 2))))] _ from ?_)
  obtain ⟨U, E, h⟩ := lt1 h
  refine WL.yE (ya z) (congrArg vB E.symm) z (nl (th (rt ?_)))
  obtain rfl := some1 h
  have F : Stp [] (Lg.O0 A) w S e := (su_ l z)
  exact At.res (.inl z) z (.tmp z .nil) ⟨z, (se_ F z z)⟩
theorem c_point_times {A : Nat → Prop} {v0_1 : Value} {v0_13 : Value} {v0_15 : Value} {a0 : api_Point} {w : World} (hs0_1 : Sl rep_api_Pair w A v0_1 a0.Attrs) (hs0_13 : Sl Rep.u w A v0_13 a0.Hist.Pos.Counts) (hs0_15 : Sl Rep.u w A v0_15 a0.Hist.Neg.Counts) {r0 : Bool} (h : point_times a0 = some r0) : Rets Try.prog 38 [ag [vs a0.Name, v0_1, vi a0.Kind, vi a0.Temp, vB a0.Mono, vi a0.Start, vi a0.Time, vi a0.Int_, vu a0.Re, vu a0.Im, vi a0.Hist.Scale, vu a0.Hist.Zero, vi a0.Hist.Pos.Offset, v0_13, vi a0.Hist.Neg.Offset, v0_15, vi a0.Flags]] w (fun v w' => v = vB r0 ∧ Ext w w') := by
 unfold point_times at h
 refine Rets.enter Try.func38 z z ?_
 have C : Sl rep_api_Pair w (imm (Lg.O0 A)) v0_1 a0.Attrs := (Sl.start hs0_1)
 have D : Sl Rep.u w (imm (Lg.O0 A)) v0_13 a0.Hist.Pos.Counts := (Sl.start hs0_13)
 have E : Sl Rep.u w (imm (Lg.O0 A)) v0_15 a0.Hist.Neg.Counts := (Sl.start hs0_15)
 refine (show WC _ _ _ _ [(0, ag [vs a0.Name, v0_1, vi a0.Kind, vi a0.Temp, vB a0.Mono, vi a0.Start, vi a0.Time, vi a0.Int_, vu a0.Re, vu a0.Im, vi a0.Hist.Scale, vu a0.Hist.Zero, vi a0.Hist.Pos.Offset, v0_13, vi a0.Hist.Neg.Offset, v0_15, vi a0.Flags])] _ from ?_)
 refine sq (rg ?_)
 have F := h
 obtain ⟨P, Q, S, rfl⟩ := C.shape
 have h := F
 have G := h
 obtain ⟨T, U, V, rfl⟩ := D.shape
 have h := G
 have H := h
 obtain ⟨W, X, Z, rfl⟩ := E.shape
 have h := H
 refine WL.box (O := (Lg.O0 A)) 11 [vs a0.Name, (Value.slice P Q S), vi a0.Kind, vi a0.Temp, vB a0.Mono, vi a0.Start, vi a0.Time, vi a0.Int_, vu a0.Re, vu a0.Im, vi a0.Hist.Scale, vu a0.Hist.Zero, vi a0.Hist.Pos.Offset, (Value.slice T U V), vi a0.Hist.Neg.Offset, (Value.slice W X Z), vi a0.Flags] z z z ?_
 intro t r e j d
 refine wY (ya z) z (nl (th (sq (sq (rg (wY (yf fo37_5 z) z (wY (yl ty3 z z (d.cell 5 _ z)) z (wY (Y.lss_i z z) z (wY (ym z) z ?_)))))))))
 refine WL.cut 4 (σ := Unit) (fun _ w' => e = w') (fun _ => [(1, pt t 0), (10, vB ((decide (a0.Start < 0)) || (decide (4503599627370496 < a0.Time))))]) ?_ ?_
 ·refine WL.part 6 z (fun l => ?_) (fun l => ?_)
  ·refine WL.gS z z z z (WL.gS z z z z (WL.gS z z z z (wY (Y.pick (b := true) z z) z (WL.ren (v' := vB ((decide (a0.Start < 0)) || (decide (4503599627370496 < a0.Time)))) 10 z (congrArg vB (orT l)) ?_))))
   exact nl (At.join () z (.cons z (.cons z .nil)))
  ·refine ug z z (wY (yf fo37_6 z) z (ug z z (wY (yl ty3 z z (d.cell 6 _ z)) z (ug z z (wY (Y.gtr_i z z) z (wY (Y.pick (b := false) z z) z (WL.ren (v' := vB ((decide (a0.Start < 0)) || (decide (4503599627370496 < a0.Time)))) 10 z (congrArg vB (orF l)) ?_)))))))
   exact nl (At.join () z (.cons z (.cons z .nil)))
 ·rintro _ _ rfl
  refine (show WL _ _ _ _ _ [(1, pt t 0), (10, vB ((decide (a0.Start < 0)) || (decide (4503599627370496 < a0.Time))))] _ from ?_)
  refine nl (th ?_)
  rcases cnd h with ⟨m, h⟩ | ⟨m, h⟩
  ·refine WC.condT' z m (sq (rg (wY (ya z) z (nl (th (rt (At.thenR ?_)))))))
   obtain rfl := some1 h
   have I : Stp [] (Lg.O0 A) w r e := (su_ j z)
   exact At.res (.inl z) z (.tmp z .nil) ⟨z, (se_ I z z)⟩
  ·refine WC.condF' z m (sk (th (sq (sq (rg (wY (yf fo37_2 z) z (wY (yl ty3 z z (d.cell 2 _ z)) z (wY (Y.eql_i z z) z (nl ?_)))))))))
   refine th ?_
   rcases cnd h with ⟨o, h⟩ | ⟨o, h⟩
   ·refine WC.condT' z o (sq (rg (wY (yf fo37_5 z) z (wY (yl ty3 z z (d.cell 5 _ z)) z (wY (yf fo37_6 z) z (wY (yl ty3 z z (d.cell 6 _ z)) z (wY (Y.eql_i z z) z ?_)))))))
    obtain ⟨aa, J, h⟩ := lt1 h
    refine WL.yE (ya z) (congrArg vB J.symm) z (nl (th (rt (At.thenR ?_))))
    obtain rfl := some1 h
    have K : Stp [] (Lg.O0 A) w r e := (su_ j z)
    exact At.res (.inl z) z (.tmp z .nil) ⟨z, (se_ K z z)⟩
   ·refine WC.condF' z o (sk (th (sq (rg (wY (yf fo37_5 z) z (wY (yl ty3 z z (d.cell 5 _ z)) z (wY (yf fo37_6 z) z (wY (yl ty3 z z (d.cell 6 _ z)) z (wY (Y.lss_i z z) z ?_)))))))))
    obtain ⟨ab, L, h⟩ := lt1 h
    refine WL.yE (ya z) (congrArg vB L.symm) z (nl (th (rt ?_)))
    obtain rfl := some1 h
    have M : Stp [] (Lg.O0 A) w r e := (su_ j z)
    exact At.res (.inl z) z (.tmp z .nil) ⟨z, (se_ M z z)⟩
theorem c_point_bare {A : Nat → Prop} {v0_3 : Value} {v0_5 : Value} {a0 : api_Hist} {w : World} (hs0_3 : Sl Rep.u w A v0_3 a0.Pos.Counts) (hs0_5 : Sl Rep.u w A v0_5 a0.Neg.Counts) {r0 : Bool} (h : point_bare a0 = some r0) : Rets Try.prog 71 [ag [vi a0.Scale, vu a0.Zero, vi a0.Pos.Offset, v0_3, vi a0.Neg.Offset, v0_5]] w (fun v w' => v = vB r0 ∧ Ext w w') := by
 unfold point_bare at h
 refine Rets.enter Try.func71 z z ?_
 have C : Sl Rep.u w (imm (Lg.O0 A)) v0_3 a0.Pos.Counts := (Sl.start hs0_3)
 have D : Sl Rep.u w (imm (Lg.O0 A)) v0_5 a0.Neg.Counts := (Sl.start hs0_5)
 refine (show WC _ _ _ _ [(0, ag [vi a0.Scale, vu a0.Zero, vi a0.Pos.Offset, v0_3, vi a0.Neg.Offset, v0_5])] _ from ?_)
 refine sq (rg ?_)
 have E := h
 obtain ⟨K, L, M, rfl⟩ := C.shape
 have h := E
 have F := h
 obtain ⟨P, Q, S, rfl⟩ := D.shape
 have h := F
 refine WL.box (O := (Lg.O0 A)) 11 [vi a0.Scale, vu a0.Zero, vi a0.Pos.Offset, (Value.slice K L M), vi a0.Neg.Offset, (Value.slice P Q S)] z z z ?_
 intro j T e l d
 refine wY (ya z) z (nl (th (sq (rg (wY (yf fo30_0 z) z (wY (yl ty3 z z (d.cell 0 _ z)) z (wY (Y.eql_i z z) z (wY (ym z) z ?_))))))))
 refine WL.cut 4 (σ := Unit) (fun _ w' => e = w') (fun _ => [(1, pt j 0), (10, vB ((decide (a0.Scale = 0)) && (decide (a0.Zero = 0))))]) ?_ ?_
 ·refine WL.part 6 z (fun m => ?_) (fun m => ?_)
  ·refine ug z z (wY (yf fo30_1 z) z (ug z z (wY (yl ty25 z z (d.cell 1 _ z)) z (ug z z (wY (Y.eql_u (b := 0) z z) z (wY (Y.pick (b := true) z z) z (WL.ren (v' := vB ((decide (a0.Scale = 0)) && (decide (a0.Zero = 0)))) 10 z (congrArg vB (andT m)) ?_)))))))
   exact nl (At.join () z (.cons z (.cons z .nil)))
  ·refine WL.gS z z z z (WL.gS z z z z (WL.gS z z z z (wY (Y.pick (b := false) z z) z (WL.ren (v' := vB ((decide (a0.Scale = 0)) && (decide (a0.Zero = 0)))) 10 z (congrArg vB (andF m)) ?_))))
   exact nl (At.join () z (.cons z (.cons z .nil)))
 ·rintro _ _ rfl
  refine (show WL _ _ _ _ _ [(1, pt j 0), (10, vB ((decide (a0.Scale = 0)) && (decide (a0.Zero = 0))))] _ from ?_)
  refine wY (ym z) z ?_
  refine WL.cut 5 (σ := Unit) (fun _ w' => e = w') (fun _ => [(1, pt j 0), (16, vB (((decide (a0.Scale = 0)) && (decide (a0.Zero = 0))) && (decide (a0.Pos.Offset = 0))))]) ?_ ?_
  ·refine WL.part 11 z (fun o => ?_) (fun o => ?_)
   ·refine ug z z (wY (yf fo30_2 z) z (ug z z (wY (yf fo28_0 z) z (ug z z (wY (yl ty3 z z (d.cell 2 _ z)) z (ug z z (wY (Y.eql_i z z) z (wY (Y.pick (b := true) z z) z (WL.ren (v' := vB (((decide (a0.Scale = 0)) && (decide (a0.Zero = 0))) && (decide (a0.Pos.Offset = 0)))) 16 z (congrArg vB (andT o)) ?_)))))))))
    exact nl (At.join () z (.cons z (.cons z .nil)))
   ·refine WL.gS z z z z (WL.gS z z z z (WL.gS z z z z (WL.gS z z z z (wY (Y.pick (b := false) z z) z (WL.ren (v' := vB (((decide (a0.Scale = 0)) && (decide (a0.Zero = 0))) && (decide (a0.Pos.Offset = 0)))) 16 z (congrArg vB (andF o)) ?_)))))
    exact nl (At.join () z (.cons z (.cons z .nil)))
  ·rintro _ _ rfl
   refine (show WL _ _ _ _ _ [(1, pt j 0), (16, vB (((decide (a0.Scale = 0)) && (decide (a0.Zero = 0))) && (decide (a0.Pos.Offset = 0))))] _ from ?_)
   refine wY (ym z) z ?_
   refine WL.cut 5 (σ := Unit) (fun _ w' => e = w') (fun _ => [(1, pt j 0), (22, vB ((((decide (a0.Scale = 0)) && (decide (a0.Zero = 0))) && (decide (a0.Pos.Offset = 0))) && (decide (a0.Neg.Offset = 0))))]) ?_ ?_
   ·refine WL.part 17 z (fun r => ?_) (fun r => ?_)
    ·refine ug z z (wY (yf fo30_3 z) z (ug z z (wY (yf fo28_0 z) z (ug z z (wY (yl ty3 z z (d.cell 4 _ z)) z (ug z z (wY (Y.eql_i z z) z (wY (Y.pick (b := true) z z) z (WL.ren (v' := vB ((((decide (a0.Scale = 0)) && (decide (a0.Zero = 0))) && (decide (a0.Pos.Offset = 0))) && (decide (a0.Neg.Offset = 0)))) 22 z (congrArg vB (andT r)) ?_)))))))))
     exact nl (At.join () z (.cons z (.cons z .nil)))
    ·refine WL.gS z z z z (WL.gS z z z z (WL.gS z z z z (WL.gS z z z z (wY (Y.pick (b := false) z z) z (WL.ren (v' := vB ((((decide (a0.Scale = 0)) && (decide (a0.Zero = 0))) && (decide (a0.Pos.Offset = 0))) && (decide (a0.Neg.Offset = 0)))) 22 z (congrArg vB (andF r)) ?_)))))
     exact nl (At.join () z (.cons z (.cons z .nil)))
   ·rintro _ _ rfl
    refine (show WL _ _ _ _ _ [(1, pt j 0), (22, vB ((((decide (a0.Scale = 0)) && (decide (a0.Zero = 0))) && (decide (a0.Pos.Offset = 0))) && (decide (a0.Neg.Offset = 0))))] _ from ?_)
    refine wY (ym z) z ?_
    refine WL.cut 11 (σ := Unit) (fun _ w' => e = w') (fun _ => [(34, vB (((((decide (a0.Scale = 0)) && (decide (a0.Zero = 0))) && (decide (a0.Pos.Offset = 0))) && (decide (a0.Neg.Offset = 0))) && (decide (w64 ((a0.Pos.Counts.length : Int) + (a0.Neg.Counts.length : Int)) = 0))))]) ?_ ?_
    ·refine WL.part 23 z (fun t => ?_) (fun t => ?_)
     ·refine ug z z (wY (yf fo30_2 z) z (ug z z (wY (yf fo28_1 z) z (ug z z (wY (yl ty26 z z (d.cell 3 _ z)) z (ug z z ?_))))))
      have G := C.i l z z
      refine wY (Y.len ty26 z G) z (ug z z (wY (yf fo30_3 z) z (ug z z (wY (yf fo28_1 z) z (ug z z (wY (yl ty26 z z (d.cell 5 _ z)) z (ug z z ?_)))))))
      have H := D.i l z z
      refine wY (Y.len ty26 z H) z (ug z z (wY (Y.add_i z z) z (ug z z (wY (Y.eql_i z z) z (wY (Y.pick (b := true) z z) z (WL.ren (v' := vB (((((decide (a0.Scale = 0)) && (decide (a0.Zero = 0))) && (decide (a0.Pos.Offset = 0))) && (decide (a0.Neg.Offset = 0))) && (decide (w64 ((a0.Pos.Counts.length : Int) + (a0.Neg.Counts.length : Int)) = 0)))) 34 z (congrArg vB (andT t)) ?_))))))
      exact nl (At.join () z (.cons z .nil))
     ·refine WL.gS z z z z (WL.gS z z z z (WL.gS z z z z (WL.gS z z z z (WL.gS z z z z (WL.gS z z z z (WL.gS z z z z (WL.gS z z z z (WL.gS z z z z (WL.gS z z z z ?_)))))))))
      refine wY (Y.pick (b := false) z z) z (WL.ren (v' := vB (((((decide (a0.Scale = 0)) && (decide (a0.Zero = 0))) && (decide (a0.Pos.Offset = 0))) && (decide (a0.Neg.Offset = 0))) && (decide (w64 ((a0.Pos.Counts.length : Int) + (a0.Neg.Counts.length : Int)) = 0)))) 34 z (congrArg vB (andF t)) ?_)
      exact nl (At.join () z (.cons z .nil))
    ·rintro _ _ rfl
     refine (show WL _ _ _ _ _ [(34, vB (((((decide (a0.Scale = 0)) && (decide (a0.Zero = 0))) && (decide (a0.Pos.Offset = 0))) && (decide (a0.Neg.Offset = 0))) && (decide (w64 ((a0.Pos.Counts.length : Int) + (a0.Neg.Counts.length : Int)) = 0))))] _ from ?_)
     obtain ⟨U, I, h⟩ := lt1 h
     refine WL.yE (ya z) (congrArg vB I.symm) z (nl (th (rt ?_)))
     obtain rfl := some1 h
     have J : Stp [] (Lg.O0 A) w T e := (su_ l z)
     exact At.res (.inl z) z (.tmp z .nil) ⟨z, (se_ J z z)⟩
theorem c_point_own {A : Nat → Prop} {v0_1 : Value} {v0_13 : Value} {v0_15 : Value} {a0 : api_Point} {w : World} (hs0_1 : Sl rep_api_Pair w A v0_1 a0.Attrs) (hs0_13 : Sl Rep.u w A v0_13 a0.Hist.Pos.Counts) (hs0_15 : Sl Rep.u w A v0_15 a0.Hist.Neg.Counts) {r0 : Bool} (h : point_own a0 = some r0) : Rets Try.prog 39 [ag [vs a0.Name, v0_1, vi a0.Kind, vi a0.Temp, vB a0.Mono, vi a0.Start, vi a0.Time, vi a0.Int_, vu a0.Re, vu a0.Im, vi a0.Hist.Scale, vu a0.Hist.Zero, vi a0.Hist.Pos.Offset, v0_13, vi a0.Hist.Neg.Offset, v0_15, vi a0.Flags]] w (fun v w' => v = vB r0 ∧ Ext w w') := by
 unfold point_own at h
 refine Rets.enter Try.func39 z z ?_
 have aj : Sl rep_api_Pair w (imm (Lg.O0 A)) v0_1 a0.Attrs := (Sl.start hs0_1)
 have X : Sl Rep.u w (imm (Lg.O0 A)) v0_13 a0.Hist.Pos.Counts := (Sl.start hs0_13)
 have Z : Sl Rep.u w (imm (Lg.O0 A)) v0_15 a0.Hist.Neg.Counts := (Sl.start hs0_15)
 refine (show WC _ _ _ _ [(0, ag [vs a0.Name, v0_1, vi a0.Kind, vi a0.Temp, vB a0.Mono, vi a0.Start, vi a0.Time, vi a0.Int_, vu a0.Re, vu a0.Im, vi a0.Hist.Scale, vu a0.Hist.Zero, vi a0.Hist.Pos.Offset, v0_13, vi a0.Hist.Neg.Offset, v0_15, vi a0.Flags])] _ from ?_)
 refine sq (rg ?_)
 have ak := h
 obtain ⟨aJ, aK, aL, rfl⟩ := aj.shape
 have h := ak
 have al := h
 obtain ⟨aa, ab, ac, rfl⟩ := X.shape
 have h := al
 have am := h
 obtain ⟨ad, ae, af, rfl⟩ := Z.shape
 have h := am
 refine WL.box (O := (Lg.O0 A)) 11 [vs a0.Name, (Value.slice aJ aK aL), vi a0.Kind, vi a0.Temp, vB a0.Mono, vi a0.Start, vi a0.Time, vi a0.Int_, vu a0.Re, vu a0.Im, vi a0.Hist.Scale, vu a0.Hist.Zero, vi a0.Hist.Pos.Offset, (Value.slice aa ab ac), vi a0.Hist.Neg.Offset, (Value.slice ad ae af), vi a0.Flags] z z z ?_
 intro m r e d l
 refine wY (ya z) z (nl (th (sq (rg (wY (yf fo37_2 z) z (wY (yl ty3 z z (l.cell 2 _ z)) z (wY (Y.eql_i z z) z (wY (ym z) z ?_))))))))
 refine WL.cut 4 (σ := Unit) (fun _ w' => e = w') (fun _ => [(1, pt m 0), (11, vB ((decide (a0.Kind = 2)) || (decide (a0.Kind = 3))))]) ?_ ?_
 ·refine WL.part 7 z (fun C => ?_) (fun C => ?_)
  ·refine WL.gS z z z z (WL.gS z z z z (WL.gS z z z z (wY (Y.pick (b := true) z z) z (WL.ren (v' := vB ((decide (a0.Kind = 2)) || (decide (a0.Kind = 3)))) 11 z (congrArg vB (orT C)) ?_))))
   exact nl (At.join () z (.cons z (.cons z .nil)))
  ·refine ug z z (wY (yf fo37_2 z) z (ug z z (wY (yl ty3 z z (l.cell 2 _ z)) z (ug z z (wY (Y.eql_i z z) z (wY (Y.pick (b := false) z z) z (WL.ren (v' := vB ((decide (a0.Kind = 2)) || (decide (a0.Kind = 3)))) 11 z (congrArg vB (orF C)) ?_)))))))
   exact nl (At.join () z (.cons z (.cons z .nil)))
 ·rintro _ _ rfl
  refine (show WL _ _ _ _ _ [(1, pt m 0), (11, vB ((decide (a0.Kind = 2)) || (decide (a0.Kind = 3))))] _ from ?_)
  refine wY (ym z) z ?_
  refine WL.cut 4 (σ := Unit) (fun _ w' => e = w') (fun _ => [(1, pt m 0), (16, vB (((decide (a0.Kind = 2)) || (decide (a0.Kind = 3))) || (decide (a0.Kind = 5))))]) ?_ ?_
  ·refine WL.part 12 z (fun D => ?_) (fun D => ?_)
   ·refine WL.gS z z z z (WL.gS z z z z (WL.gS z z z z (wY (Y.pick (b := true) z z) z (WL.ren (v' := vB (((decide (a0.Kind = 2)) || (decide (a0.Kind = 3))) || (decide (a0.Kind = 5)))) 16 z (congrArg vB (orT D)) ?_))))
    exact nl (At.join () z (.cons z (.cons z .nil)))
   ·refine ug z z (wY (yf fo37_2 z) z (ug z z (wY (yl ty3 z z (l.cell 2 _ z)) z (ug z z (wY (Y.eql_i z z) z (wY (Y.pick (b := false) z z) z (WL.ren (v' := vB (((decide (a0.Kind = 2)) || (decide (a0.Kind = 3))) || (decide (a0.Kind = 5)))) 16 z (congrArg vB (orF D)) ?_)))))))
    exact nl (At.join () z (.cons z (.cons z .nil)))
  ·rintro _ _ rfl
   refine (show WL _ _ _ _ _ [(1, pt m 0), (16, vB (((decide (a0.Kind = 2)) || (decide (a0.Kind = 3))) || (decide (a0.Kind = 5))))] _ from ?_)
   obtain ⟨j, E, h⟩ := lt1 h
   refine WL.yE (ya z) (congrArg vB E.symm) z (nl (th (sq (WC.block (sq (sq (rg (wY (yf fo37_2 z) z (wY (yl ty3 z z (l.cell 2 _ z)) z ?_)))))))))
   refine wY (Y.neq_i z z) z (wY (ym z) z ?_)
   refine WL.cut 4 (σ := Unit) (fun _ w' => e = w') (fun _ => [(1, pt m 0), (3, vB j), (25, vB ((!decide (a0.Kind = 1)) && (!decide (a0.Int_ = 0))))]) ?_ ?_
   ·refine WL.part 21 z (fun F => ?_) (fun F => ?_)
    ·refine ug z z (wY (yf fo37_7 z) z (ug z z (wY (yl ty3 z z (l.cell 7 _ z)) z (ug z z (wY (Y.neq_i z z) z (wY (Y.pick (b := true) z z) z (WL.ren (v' := vB ((!decide (a0.Kind = 1)) && (!decide (a0.Int_ = 0)))) 25 z (congrArg vB (andT F)) ?_)))))))
     exact nl (At.join () z (.cons z (.cons z (.cons z .nil))))
    ·refine WL.gS z z z z (WL.gS z z z z (WL.gS z z z z (wY (Y.pick (b := false) z z) z (WL.ren (v' := vB ((!decide (a0.Kind = 1)) && (!decide (a0.Int_ = 0)))) 25 z (congrArg vB (andF F)) ?_))))
     exact nl (At.join () z (.cons z (.cons z (.cons z .nil))))
   ·rintro _ _ rfl
    refine (show WL _ _ _ _ _ [(1, pt m 0), (3, vB j), (25, vB ((!decide (a0.Kind = 1)) && (!decide (a0.Int_ = 0))))] _ from ?_)
    obtain ⟨aU, an, h⟩ := lt1 h
    refine WL.yE (ya z) (congrArg vB an.symm) z (nl (th ?_))
    rcases cnd h with ⟨G, h⟩ | ⟨G, h⟩
    ·refine WC.condT' z G (sk (th ?_))
     rcases cnd h with ⟨H, h⟩ | ⟨H, h⟩
     ·refine WC.condT' z H (sq (rg (wY (ya z) z (nl (th (rt (At.inBlockR (At.thenR ?_))))))))
      obtain rfl := some1 h
      have ao : Stp [] (Lg.O0 A) w r e := (su_ d z)
      exact At.res (.inl z) z (.tmp z .nil) ⟨z, (se_ ao z z)⟩
     ·refine WC.condF' z H (sk (At.inBlock (th (sq (rg (wY (ya z) z (nl (th (rt ?_)))))))))
      obtain rfl := some1 h
      have ap : Stp [] (Lg.O0 A) w r e := (su_ d z)
      exact At.res (.inl z) z (.tmp z .nil) ⟨z, (se_ ap z z)⟩
    ·refine WC.condF' z G (sq (rg (wY (ym z) z (wY (Y.not z) z (wY (ym z) z ?_)))))
     refine WL.cut 4 (σ := Unit) (fun _ w' => e = w') (fun _ => [(1, pt m 0), (32, vB ((!j) && (!decide (a0.Re = 0))))]) ?_ ?_
     ·refine WL.part 28 z (fun I => ?_) (fun I => ?_)
      ·refine ug z z (wY (yf fo37_8 z) z (ug z z (wY (yl ty25 z z (l.cell 8 _ z)) z (ug z z (wY (Y.neq_u (b := 0) z z) z (wY (Y.pick (b := true) z z) z (WL.ren (v' := vB ((!j) && (!decide (a0.Re = 0)))) 32 z (congrArg vB (andT I)) ?_)))))))
       exact nl (At.join () z (.cons z (.cons z .nil)))
      ·refine WL.gS z z z z (WL.gS z z z z (WL.gS z z z z (wY (Y.pick (b := false) z z) z (WL.ren (v' := vB ((!j) && (!decide (a0.Re = 0)))) 32 z (congrArg vB (andF I)) ?_))))
       exact nl (At.join () z (.cons z (.cons z .nil)))
     ·rintro _ _ rfl
      refine (show WL _ _ _ _ _ [(1, pt m 0), (32, vB ((!j) && (!decide (a0.Re = 0))))] _ from ?_)
      obtain ⟨aW, aq, h⟩ := lt1 h
      refine WL.yE (ya z) (congrArg vB aq.symm) z (nl (th ?_))
      rcases cnd h with ⟨J, h⟩ | ⟨J, h⟩
      ·refine WC.condT' z J (sk (th ?_))
       rcases cnd h with ⟨K, h⟩ | ⟨K, h⟩
       ·refine WC.condT' z K (sq (rg (wY (ya z) z (nl (th (rt (At.inBlockR (At.thenR ?_))))))))
        obtain rfl := some1 h
        have ar : Stp [] (Lg.O0 A) w r e := (su_ d z)
        exact At.res (.inl z) z (.tmp z .nil) ⟨z, (se_ ar z z)⟩
       ·refine WC.condF' z K (sk (At.inBlock (th (sq (rg (wY (ya z) z (nl (th (rt ?_)))))))))
        obtain rfl := some1 h
        have au : Stp [] (Lg.O0 A) w r e := (su_ d z)
        exact At.res (.inl z) z (.tmp z .nil) ⟨z, (se_ au z z)⟩
      ·refine WC.condF' z J (sq (rg (wY (yf fo37_2 z) z (wY (yl ty3 z z (l.cell 2 _ z)) z (wY (Y.neq_i z z) z (wY (ym z) z ?_))))))
       refine WL.cut 4 (σ := Unit) (fun _ w' => e = w') (fun _ => [(1, pt m 0), (40, vB ((!decide (a0.Kind = 5)) && (!decide (a0.Im = 0))))]) ?_ ?_
       ·refine WL.part 36 z (fun L => ?_) (fun L => ?_)
        ·refine ug z z (wY (yf fo37_9 z) z (ug z z (wY (yl ty25 z z (l.cell 9 _ z)) z (ug z z (wY (Y.neq_u (b := 0) z z) z (wY (Y.pick (b := true) z z) z (WL.ren (v' := vB ((!decide (a0.Kind = 5)) && (!decide (a0.Im = 0)))) 40 z (congrArg vB (andT L)) ?_)))))))
         exact nl (At.join () z (.cons z (.cons z .nil)))
        ·refine WL.gS z z z z (WL.gS z z z z (WL.gS z z z z (wY (Y.pick (b := false) z z) z (WL.ren (v' := vB ((!decide (a0.Kind = 5)) && (!decide (a0.Im = 0)))) 40 z (congrArg vB (andF L)) ?_))))
         exact nl (At.join () z (.cons z (.cons z .nil)))
       ·rintro _ _ rfl
        refine (show WL _ _ _ _ _ [(1, pt m 0), (40, vB ((!decide (a0.Kind = 5)) && (!decide (a0.Im = 0))))] _ from ?_)
        obtain ⟨aX, av, h⟩ := lt1 h
        refine WL.yE (ya z) (congrArg vB av.symm) z (nl (th ?_))
        rcases cnd h with ⟨M, h⟩ | ⟨M, h⟩
        ·refine WC.condT' z M (sk (th ?_))
         rcases cnd h with ⟨P, h⟩ | ⟨P, h⟩
         ·refine WC.condT' z P (sq (rg (wY (ya z) z (nl (th (rt (At.inBlockR (At.thenR ?_))))))))
          obtain rfl := some1 h
          have aw : Stp [] (Lg.O0 A) w r e := (su_ d z)
          exact At.res (.inl z) z (.tmp z .nil) ⟨z, (se_ aw z z)⟩
         ·refine WC.condF' z P (sk (At.inBlock (th (sq (rg (wY (ya z) z (nl (th (rt ?_)))))))))
          obtain rfl := some1 h
          have ax : Stp [] (Lg.O0 A) w r e := (su_ d z)
          exact At.res (.inl z) z (.tmp z .nil) ⟨z, (se_ ax z z)⟩
        ·refine WC.condF' z M (sq (rg (wY (yf fo37_2 z) z (wY (yl ty3 z z (l.cell 2 _ z)) z (wY (Y.neq_i z z) z (wY (ym z) z ?_))))))
         obtain ⟨aM, h, ay⟩ := bnd h
         refine WL.cut 5 (σ := (Bool × Own)) (fun x w' => x.1 = aM ∧ Stp [] r e x.2 w') (fun x => [(1, pt m 0), (49, vB x.1)]) ?_ ?_
         ·rcases cnd h with ⟨Q, h⟩ | ⟨Q, h⟩
          ·refine WL.ren 44 z (congrArg vB Q) (ug z z (wY (yf fo37_10 z) z (ug z z (wY (yL ty30 z z (l.cells 10 [vi a0.Hist.Scale, vu a0.Hist.Zero, vi a0.Hist.Pos.Offset, (Value.slice aa ab ac), vi a0.Hist.Neg.Offset, (Value.slice ad ae af)] z) z) z (ug z z ?_)))))
           have az := X.i d z z
           have aA := Z.i d z z
           obtain ⟨aN, aC, h⟩ := bnd h
           refine WL.call (vals := [ag [vi a0.Hist.Scale, vu a0.Hist.Zero, vi a0.Hist.Pos.Offset, (Value.slice aa ab ac), vi a0.Hist.Neg.Offset, (Value.slice ad ae af)]]) kok71 z z (c_point_bare (A := fun _ => True) (a0 := a0.Hist) (Sl.all az) (Sl.all aA) aC) ?_
           rintro aS aT ⟨rfl, aD⟩
           obtain ⟨aO, aP, aQ, ai⟩ := adoptE r (fun k => 1) aD
           refine ug z z (wY (Y.not z) z (wY (Y.pick (b := true) z z) z ?_))
           exact nl (At.join (σ := (Bool × Own)) ((!aN), aO) ⟨some1 h, (su_ ai z)⟩ (.cons z (.cons z .nil)))
          ·refine WL.ren 44 z (congrArg vB Q) (WL.gS z z z z (WL.gS z z z z (WL.gS z z z z (WL.gS z z z z (wY (Y.pick (b := false) z z) z ?_)))))
           exact nl (At.join (σ := (Bool × Own)) (false, r) ⟨some1 h, (sr_ _ _ _)⟩ (.cons z (.cons z .nil)))
         ·rintro ⟨aR, W⟩ t ⟨rfl, o⟩
          replace h := ay
          try dsimp only at h o
          refine (show WL _ _ _ _ _ [(1, pt m 0), (49, vB aR)] _ from ?_)
          refine wY (ya z) z (nl (th ?_))
          rcases cnd h with ⟨S, h⟩ | ⟨S, h⟩
          ·refine WC.condT' z S (sk (th ?_))
           rcases cnd h with ⟨T, h⟩ | ⟨T, h⟩
           ·refine WC.condT' z T (sq (rg (wY (ya z) z (nl (th (rt (At.inBlockR (At.thenR ?_))))))))
            obtain rfl := some1 h
            have aE : Stp [] (Lg.O0 A) w W t := (tr_ (su_ d z) (su_ o z))
            exact At.res (.inl z) z (.tmp z .nil) ⟨z, (se_ aE z z)⟩
           ·refine WC.condF' z T (sk (At.inBlock (th (sq (rg (wY (ya z) z (nl (th (rt ?_)))))))))
            obtain rfl := some1 h
            have aF : Stp [] (Lg.O0 A) w W t := (tr_ (su_ d z) (su_ o z))
            exact At.res (.inl z) z (.tmp z .nil) ⟨z, (se_ aF z z)⟩
          ·refine WC.condF' z S (rg (wY (yf fo37_11 z) z ?_))
           have ah := l.st o z
           refine wY (yl ty3 z z (ah.cell 16 _ z)) z (wY (Y.lss_i z z) z (wY (ym z) z ?_))
           refine WL.cut 4 (σ := Unit) (fun _ w' => t = w') (fun _ => [(57, vB ((decide (a0.Flags < 0)) || (decide (31 < a0.Flags))))]) ?_ ?_
           ·refine WL.part 53 z (fun U => ?_) (fun U => ?_)
            ·refine WL.gS z z z z (WL.gS z z z z (WL.gS z z z z (wY (Y.pick (b := true) z z) z (WL.ren (v' := vB ((decide (a0.Flags < 0)) || (decide (31 < a0.Flags)))) 57 z (congrArg vB (orT U)) ?_))))
             exact nl (At.join () z (.cons z .nil))
            ·refine ug z z (wY (yf fo37_11 z) z (ug z z (wY (yl ty3 z z (ah.cell 16 _ z)) z (ug z z (wY (Y.gtr_i z z) z (wY (Y.pick (b := false) z z) z (WL.ren (v' := vB ((decide (a0.Flags < 0)) || (decide (31 < a0.Flags)))) 57 z (congrArg vB (orF U)) ?_)))))))
             exact nl (At.join () z (.cons z .nil))
           ·rintro _ _ rfl
            refine (show WL _ _ _ _ _ [(57, vB ((decide (a0.Flags < 0)) || (decide (31 < a0.Flags))))] _ from ?_)
            obtain ⟨aY, aG, h⟩ := lt1 h
            refine WL.yE (ya z) (congrArg vB aG.symm) z (nl (th ?_))
            rcases cnd h with ⟨V, h⟩ | ⟨V, h⟩
            ·refine WC.condT' z V (sq (rg (wY (ya z) z (nl (th (rt (At.inBlockR (At.thenR ?_))))))))
             obtain rfl := some1 h
             have aH : Stp [] (Lg.O0 A) w W t := (tr_ (su_ d z) (su_ o z))
             exact At.res (.inl z) z (.tmp z .nil) ⟨z, (se_ aH z z)⟩
            ·refine WC.condF' z V (sk (At.inBlock (th (sq (rg (wY (ya z) z (nl (th (rt ?_)))))))))
             obtain rfl := some1 h
             have aI : Stp [] (Lg.O0 A) w W t := (tr_ (su_ d z) (su_ o z))
             exact At.res (.inl z) z (.tmp z .nil) ⟨z, (se_ aI z z)⟩
theorem c_num_Finite {a0 : UInt64} {w : World} {r0 : Bool} (h : num_Finite a0 = some r0) : Rets Try.prog 40 [vu a0] w (fun v w' => v = vB r0 ∧ Ext w w') := by
 unfold num_Finite at h
 refine Rets.enter Try.func40 z z ?_
 refine (show WC _ _ _ _ [(0, vu a0)] _ from ?_)
 refine sq (rg (wY (ya z) z (nl (th (sq (rg (wY (ym z) z (wY (Y.and_u (b := 9218868437227405312) z z) z (wY (Y.neq_u (b := 9218868437227405312) z z) z ?_)))))))))
 obtain ⟨j, d, h⟩ := lt1 h
 refine WL.yE (ya z) (congrArg vB d.symm) z (nl (th (rt ?_)))
 obtain rfl := some1 h
 have e : Stp [] (Lg.O0 (fun _ => False)) w (Lg.O0 (fun _ => False)) w := (sr_ _ _ _)
 exact At.res (.inl z) z (.tmp z .nil) ⟨z, (se_ e z z)⟩
theorem c_num_of {a0 : UInt64} {w : World} : Rets Try.prog 72 [vu a0] w (fun v w' => v = .float .f64 a0.toNat ∧ Ext w w') := by
  refine Rets.enter Try.func72 z z ?_
  refine (show WC _ _ _ _ [(0, vu a0)] _ from ?_)
  refine sq (rg (wY (ya (v := .float .f64 0) z) z (nl (th ?_))))
  refine sq (rg ?_)
  refine wY (ym z) z (wY (Y.ffrom xfrom_95 z) z ?_)
  refine wY (ya z) z (nl (th (rt ?_)))
  exact At.res (.inl z) z (.tmp z .nil) ⟨z, Ext.refl w⟩
theorem c_num_Less {a0 : UInt64} {a1 : UInt64} {w : World} {r0 : Bool} (h : num_Less a0 a1 = some r0) : Rets Try.prog 41 [vu a0, vu a1] w (fun v w' => v = vB r0 ∧ Ext w w') := by
  unfold num_Less at h
  obtain rfl := some1 h
  refine Rets.enter Try.func41 z z ?_
  refine (show WC _ _ _ _ [(0, vu a0), (1, vu a1)] _ from ?_)
  refine sq (rg (wY (ya (v := .bool false) z) z (nl (th ?_))))
  refine sq (rg ?_)
  refine wY (ym z) z (WL.call (vals := [vu a0]) kok72 z z (c_num_of) ?_)
  rintro F G ⟨rfl, j⟩
  obtain ⟨D, o, r, d⟩ := adoptE (Lg.O0 (fun _ => False)) (fun k => 1) j
  refine wY (ym z) z (WL.call (vals := [vu a1]) kok72 z z (c_num_of) ?_)
  rintro H l ⟨rfl, m⟩
  obtain ⟨E, t, C, e⟩ := adoptE D (fun k => 1) m
  refine wY (Y.fless z z) z ?_
  refine wY (ya z) z (nl (th (rt ?_)))
  have hs : Stp [] (Lg.O0 (fun _ => False)) w E l := (tr_ (su_ d z) (su_ e z))
  exact At.res (.inl z) z (.tmp z .nil) ⟨z, se_ hs z z⟩
theorem c_point_Check {A : Nat → Prop} {v0_1 : Value} {v0_13 : Value} {v0_15 : Value} {a0 : api_Point} {w : World} (hs0_1 : Sl rep_api_Pair w A v0_1 a0.Attrs) (hs0_13 : Sl Rep.u w A v0_13 a0.Hist.Pos.Counts) (hs0_15 : Sl Rep.u w A v0_15 a0.Hist.Neg.Counts) {r0 : Int} (h : point_Check a0 = some r0) : Rets Try.prog 14 [ag [vs a0.Name, v0_1, vi a0.Kind, vi a0.Temp, vB a0.Mono, vi a0.Start, vi a0.Time, vi a0.Int_, vu a0.Re, vu a0.Im, vi a0.Hist.Scale, vu a0.Hist.Zero, vi a0.Hist.Pos.Offset, v0_13, vi a0.Hist.Neg.Offset, v0_15, vi a0.Flags]] w (fun v w' => v = vi r0 ∧ Ext w w') := by
 unfold point_Check at h
 refine Rets.enter Try.func14 z z ?_
 have aC : Sl rep_api_Pair w (imm (Lg.O0 A)) v0_1 a0.Attrs := (Sl.start hs0_1)
 have aD : Sl Rep.u w (imm (Lg.O0 A)) v0_13 a0.Hist.Pos.Counts := (Sl.start hs0_13)
 have aE : Sl Rep.u w (imm (Lg.O0 A)) v0_15 a0.Hist.Neg.Counts := (Sl.start hs0_15)
 refine (show WC _ _ _ _ [(0, ag [vs a0.Name, v0_1, vi a0.Kind, vi a0.Temp, vB a0.Mono, vi a0.Start, vi a0.Time, vi a0.Int_, vu a0.Re, vu a0.Im, vi a0.Hist.Scale, vu a0.Hist.Zero, vi a0.Hist.Pos.Offset, v0_13, vi a0.Hist.Neg.Offset, v0_15, vi a0.Flags])] _ from ?_)
 refine sq (rg ?_)
 have bp := h
 obtain ⟨J, K, L, rfl⟩ := aC.shape
 have h := bp
 have bq := h
 obtain ⟨D, E, F, rfl⟩ := aD.shape
 have h := bq
 have br := h
 obtain ⟨G, H, I, rfl⟩ := aE.shape
 have h := br
 refine WL.box (O := (Lg.O0 A)) 11 [vs a0.Name, (Value.slice J K L), vi a0.Kind, vi a0.Temp, vB a0.Mono, vi a0.Start, vi a0.Time, vi a0.Int_, vu a0.Re, vu a0.Im, vi a0.Hist.Scale, vu a0.Hist.Zero, vi a0.Hist.Pos.Offset, (Value.slice D E F), vi a0.Hist.Neg.Offset, (Value.slice G H I), vi a0.Flags] z z z ?_
 intro C ck cF j al
 refine wY (ya z) z (nl (th (sq (sq (rg (wY (yf fo37_0 z) z (wY (yl ty9 z z (al.cell 0 _ z)) z (wY (yf fo37_1 z) z (wY (yl ty35 z z (al.cell 1 _ z)) z ?_)))))))))
 have aF := aC.i j z z
 obtain ⟨cR, bs, h⟩ := bnd h
 refine WL.call (vals := [vs a0.Name, (Value.slice J K L)]) kok35 z z (c_label_Check (A := fun _ => True) (Sl.all aF) bs) ?_
 rintro cG bt ⟨rfl, bu⟩
 obtain ⟨bl, cl, cm, e⟩ := adoptE ck (fun k => 1) bu
 refine wY (ya z) z (nl (th (sq (rg (wY (ym z) z (wY (Y.neq_i z z) z (nl (th ?_))))))))
 rcases cnd h with ⟨am, h⟩ | ⟨am, h⟩
 ·refine WC.condT' z am (sq (rg (wY (ym z) z (wY (ya z) z (nl (th (rt (At.thenR ?_))))))))
  obtain rfl := some1 h
  have bw : Stp [] (Lg.O0 A) w bl bt := (tr_ (su_ j z) (su_ e z))
  exact At.res (.inl z) z (.tmp z .nil) ⟨z, (se_ bw z z)⟩
 ·refine WC.condF' z am (sk (th (sq (WC.block (sq (rg ?_))))))
  have an := al.st e z
  refine wY (yL ty37 z z (an.cells 0 [vs a0.Name, (Value.slice J K L), vi a0.Kind, vi a0.Temp, vB a0.Mono, vi a0.Start, vi a0.Time, vi a0.Int_, vu a0.Re, vu a0.Im, vi a0.Hist.Scale, vu a0.Hist.Zero, vi a0.Hist.Pos.Offset, (Value.slice D E F), vi a0.Hist.Neg.Offset, (Value.slice G H I), vi a0.Flags] z) z) z ?_
  have S := aF.i e z z
  have bx := aD.i j z z
  have T := bx.i e z z
  have bz := aE.i j z z
  have U := bz.i e z z
  obtain ⟨cS, bA, h⟩ := bnd h
  refine WL.call (vals := [ag [vs a0.Name, (Value.slice J K L), vi a0.Kind, vi a0.Temp, vB a0.Mono, vi a0.Start, vi a0.Time, vi a0.Int_, vu a0.Re, vu a0.Im, vi a0.Hist.Scale, vu a0.Hist.Zero, vi a0.Hist.Pos.Offset, (Value.slice D E F), vi a0.Hist.Neg.Offset, (Value.slice G H I), vi a0.Flags]]) kok36 z z (c_point_kinds (A := fun _ => True) (a0 := a0) (Sl.all S) (Sl.all T) (Sl.all U) bA) ?_
  rintro cH ao ⟨rfl, bB⟩
  obtain ⟨aj, cn, co, d⟩ := adoptE bl (fun k => 1) bB
  refine wY (Y.not z) z ?_
  obtain ⟨cT, bC, h⟩ := lt1 h
  refine WL.yE (ya z) (congrArg vB bC.symm) z (nl (th ?_))
  rcases cnd h with ⟨ap, h⟩ | ⟨ap, h⟩
  ·refine WC.condT' z ap (sq (rg (wY (ya z) z (nl (th (rt (At.inBlockR (At.thenR ?_))))))))
   obtain rfl := some1 h
   have bD : Stp [] (Lg.O0 A) w aj ao := (tr_ (su_ j z) (tr_ (su_ e z) (su_ d z)))
   exact At.res (.inl z) z (.tmp z .nil) ⟨z, (se_ bD z z)⟩
  ·refine WC.condF' z ap (sq ?_)
   obtain ⟨cp, h, bE⟩ := bnd h
   refine WC.join (σ := (Bool × Own)) (fun x w' => x.1 = cp ∧ Stp [] aj ao x.2 w') (fun x => [(1, pt C 0), (16, vB x.1)]) ?_ ?_
   ·refine sq (rg (wY (yf fo37_4 z) z ?_))
    have aq := an.st d z
    refine wY (yl ty4 z z (aq.cell 4 _ z)) z (wY (ym z) z ?_)
    obtain ⟨cq, h, bF⟩ := bnd h
    refine WL.cut 4 (σ := (Bool × Own)) (fun x w' => x.1 = cq ∧ Stp [] aj ao x.2 w') (fun x => [(1, pt C 0), (23, vB x.1)]) ?_ ?_
    ·rcases cnd h with ⟨ar, h⟩ | ⟨ar, h⟩
     ·refine WL.ren 19 z (congrArg vB ar) (ug z z (wY (yL ty37 z z (aq.cells 0 [vs a0.Name, (Value.slice J K L), vi a0.Kind, vi a0.Temp, vB a0.Mono, vi a0.Start, vi a0.Time, vi a0.Int_, vu a0.Re, vu a0.Im, vi a0.Hist.Scale, vu a0.Hist.Zero, vi a0.Hist.Pos.Offset, (Value.slice D E F), vi a0.Hist.Neg.Offset, (Value.slice G H I), vi a0.Flags] z) z) z (ug z z ?_)))
      have bG := S.i d z z
      have bH := T.i d z z
      have bI := U.i d z z
      obtain ⟨cr, bJ, h⟩ := bnd h
      refine WL.call (vals := [ag [vs a0.Name, (Value.slice J K L), vi a0.Kind, vi a0.Temp, vB a0.Mono, vi a0.Start, vi a0.Time, vi a0.Int_, vu a0.Re, vu a0.Im, vi a0.Hist.Scale, vu a0.Hist.Zero, vi a0.Hist.Pos.Offset, (Value.slice D E F), vi a0.Hist.Neg.Offset, (Value.slice G H I), vi a0.Flags]]) kok37 z z (c_point_sum (A := fun _ => True) (a0 := a0) (Sl.all bG) (Sl.all bH) (Sl.all bI) bJ) ?_
      rintro cI cJ ⟨rfl, bK⟩
      obtain ⟨cs, ct, cu, aL⟩ := adoptE aj (fun k => 1) bK
      refine ug z z (wY (Y.not z) z (wY (Y.pick (b := true) z z) z ?_))
      exact nl (At.join (σ := (Bool × Own)) ((!cr), cs) ⟨some1 h, (su_ aL z)⟩ (.cons z (.cons z .nil)))
     ·refine WL.ren 19 z (congrArg vB ar) (WL.gS z z z z (WL.gS z z z z (WL.gS z z z z (wY (Y.pick (b := false) z z) z ?_))))
      exact nl (At.join (σ := (Bool × Own)) (false, aj) ⟨some1 h, (sr_ _ _ _)⟩ (.cons z (.cons z .nil)))
    ·rintro ⟨bm, bn⟩ cK ⟨rfl, t⟩
     replace h := bF
     try dsimp only at h t
     refine (show WL _ _ _ _ _ [(1, pt C 0), (23, vB bm)] _ from ?_)
     refine wY (ya z) z (nl (th ?_))
     rcases cnd h with ⟨au, h⟩ | ⟨au, h⟩
     ·refine WC.condT' z au (sk ?_)
      exact At.join (σ := (Bool × Own)) (bm, bn) ⟨some1 h, (su_ t z)⟩ (.cons z (.cons z .nil))
     ·refine WC.condF' z au (rg ?_)
      have bL := aq.st t z
      refine wY (yL ty37 z z (bL.cells 0 [vs a0.Name, (Value.slice J K L), vi a0.Kind, vi a0.Temp, vB a0.Mono, vi a0.Start, vi a0.Time, vi a0.Int_, vu a0.Re, vu a0.Im, vi a0.Hist.Scale, vu a0.Hist.Zero, vi a0.Hist.Pos.Offset, (Value.slice D E F), vi a0.Hist.Neg.Offset, (Value.slice G H I), vi a0.Flags] z) z) z ?_
      have bM := S.i d z z
      have bO := bM.i t z z
      have bP := T.i d z z
      have bQ := bP.i t z z
      have bR := U.i d z z
      have bS := bR.i t z z
      obtain ⟨cU, bT, h⟩ := bnd h
      refine WL.call (vals := [ag [vs a0.Name, (Value.slice J K L), vi a0.Kind, vi a0.Temp, vB a0.Mono, vi a0.Start, vi a0.Time, vi a0.Int_, vu a0.Re, vu a0.Im, vi a0.Hist.Scale, vu a0.Hist.Zero, vi a0.Hist.Pos.Offset, (Value.slice D E F), vi a0.Hist.Neg.Offset, (Value.slice G H I), vi a0.Flags]]) kok38 z z (c_point_times (A := fun _ => True) (a0 := a0) (Sl.all bO) (Sl.all bQ) (Sl.all bS) bT) ?_
      rintro cL cM ⟨rfl, bU⟩
      obtain ⟨bW, ca, cb, aG⟩ := adoptE bn (fun k => 1) bU
      refine wY (Y.not z) z ?_
      obtain ⟨bX, aM, h⟩ := lt1 h
      refine WL.yE (ya z) (congrArg vB aM.symm) z (nl ?_)
      exact At.join (σ := (Bool × Own)) (bX, bW) ⟨some1 h, (tr_ (su_ t z) (su_ aG z))⟩ (.cons z (.cons z .nil))
   ·rintro ⟨cw, bo⟩ bY ⟨rfl, l⟩
    replace h := bE
    try dsimp only at h l
    refine (show At _ _ _ [(1, pt C 0), (16, vB cw)] _ from ?_)
    refine th ?_
    rcases cnd h with ⟨V, h⟩ | ⟨V, h⟩
    ·refine WC.condT' z V (sq (rg (wY (ya z) z (nl (th (rt (At.inBlockR (At.thenR ?_))))))))
     obtain rfl := some1 h
     have aN : Stp [] (Lg.O0 A) w bo bY := (tr_ (su_ j z) (tr_ (su_ e z) (tr_ (su_ d z) (su_ l z))))
     exact At.res (.inl z) z (.tmp z .nil) ⟨z, (se_ aN z z)⟩
    ·refine WC.condF' z V (sq (rg ?_))
     have aO := an.st d z
     have aw := aO.st l z
     refine wY (yL ty37 z z (aw.cells 0 [vs a0.Name, (Value.slice J K L), vi a0.Kind, vi a0.Temp, vB a0.Mono, vi a0.Start, vi a0.Time, vi a0.Int_, vu a0.Re, vu a0.Im, vi a0.Hist.Scale, vu a0.Hist.Zero, vi a0.Hist.Pos.Offset, (Value.slice D E F), vi a0.Hist.Neg.Offset, (Value.slice G H I), vi a0.Flags] z) z) z ?_
     have aP := S.i d z z
     have aQ := aP.i l z z
     have aR := T.i d z z
     have ax := aR.i l z z
     have aS := U.i d z z
     have ay := aS.i l z z
     obtain ⟨cN, aT, h⟩ := bnd h
     refine WL.call (vals := [ag [vs a0.Name, (Value.slice J K L), vi a0.Kind, vi a0.Temp, vB a0.Mono, vi a0.Start, vi a0.Time, vi a0.Int_, vu a0.Re, vu a0.Im, vi a0.Hist.Scale, vu a0.Hist.Zero, vi a0.Hist.Pos.Offset, (Value.slice D E F), vi a0.Hist.Neg.Offset, (Value.slice G H I), vi a0.Flags]]) kok39 z z (c_point_own (A := fun _ => True) (a0 := a0) (Sl.all aQ) (Sl.all ax) (Sl.all ay) aT) ?_
     rintro cx W ⟨rfl, aU⟩
     obtain ⟨X, cc, cd, m⟩ := adoptE bo (fun k => 1) aU
     refine wY (Y.not z) z ?_
     obtain ⟨cO, aW, h⟩ := lt1 h
     refine WL.yE (ya z) (congrArg vB aW.symm) z (nl (th ?_))
     rcases cnd h with ⟨Z, h⟩ | ⟨Z, h⟩
     ·refine WC.condT' z Z (sq (rg (wY (ya z) z (nl (th (rt (At.inBlockR (At.thenR ?_))))))))
      obtain rfl := some1 h
      have aX : Stp [] (Lg.O0 A) w X W := (tr_ (su_ j z) (tr_ (su_ e z) (tr_ (su_ d z) (tr_ (su_ l z) (su_ m z)))))
      exact At.res (.inl z) z (.tmp z .nil) ⟨z, (se_ aX z z)⟩
     ·refine WC.condF' z Z (sq (rg (wY (yf fo37_4 z) z ?_)))
      have P := aw.st m z
      refine wY (yl ty4 z z (P.cell 4 _ z)) z (wY (ym z) z ?_)
      refine WL.cut 4 (σ := Unit) (fun _ w' => W = w') (fun _ => [(1, pt C 0), (38, vB (a0.Mono && (decide (a0.Kind = 2))))]) ?_ ?_
      ·refine WL.part 34 z (fun aa => ?_) (fun aa => ?_)
       ·refine ug z z (wY (yf fo37_2 z) z (ug z z (wY (yl ty3 z z (P.cell 2 _ z)) z (ug z z (wY (Y.eql_i z z) z (wY (Y.pick (b := true) z z) z (WL.ren (v' := vB (a0.Mono && (decide (a0.Kind = 2)))) 38 z (congrArg vB (andT aa)) ?_)))))))
        exact nl (At.join () z (.cons z (.cons z .nil)))
       ·refine WL.gS z z z z (WL.gS z z z z (WL.gS z z z z (wY (Y.pick (b := false) z z) z (WL.ren (v' := vB (a0.Mono && (decide (a0.Kind = 2)))) 38 z (congrArg vB (andF aa)) ?_))))
        exact nl (At.join () z (.cons z (.cons z .nil)))
      ·rintro _ _ rfl
       refine (show WL _ _ _ _ _ [(1, pt C 0), (38, vB (a0.Mono && (decide (a0.Kind = 2))))] _ from ?_)
       refine wY (ym z) z ?_
       obtain ⟨bZ, h, aY⟩ := bnd h
       refine WL.cut 5 (σ := (Bool × Own)) (fun x w' => x.1 = bZ ∧ Stp [] X W x.2 w') (fun x => [(1, pt C 0), (44, vB x.1)]) ?_ ?_
       ·rcases cnd h with ⟨ab, h⟩ | ⟨ab, h⟩
        ·refine WL.ren 39 z (congrArg vB ab) (ug z z (wY (yf fo37_8 z) z (ug z z (wY (yl ty25 z z (P.cell 8 _ z)) z (ug z z ?_)))))
         obtain ⟨b0, aZ, h⟩ := bnd h
         refine WL.call (vals := [vu a0.Re]) kok40 z z (c_num_Finite aZ) ?_
         rintro cy cz ⟨rfl, a1⟩
         obtain ⟨b1, ce, cf, aH⟩ := adoptE X (fun k => 1) a1
         refine ug z z (wY (Y.not z) z (wY (Y.pick (b := true) z z) z ?_))
         exact nl (At.join (σ := (Bool × Own)) ((!b0), b1) ⟨some1 h, (su_ aH z)⟩ (.cons z (.cons z .nil)))
        ·refine WL.ren 39 z (congrArg vB ab) (WL.gS z z z z (WL.gS z z z z (WL.gS z z z z (WL.gS z z z z (wY (Y.pick (b := false) z z) z ?_)))))
         exact nl (At.join (σ := (Bool × Own)) (false, X) ⟨some1 h, (sr_ _ _ _)⟩ (.cons z (.cons z .nil)))
       ·rintro ⟨b2, M⟩ ac ⟨rfl, o⟩
        replace h := aY
        try dsimp only at h o
        refine (show WL _ _ _ _ _ [(1, pt C 0), (44, vB b2)] _ from ?_)
        refine wY (ya z) z (nl (th ?_))
        rcases cnd h with ⟨ad, h⟩ | ⟨ad, h⟩
        ·refine WC.condT' z ad (sq (rg (wY (ya z) z (nl (th (rt (At.inBlockR (At.thenR ?_))))))))
         obtain rfl := some1 h
         have a2 : Stp [] (Lg.O0 A) w M ac := (tr_ (su_ j z) (tr_ (su_ e z) (tr_ (su_ d z) (tr_ (su_ l z) (tr_ (su_ m z) (su_ o z))))))
         exact At.res (.inl z) z (.tmp z .nil) ⟨z, (se_ a2 z z)⟩
        ·refine WC.condF' z ad (sq (rg (wY (yf fo37_4 z) z ?_)))
         have Q := P.st o z
         refine wY (yl ty4 z z (Q.cell 4 _ z)) z (wY (ym z) z ?_)
         obtain ⟨b3, h, a3⟩ := bnd h
         refine WL.cut 9 (σ := (Bool × Own)) (fun x w' => x.1 = b3 ∧ Stp [] M ac x.2 w') (fun x => [(1, pt C 0), (57, vB x.1)]) ?_ ?_
         ·rcases cnd h with ⟨ae, h⟩ | ⟨ae, h⟩
          ·refine WL.ren 48 z (congrArg vB ae) (ug z z (wY (yf fo37_7 z) z (ug z z (wY (yl ty3 z z (Q.cell 7 _ z)) z (ug z z (wY (Y.lss_i z z) z (ug z z (wY (ym z) z ?_))))))))
           obtain ⟨b4, h, a4⟩ := bnd h
           refine WL.cut 4 (σ := (Bool × Own)) (fun x w' => x.1 = b4 ∧ Stp [] M ac x.2 w') (fun x => [(1, pt C 0), (48, vB true), (56, vB x.1)]) ?_ ?_
           ·rcases cnd h with ⟨af, h⟩ | ⟨af, h⟩
            ·refine WL.ren 52 z (congrArg vB af) (WL.gS z z z z (WL.gS z z z z (WL.gS z z z z (ug z z (wY (Y.pick (b := true) z z) z ?_)))))
             exact nl (At.join (σ := (Bool × Own)) (true, M) ⟨some1 h, (sr_ _ _ _)⟩ (.cons z (.cons z (.cons z .nil))))
            ·refine WL.ren 52 z (congrArg vB af) (ug z z (wY (yf fo37_8 z) z (ug z z (wY (yl ty25 z z (Q.cell 8 _ z)) z (ug z z ?_)))))
             obtain ⟨b5, a5, h⟩ := bnd h
             refine WL.call (vals := [vu a0.Re, vu 0]) kok41 z z (c_num_Less a5) ?_
             rintro cA cC ⟨rfl, a6⟩
             obtain ⟨b6, cg, ch, aI⟩ := adoptE M (fun k => 1) a6
             refine ug z z (wY (Y.pick (b := false) z z) z ?_)
             exact nl (At.join (σ := (Bool × Own)) (b5, b6) ⟨some1 h, (su_ aI z)⟩ (.cons z (.cons z (.cons z .nil))))
           ·rintro ⟨aJ, b7⟩ cD ⟨rfl, ak⟩
            replace h := a4
            try dsimp only at h ak
            refine (show WL _ _ _ _ _ [(1, pt C 0), (48, vB true), (56, vB aJ)] _ from ?_)
            refine wY (Y.pick (b := true) z z) z ?_
            exact nl (At.join (σ := (Bool × Own)) (aJ, b7) ⟨some1 h, (su_ ak z)⟩ (.cons z (.cons z .nil)))
          ·refine WL.ren 48 z (congrArg vB ae) (WL.gS z z z z (WL.gS z z z z (WL.gS z z z z (WL.gS z z z z (WL.gS z z z z (WL.gS z z z z (WL.gS z z z z (WL.gS z z z z (wY (Y.pick (b := false) z z) z ?_)))))))))
           exact nl (At.join (σ := (Bool × Own)) (false, M) ⟨some1 h, (sr_ _ _ _)⟩ (.cons z (.cons z .nil)))
         ·rintro ⟨b8, av⟩ az ⟨rfl, r⟩
          replace h := a3
          try dsimp only at h r
          refine (show WL _ _ _ _ _ [(1, pt C 0), (57, vB b8)] _ from ?_)
          refine wY (ya z) z (nl (th ?_))
          rcases cnd h with ⟨ah, h⟩ | ⟨ah, h⟩
          ·refine WC.condT' z ah (sq (rg (wY (ya z) z (nl (th (rt (At.inBlockR (At.thenR ?_))))))))
           obtain rfl := some1 h
           have a7 : Stp [] (Lg.O0 A) w av az := (tr_ (su_ j z) (tr_ (su_ e z) (tr_ (su_ d z) (tr_ (su_ l z) (tr_ (su_ m z) (tr_ (su_ o z) (su_ r z)))))))
           exact At.res (.inl z) z (.tmp z .nil) ⟨z, (se_ a7 z z)⟩
          ·refine WC.condF' z ah (sq (rg (wY (yf fo37_2 z) z ?_)))
           have aA := Q.st r z
           refine wY (yl ty3 z z (aA.cell 2 _ z)) z (wY (Y.eql_i z z) z ?_)
           obtain ⟨cP, a8, h⟩ := lt1 h
           refine WL.yE (ya z) (congrArg vB a8.symm) z (nl (th ?_))
           rcases cnd h with ⟨ai, h⟩ | ⟨ai, h⟩
           ·refine WC.condT' z ai (sq (rg (wY (yf fo37_10 z) z (wY (yL ty30 z z (aA.cells 10 [vi a0.Hist.Scale, vu a0.Hist.Zero, vi a0.Hist.Pos.Offset, (Value.slice D E F), vi a0.Hist.Neg.Offset, (Value.slice G H I)] z) z) z ?_))))
            have a9 := ax.i m z z
            have ba := a9.i o z z
            have bb := ba.i r z z
            have bc := ay.i m z z
            have bd := bc.i o z z
            have bf := bd.i r z z
            obtain ⟨cQ, bg, h⟩ := bnd h
            refine WL.call (vals := [ag [vi a0.Hist.Scale, vu a0.Hist.Zero, vi a0.Hist.Pos.Offset, (Value.slice D E F), vi a0.Hist.Neg.Offset, (Value.slice G H I)]]) kok28 z z (c_hist_Check (A := fun _ => True) (a0 := a0.Hist) (Sl.all bb) (Sl.all bf) bg) ?_
            rintro cE bh ⟨rfl, bi⟩
            obtain ⟨b9, ci, cj, aK⟩ := adoptE av (fun k => 1) bi
            refine wY (ya z) z (nl (th (rt (At.inBlockR (At.thenR ?_)))))
            obtain rfl := some1 h
            have bj : Stp [] (Lg.O0 A) w b9 bh := (tr_ (su_ j z) (tr_ (su_ e z) (tr_ (su_ d z) (tr_ (su_ l z) (tr_ (su_ m z) (tr_ (su_ o z) (tr_ (su_ r z) (su_ aK z))))))))
            exact At.res (.inl z) z (.tmp z .nil) ⟨z, (se_ bj z z)⟩
           ·refine WC.condF' z ai (sk (At.inBlock (th (sq (rg (wY (ya z) z (nl (th (rt ?_)))))))))
            obtain rfl := some1 h
            have bk : Stp [] (Lg.O0 A) w av az := (tr_ (su_ j z) (tr_ (su_ e z) (tr_ (su_ d z) (tr_ (su_ l z) (tr_ (su_ m z) (tr_ (su_ o z) (su_ r z)))))))
            exact At.res (.inl z) z (.tmp z .nil) ⟨z, (se_ bk z z)⟩
theorem c_hist_span {A : Nat → Prop} {v0_1 : Value} {a0 : api_Side} {a1 : UInt64} {w : World} (hs0_1 : Sl Rep.u w A v0_1 a0.Counts) {r0 : Int} (h : hist_span a0 a1 = some r0) : Rets Try.prog 73 [ag [vi a0.Offset, v0_1], vu a1] w (fun v w' => v = vi r0 ∧ Ext w w') := by
 unfold hist_span at h
 refine Rets.enter Try.func73 z z ?_
 have l : Sl Rep.u w (imm (Lg.O0 A)) v0_1 a0.Counts := (Sl.start hs0_1)
 refine (show WC _ _ _ _ [(0, ag [vi a0.Offset, v0_1]), (1, vu a1)] _ from ?_)
 refine sq (rg ?_)
 have t := h
 obtain ⟨G, H, I, rfl⟩ := l.shape
 have h := t
 refine WL.box (O := (Lg.O0 A)) 11 [vi a0.Offset, (Value.slice G H I)] z z z ?_
 intro K r m d e
 refine wY (ya z) z (nl (th (sq (rg (wY (yf fo28_1 z) z (wY (yl ty26 z z (e.cell 1 _ z)) z ?_))))))
 have C := l.i d z z
 refine wY (Y.len ty26 z C) z ?_
 obtain ⟨J, o, h⟩ := lt1 h
 refine WL.yE (ya z) (congrArg vi o.symm) z (nl (th (sq (sq (rg (wY (ym z) z (wY (Y.eql_i z z) z (nl (th ?_)))))))))
 rcases cnd h with ⟨j, h⟩ | ⟨j, h⟩
 ·refine WC.condT' z j (sq (rg (wY (ya z) z (nl (th (rt (At.thenR ?_)))))))
  obtain rfl := some1 h
  have D : Stp [] (Lg.O0 A) w r m := (su_ d z)
  exact At.res (.inl z) z (.tmp z .nil) ⟨z, (se_ D z z)⟩
 ·refine WC.condF' z j (sk (th (sq (rg (wY (yf fo28_0 z) z (wY (yl ty3 z z (e.cell 0 _ z)) z (wY (ym z) z (wY (Y.add_i z z) z (wY (Y.sub_i z z) z ?_)))))))))
  refine wY (ym z) z (wY (Y.shr_iu z z) z (wY (yf fo28_0 z) z (wY (yl ty3 z z (e.cell 0 _ z)) z (wY (ym z) z (wY (Y.shr_iu z z) z (wY (Y.sub_i z z) z (wY (Y.add_i z z) z ?_)))))))
  obtain ⟨L, E, h⟩ := lt1 h
  refine WL.yE (ya z) (congrArg vi E.symm) z (nl (th (rt ?_)))
  obtain rfl := some1 h
  have F : Stp [] (Lg.O0 A) w r m := (su_ d z)
  exact At.res (.inl z) z (.tmp z .nil) ⟨z, (se_ F z z)⟩
theorem c_hist_down {A : Nat → Prop} {v0_1 : Value} {a0 : api_Side} {a1 : UInt64} {w : World} (hs0_1 : Sl Rep.u w A v0_1 a0.Counts) {r0 : api_Side} (h : hist_down a0 a1 = some r0) : Rets Try.prog 60 [ag [vi a0.Offset, v0_1], vu a1] w (fun v w' => ∃ (aN : Value), v = ag [vi r0.Offset, aN] ∧ Ext w w' ∧ Sl Rep.u w' (fun k => w.heap.size ≤ k) aN r0.Counts) := by
 unfold hist_down at h
 refine Rets.enter Try.func60 z z ?_
 have aO : Sl Rep.u w (imm (Lg.O0 A)) v0_1 a0.Counts := (Sl.start hs0_1)
 refine (show WC _ _ _ _ [(0, ag [vi a0.Offset, v0_1]), (1, vu a1)] _ from ?_)
 refine sq (rg ?_)
 have cu := h
 obtain ⟨V, W, X, rfl⟩ := aO.shape
 have h := cu
 refine WL.box (O := (Lg.O0 A)) 11 [vi a0.Offset, (Value.slice V W X)] z z z ?_
 intro Z dc dH aa cw
 refine WL.alloc (O := dc) 12 [vi 0, Value.slice none 0 0] ty28 z z ?_
 intro D aj dI E aP
 refine nl (th (sq (sq (rg (wY (yf fo28_1 z) z ?_)))))
 have ab := cw.st E z
 refine wY (yl ty26 z z (ab.cell 1 _ z)) z ?_
 have cx := aO.i aa z z
 have ac := cx.i E z z
 refine wY (Y.len ty26 z ac) z (wY (Y.eql_i z z) z (nl (th ?_)))
 rcases cnd h with ⟨ao, h⟩ | ⟨ao, h⟩
 ·refine WC.condT' z ao (sq (rg (wY (yb (vals := []) (cells := [vi 0, Value.slice none 0 0]) (fe_ z) (by kernel_rfl)) z (WL.store (v := ag [vi 0, Value.slice none 0 0]) (cells' := [vi 0, Value.slice none 0 0]) ty28 z z aP z (le_ z) z z ?_))))
  intro cy bg cz
  refine nl (th (rt (At.thenR ?_)))
  obtain rfl := some1 h
  have cA : Stp [12] (Lg.O0 A) w aj cy := (tr_ (su_ aa z) (tr_ (su_ E z) (su_ bg z)))
  exact At.res (.inl z) z (.cell z (cz.runAg 0 [vi 0, Value.slice none 0 0] ty28 z z z) .nil) ⟨Value.slice none 0 0, z, (se_ cA z z), (Or.inl ⟨z, z⟩)⟩
 ·refine WC.condF' z ao (sk (th (sq (WC.drawH [13, 14, 15, 16, 17, 18, 1001, 1002] [0, 1, 2, 3, 4, 5, 6, 7, 8, 9] aj 11 fmix z (by kernel_rfl) ?_))))
  intro cC d
  refine WD.y 0 z (by kernel_rfl) (fun _ _ _ => yf fo28_0 z) z (WD.y 1 z (by kernel_rfl) (fun dJ d6 bh => have cD := ab.st d z; have cE := cD.st bh z; yl ty3 z z (cE.cell 0 _ z)) z (WD.y 2 z (by kernel_rfl) (fun _ _ _ => ym z) z (WD.y 3 z (by kernel_rfl) (fun _ _ _ => Y.shr_iu z z) z (WD.y 4 z (by kernel_rfl) (fun dK d7 bi => have cF := ab.st d z; have cG := cF.st bi z; yL ty28 z z (cG.cells 0 [vi a0.Offset, (Value.slice V W X)] z) z) z (WD.y 5 z (by kernel_rfl) (fun _ _ _ => ym z) z ?_)))))
  obtain ⟨dd, h, cH⟩ := bnd h
  refine WD.join (σ := (List UInt64 × Own × Nat × Value)) (f' := 1) [9, 8, 7, 6, 5, 4, 3, 2, 1, 0] (fun x O' w' => x.1 = dd ∧ Stp [13, 14, 15, 16, 17, 18, 1001, 1002] aj cC x.2.1 w' ∧ Blk 1003 x.2.1 w' x.2.2.1 28 [vi 0, Value.slice none 0 0] ∧ OwnSl 1004 Rep.u 25 x.2.1 w' x.2.2.2 x.1 ∧ x.2.1 = O') (fun x => [(1, vu a1), (2, pt Z 0), (4, pt D 0), (5, Value.pointer (some ⟨x.2.2.1, 0, none⟩)), (21, ag [vi (shrI a0.Offset a1.toNat), x.2.2.2])]) (fun aQ => ?_) ?_
  ·refine WD.heavy2 6 9 z z (by kernel_rfl) ?_ ?_
   ·have cI := ac.i d z z
    obtain ⟨d8, cJ, h⟩ := bnd h
    refine WL.call (vals := [ag [vi a0.Offset, (Value.slice V W X)], vu a1]) kok73 z z (c_hist_span (A := fun _ => True) (a0 := a0) (Sl.all cI) cJ) ?_
    rintro dL cK ⟨rfl, cL⟩
    obtain ⟨aR, de, df, ay⟩ := adoptE aj (fun k => 1) cL
    refine nl (At.dq (su_ ay z) ?_)
    obtain ⟨dg, h, cM⟩ := bnd h
    refine WD.join (σ := (List UInt64 × Own × Nat × Value)) (f' := 1) [9, 8, 7, 6, 5, 4, 3, 2, 1, 0] (fun x O' w' => x.1 = dg ∧ Stp [13, 14, 15, 16] aR cK x.2.1 w' ∧ Blk 1001 x.2.1 w' x.2.2.1 28 [vi 0, Value.slice none 0 0] ∧ OwnSl 1002 Rep.u 25 x.2.1 w' x.2.2.2 x.1 ∧ x.2.1 = O') (fun x => [(1, vu a1), (2, pt Z 0), (4, pt D 0), (5, Value.pointer (some ⟨x.2.2.1, 0, none⟩)), (21, ag [vi (shrI a0.Offset a1.toNat), x.2.2.2])]) (fun aS => ?_) ?_
    ·refine WD.heavy2 7 9 z z (by kernel_rfl) ?_ ?_
     ·obtain ⟨dh, cN, h⟩ := bnd h
      refine WL.make (O := aR) (R := Rep.u) (zx := (0 : UInt64)) 13 (by decide) ty26 ty25 z (by decide) (by decide) z z (fun _ _ => z) cN z ?_
      intro d9 di dM az aT
      refine nl (At.dq (su_ az z) ?_)
      have cO := h
      obtain ⟨aU, aW, aX, rfl⟩ := aT.shape
      have h := cO
      refine WD.y 8 z (by kernel_rfl) (fun _ _ _ => yb (vals := [(0, vi (shrI a0.Offset a1.toNat)), (1, (Value.slice aU aW aX))]) (cells := [vi (shrI a0.Offset a1.toNat), (Value.slice aU aW aX)]) (fe_ z) (by kernel_rfl)) z (WD.heavy 9 z (by kernel_rfl) (WL.alloc (O := di) 14 [vi 0, Value.slice none 0 0] ty28 z z ?_))
      intro cP dN dt F bj
      refine nl (At.dq (su_ F z) ?_)
      obtain ⟨dO, G, bk⟩ := Blk.rlb 1001 rfl bj
      have bl := aT.st F z z z
      have bm := bl.st G z z z
      obtain ⟨cQ, H, bn⟩ := OwnSl.rlb 1002 rfl bm
      have bo := bk.st H z
      refine WD.own (tr_ (su_ G z) (su_ H z)) (WD.perm _ [9, 8, 7, 6, 5, 4, 3, 2, 1, 0] (by kernel_rfl) ?_)
      exact aS (dh, cQ, cP, (Value.slice aU aW aX)) _ _ _ ⟨some1 h, (tr_ (su_ az z) (tr_ (su_ F z) (tr_ (su_ G z) (su_ H z)))), bo, bn, z⟩ (.cons z (.cons z (.cons z (.cons z (.cons z .nil)))))
     ·try simp only [Option.bind_assoc] at h
      try simp only [Option.bind_some] at h
      refine WL.alloc (O := aR) 15 [vi 0, Value.slice none 0 0] ty28 z z ?_
      intro cR cS du ak bp
      refine nl (At.dq (su_ ak z) (WD.heavy 7 z (by kernel_rfl) ?_))
      obtain ⟨cT, bq, h⟩ := bnd h
      refine WL.make (O := cS) (R := Rep.u) (zx := (0 : UInt64)) 16 (by decide) ty26 ty25 z (by decide) (by decide) z z (fun _ _ => z) bq z ?_
      intro dP dQ dw I aA
      refine nl (At.dq (su_ I z) ?_)
      have br := h
      obtain ⟨ap, aq, ar, rfl⟩ := aA.shape
      have h := br
      refine WD.y 8 z (by kernel_rfl) (fun _ _ _ => yb (vals := [(0, vi (shrI a0.Offset a1.toNat)), (1, (Value.slice ap aq ar))]) (cells := [vi (shrI a0.Offset a1.toNat), (Value.slice ap aq ar)]) (fe_ z) (by kernel_rfl)) z ?_
      have bs := bp.st I z
      obtain ⟨dR, J, bt⟩ := Blk.rlb 1001 rfl bs
      have bu := aA.st J z z z
      obtain ⟨cU, K, bw⟩ := OwnSl.rlb 1002 rfl bu
      have bx := bt.st K z
      refine WD.own (tr_ (su_ J z) (su_ K z)) (WD.perm _ [9, 8, 7, 6, 5, 4, 3, 2, 1, 0] (by kernel_rfl) ?_)
      exact aS (cT, cU, cR, (Value.slice ap aq ar)) _ _ _ ⟨some1 h, (tr_ (su_ ak z) (tr_ (su_ I z) (tr_ (su_ J z) (su_ K z)))), bx, bw, z⟩ (.cons z (.cons z (.cons z (.cons z (.cons z .nil)))))
    ·rintro ⟨dj, ea, cr, cs⟩ _ dS ⟨rfl, aC, aY, aZ, rfl⟩
     replace h := cM
     try dsimp only at h aC aY aZ
     refine (show WD _ _ _ _ _ _ _ _ [(1, vu a1), (2, pt Z 0), (4, pt D 0), (5, pt cr 0), (21, ag [vi (shrI a0.Offset a1.toNat), cs])] _ _ from ?_)
     obtain ⟨dT, L, bz⟩ := Blk.rlb 1003 rfl aY
     have bA := aZ.st L z z z
     obtain ⟨cV, M, bB⟩ := OwnSl.rlb 1004 rfl bA
     have bC := bz.st M z
     refine WD.own (tr_ (su_ L z) (su_ M z)) (WD.perm _ [9, 8, 7, 6, 5, 4, 3, 2, 1, 0] (by kernel_rfl) ?_)
     exact aQ (dj, cV, cr, cs) _ _ _ ⟨some1 h, (tr_ (su_ ay z) (tr_ (su_ aC z) (tr_ (su_ L z) (su_ M z)))), bC, bB, z⟩ (.cons z (.cons z (.cons z (.cons z (.cons z .nil)))))
   ·try simp only [Option.bind_assoc] at h
    try simp only [Option.bind_some] at h
    refine WL.alloc (O := aj) 17 [vi 0, Value.slice none 0 0] ty28 z z ?_
    intro cW cX dx P bD
    refine nl (At.dq (su_ P z) (WD.heavy 6 z (by kernel_rfl) ?_))
    have bE := ac.i d z z
    have bF := bE.i P z z
    obtain ⟨dU, bG, h⟩ := bnd h
    refine WL.call (vals := [ag [vi a0.Offset, (Value.slice V W X)], vu a1]) kok73 z z (c_hist_span (A := fun _ => True) (a0 := a0) (Sl.all bF) bG) ?_
    rintro dy dz ⟨rfl, bH⟩
    obtain ⟨cY, da, db, Q⟩ := adoptE cX (fun k => 1) bH
    refine nl (At.dq (su_ Q z) (WD.heavy 7 z (by kernel_rfl) ?_))
    obtain ⟨cZ, bI, h⟩ := bnd h
    refine WL.make (O := cY) (R := Rep.u) (zx := (0 : UInt64)) 18 (by decide) ty26 ty25 z (by decide) (by decide) z z (fun _ _ => z) bI z ?_
    intro dV dW dA S aD
    refine nl (At.dq (su_ S z) ?_)
    have bJ := h
    obtain ⟨au, av, aw, rfl⟩ := aD.shape
    have h := bJ
    refine WD.y 8 z (by kernel_rfl) (fun _ _ _ => yb (vals := [(0, vi (shrI a0.Offset a1.toNat)), (1, (Value.slice au av aw))]) (cells := [vi (shrI a0.Offset a1.toNat), (Value.slice au av aw)]) (fe_ z) (by kernel_rfl)) z ?_
    have bK := bD.st Q z
    have bL := bK.st S z
    obtain ⟨dX, T, bM⟩ := Blk.rlb 1003 rfl bL
    have bO := aD.st T z z z
    obtain ⟨c0, U, bP⟩ := OwnSl.rlb 1004 rfl bO
    have bQ := bM.st U z
    refine WD.own (tr_ (su_ T z) (su_ U z)) (WD.perm _ [9, 8, 7, 6, 5, 4, 3, 2, 1, 0] (by kernel_rfl) ?_)
    exact aQ (cZ, c0, cW, (Value.slice au av aw)) _ _ _ ⟨some1 h, (tr_ (su_ P z) (tr_ (su_ Q z) (tr_ (su_ S z) (tr_ (su_ T z) (su_ U z))))), bQ, bP, z⟩ (.cons z (.cons z (.cons z (.cons z (.cons z .nil)))))
  ·rintro ⟨dk, ct, al, dl⟩ _ dY ⟨rfl, t, a2, ax, rfl⟩
   replace h := cH
   try dsimp only at h t a2 ax
   refine (show WD _ _ _ _ _ _ _ _ [(1, vu a1), (2, pt Z 0), (4, pt D 0), (5, pt al 0), (21, ag [vi (shrI a0.Offset a1.toNat), dl])] _ _ from ?_)
   refine WD.phase [1003] [0, 1, 2, 3, 4, 5, 6, 7, 8, 9, 10] (by kernel_rfl) (by kernel_rfl) (WD.heavy 10 z (by kernel_rfl) ?_)
   have bR := h
   obtain ⟨l, m, o, rfl⟩ := ax.shape
   have h := bR
   refine WL.store (v := ag [vi (shrI a0.Offset a1.toNat), (Value.slice l m o)]) (cells' := [vi (shrI a0.Offset a1.toNat), (Value.slice l m o)]) ty28 z z a2 z (le_ z) z z ?_
   intro aE e aF
   refine nl (At.dq (su_ e z) (WD.done_ (by kernel_rfl) (th (sq (sq (rg (wY (yf fo28_1 z) z ?_)))))))
   have bS := ab.st d z
   have bT := bS.st t z
   have aG := bT.st e z
   refine wY (yl ty26 z z (aG.cell 1 _ z)) z ?_
   have bU := ac.i d z z
   have bW := bU.i t z z
   have aH := bW.i e z z
   refine wY (Y.len ty26 z aH) z (wY (ym z) z (nl (th (WC.block ?_))))
   obtain ⟨a3, h, bX⟩ := flow1 h
   obtain ⟨a4, h⟩ := loop_some h
   refine WC.joinB 0 (σ := (List UInt64 × Own)) (fun x w' => a3 = .go x.1 ∧ Stp [1004, 1005] ct aE x.2 w' ∧ OwnSl 1006 Rep.u 25 x.2 w' (Value.slice l m o) x.1) (fun x => [(4, pt D 0), (5, pt al 0)]) ?_ ?_
   ·have bY := ax.st e z z z
    obtain ⟨c1, a5, bZ⟩ := OwnSl.rlb 1005 rfl bY
    refine WC.loop (σ := (List UInt64 × Int × Own)) (fun x k w' => loopN k (hist_down_lp1 a0 a1) (x.1, x.2.1) = some a3 ∧ Stp [1004, 1005] ct aE x.2.2 w' ∧ OwnSl 1005 Rep.u 25 x.2.2 w' (Value.slice l m o) x.1) (fun x => [(1, vu a1), (2, pt Z 0), (4, pt D 0), (5, pt al 0), (23, (Value.slice V W X)), (24, vi (a0.Counts.length : Int)), (25, vi x.2.1)]) (dk, 0, c1) a4 (.cons z (.cons z (.cons z (.cons z (.cons z (.cons z (.cons z .nil))))))) ⟨h, (su_ a5 z), bZ⟩ ?_
    rintro ⟨c2, a6, c3⟩ a4 dB ⟨h, j, r⟩
    obtain ⟨c4, dZ, rfl, h, aI⟩ := rnd1 h
    unfold hist_down_lp1 at h
    try dsimp only at h j r
    refine (show WC _ _ _ _ [(1, vu a1), (2, pt Z 0), (4, pt D 0), (5, pt al 0), (23, (Value.slice V W X)), (24, vi (a0.Counts.length : Int)), (25, vi a6)] _ from ?_)
    refine sq (rg (wY (Y.lss_i z z) z (nl (th (sq ?_)))))
    rcases cnd h with ⟨ad, h⟩ | ⟨ad, h⟩
    ·refine WC.condT' z ad (sk (th (sq (WC.block (sq (rg (wY (ym z) z ?_)))))))
     obtain ⟨c5, b0, h⟩ := bnd h
     have b1 := aH.i j z z
     obtain ⟨d0, dm, dn, dC, b2, b3, b4, ae, a7, b5⟩ := Sl.at2 b1 b0
     obtain rfl := a7
     replace ae : CellsAt _ _ _ [vu c5] := ae
     have a8 := CAt.imm ae b5
     refine wY (Y.indexAddr ty26 ty25 z b2 z b3 b4) z (wY (yl ty25 z z a8.at_) z (wY (ya z) z (wY (ya z) z (nl (th (rg (wY (yf fo28_1 z) z ?_)))))))
     have aJ := aF.st j z
     refine wY (yl ty26 z z (aJ.cell 1 _ z)) z (wY (yf fo28_0 z) z ?_)
     have b6 := aG.st j z
     refine wY (yl ty3 z z (b6.cell 0 _ z)) z (wY (ym z) z (wY (Y.add_i z z) z (wY (ym z) z (wY (Y.shr_iu z z) z (wY (yf fo28_0 z) z (wY (yl ty3 z z (aJ.cell 0 _ z)) z (wY (Y.sub_i z z) z ?_)))))))
     obtain ⟨c6, b7, h⟩ := bnd h
     obtain ⟨d1, dp, dD, aK, b8, b9, af, a9⟩ := OwnSl.at r b7
     obtain rfl := a9
     replace af : CellsAt _ _ _ [vu c6] := af
     have ba := CAt.own r aK af
     refine wY (Y.indexAddr ty26 ty25 z aK z b8 b9) z (wY (yl ty25 z z ba.at_) z (wY (ym z) z (wY (Y.add_u z z) z ?_)))
     obtain ⟨c7, ca, h⟩ := bnd h
     obtain ⟨d2, dr, dE, ah, cb, cc, ai, bb⟩ := OwnSl.at r ca
     obtain rfl := bb
     replace ai : CellsAt _ _ _ [vu c7] := ai
     have ds := CAt.own r ah ai
     refine wY (Y.indexAddr ty26 ty25 z ah z cb cc) z ?_
     obtain ⟨d3, cd, h⟩ := lt1 h
     refine WL.ren 44 z (congrArg vu cd.symm) ?_
     obtain ⟨ce, bc, h⟩ := bnd h
     refine WL.storeOwn (by decide) ty25 z z z r ah bc ?_
     intro dF bd cf
     refine nl (At.inBlock (th (rg (wY (Y.add_i z z) z (wY (ym z) z (nl ?_))))))
     exact At.round (ce, w64 (a6 + 1), c3) c4 (Nat.lt_succ_self _) ⟨next1 h aI, (tr_ (su_ j z) (su_ bd z)), cf⟩ (.cons z (.cons z (.cons z (.cons z (.cons z (.cons z (.cons z .nil)))))))
    ·refine WC.condF' z ad (WC.exit (At.thenX (At.loopX ?_)))
     obtain ⟨c8, bf, cg⟩ := OwnSl.rlb 1006 rfl r
     exact At.hitB (σ := (List UInt64 × Own)) (c2, c8) ⟨brk1 h aI, (tr_ (su_ j z) (su_ bf z)), cg⟩ (.cons z (.cons z .nil))
   ·rintro ⟨d4, d5⟩ dG ⟨rfl, C, aL⟩
    replace h := flowK_go bX
    try dsimp only at h C aL
    refine (show At _ _ _ [(4, pt D 0), (5, pt al 0)] _ from ?_)
    refine At.inBlockHit (th (sq (rg ?_)))
    have ch := aF.st C z
    refine wY (yL ty28 z z (ch.cells 0 [vi (shrI a0.Offset a1.toNat), (Value.slice l m o)] z) z) z ?_
    have ci := aP.st d z
    have cj := ci.st t z
    have ck := cj.st e z
    have cl := ck.st C z
    refine WL.store (v := ag [vi (shrI a0.Offset a1.toNat), (Value.slice l m o)]) (cells' := [vi (shrI a0.Offset a1.toNat), (Value.slice l m o)]) ty28 z z cl z (le_ z) z z ?_
    intro cm am cn
    refine nl (th (rt ?_))
    obtain rfl := some1 h
    have co := aL.st am z z z
    obtain ⟨c9, an, cp⟩ := OwnSl.giveF rfl Flat.u co
    have aM : Stp [12, 13, 14, 15, 16, 17, 18, 1001, 1002, 1003, 1004, 1005, 1006] (Lg.O0 A) w c9 cm := (tr_ (su_ aa z) (tr_ (su_ E z) (tr_ (su_ d z) (tr_ (su_ t z) (tr_ (su_ e z) (tr_ (su_ C z) (tr_ (su_ am z) (su_ an z))))))))
    have cq := cn.st an z
    exact At.res (.inl z) z (.cell z (cq.runAg 0 [vi (shrI a0.Offset a1.toNat), (Value.slice l m o)] ty28 z z z) .nil) ⟨(Value.slice l m o), z, (se_ aM z z), (Sl.outF cp aM low0)⟩
theorem c_hist_Down {A : Nat → Prop} {v0_3 : Value} {v0_5 : Value} {a0 : api_Hist} {a1 : Int} {w : World} (hs0_3 : Sl Rep.u w A v0_3 a0.Pos.Counts) (hs0_5 : Sl Rep.u w A v0_5 a0.Neg.Counts) {r0 : api_Hist} {r1 : Int} (h : hist_Down a0 a1 = some (r0, r1)) : Rets Try.prog 31 [ag [vi a0.Scale, vu a0.Zero, vi a0.Pos.Offset, v0_3, vi a0.Neg.Offset, v0_5], vi a1] w (fun v w' => ∃ (ae : Value) (af : Value), v = Value.tuple (List.toArray [ag [vi r0.Scale, vu r0.Zero, vi r0.Pos.Offset, ae, vi r0.Neg.Offset, af], vi r1]) ∧ Ext w w' ∧ Sl Rep.u w' (fun k => w.heap.size ≤ k) ae r0.Pos.Counts ∧ Sl Rep.u w' (fun k => w.heap.size ≤ k) af r0.Neg.Counts) := by
 unfold hist_Down at h
 refine Rets.enter Try.func31 z z ?_
 have ah : Sl Rep.u w (imm (Lg.O0 A)) v0_3 a0.Pos.Counts := (Sl.start hs0_3)
 have ai : Sl Rep.u w (imm (Lg.O0 A)) v0_5 a0.Neg.Counts := (Sl.start hs0_5)
 refine (show WC _ _ _ _ [(0, ag [vi a0.Scale, vu a0.Zero, vi a0.Pos.Offset, v0_3, vi a0.Neg.Offset, v0_5]), (1, vi a1)] _ from ?_)
 refine sq (rg ?_)
 have aY := h
 obtain ⟨L, M, P, rfl⟩ := ah.shape
 have h := aY
 have aZ := h
 obtain ⟨Q, S, T, rfl⟩ := ai.shape
 have h := aZ
 refine WL.box (O := (Lg.O0 A)) 11 [vi a0.Scale, vu a0.Zero, vi a0.Pos.Offset, (Value.slice L M P), vi a0.Neg.Offset, (Value.slice Q S T)] z z z ?_
 intro aW bz bG l a2
 refine WL.alloc (O := bz) 12 [vi 0, vu 0, vi 0, Value.slice none 0 0, vi 0, Value.slice none 0 0] ty30 z z ?_
 intro aX bA bH j U
 refine wY (ya z) z (nl (th (sq (sq (rg ?_)))))
 have t := a2.st j z
 refine wY (yL ty30 z z (t.cells 0 [vi a0.Scale, vu a0.Zero, vi a0.Pos.Offset, (Value.slice L M P), vi a0.Neg.Offset, (Value.slice Q S T)] z) z) z ?_
 have a3 := ah.i l z z
 have aj := a3.i j z z
 have a4 := ai.i l z z
 have ak := a4.i j z z
 obtain ⟨bP, a5, h⟩ := bnd h
 refine WL.call (vals := [ag [vi a0.Scale, vu a0.Zero, vi a0.Pos.Offset, (Value.slice L M P), vi a0.Neg.Offset, (Value.slice Q S T)]]) kok28 z z (c_hist_Check (A := fun _ => True) (a0 := a0) (Sl.all aj) (Sl.all ak) a5) ?_
 rintro bI a6 ⟨rfl, a7⟩
 obtain ⟨Z, bB, bC, d⟩ := adoptE bA (fun k => 1) a7
 refine wY (ya z) z (nl (th (sq (rg (wY (ym z) z (wY (Y.neq_i z z) z (nl (th ?_))))))))
 rcases cnd h with ⟨V, h⟩ | ⟨V, h⟩
 ·refine WC.condT' z V (sq (rg (wY (yb (vals := []) (cells := [vi 0, vu 0, vi 0, Value.slice none 0 0, vi 0, Value.slice none 0 0]) (fe_ z) (by kernel_rfl)) z (wY (ym z) z ?_))))
  have a8 := U.st d z
  refine WL.store (v := ag [vi 0, vu 0, vi 0, Value.slice none 0 0, vi 0, Value.slice none 0 0]) (cells' := [vi 0, vu 0, vi 0, Value.slice none 0 0, vi 0, Value.slice none 0 0]) ty30 z z a8 z (le_ z) z z ?_
  intro a9 ao ba
  refine wY (ya z) z (nl (th (rt (At.thenR ?_))))
  obtain ⟨rfl, rfl⟩ := tup2 h
  have bb : Stp [12] (Lg.O0 A) w Z a9 := (tr_ (su_ l z) (tr_ (su_ j z) (tr_ (su_ d z) (su_ ao z))))
  exact At.res (.inl z) z (.cell z (ba.runAg 0 [vi 0, vu 0, vi 0, Value.slice none 0 0, vi 0, Value.slice none 0 0] ty30 z z z) (.tmp z .nil)) ⟨Value.slice none 0 0, Value.slice none 0 0, z, (se_ bb z z), (Or.inl ⟨z, z⟩), (Or.inl ⟨z, z⟩)⟩
 ·refine WC.condF' z V (sk (th (sq (sq (rg (wY (ym z) z (wY (Y.lss_i z z) z (wY (ym z) z ?_))))))))
  refine WL.cut 6 (σ := Unit) (fun _ w' => a6 = w') (fun _ => [(1, vi a1), (2, pt aW 0), (4, pt aX 0), (21, vB ((decide (a1 < 0)) || (decide (w64 (a0.Scale - (-10)) < a1))))]) ?_ ?_
  ·refine WL.part 15 z (fun W => ?_) (fun W => ?_)
   ·refine WL.gS z z z z (WL.gS z z z z (WL.gS z z z z (WL.gS z z z z (WL.gS z z z z (wY (Y.pick (b := true) z z) z (WL.ren (v' := vB ((decide (a1 < 0)) || (decide (w64 (a0.Scale - (-10)) < a1)))) 21 z (congrArg vB (orT W)) ?_))))))
    exact nl (At.join () z (.cons z (.cons z (.cons z (.cons z .nil)))))
   ·refine ug z z (wY (ym z) z (ug z z (wY (yf fo30_0 z) z (ug z z ?_))))
    have bc := t.st d z
    refine wY (yl ty3 z z (bc.cell 0 _ z)) z (ug z z (wY (Y.sub_i z z) z (ug z z (wY (Y.gtr_i z z) z (wY (Y.pick (b := false) z z) z (WL.ren (v' := vB ((decide (a1 < 0)) || (decide (w64 (a0.Scale - (-10)) < a1)))) 21 z (congrArg vB (orF W)) ?_))))))
    exact nl (At.join () z (.cons z (.cons z (.cons z (.cons z .nil)))))
  ·rintro _ _ rfl
   refine (show WL _ _ _ _ _ [(1, vi a1), (2, pt aW 0), (4, pt aX 0), (21, vB ((decide (a1 < 0)) || (decide (w64 (a0.Scale - (-10)) < a1))))] _ from ?_)
   refine nl (th ?_)
   rcases cnd h with ⟨X, h⟩ | ⟨X, h⟩
   ·refine WC.condT' z X (sq (rg (wY (yb (vals := []) (cells := [vi 0, vu 0, vi 0, Value.slice none 0 0, vi 0, Value.slice none 0 0]) (fe_ z) (by kernel_rfl)) z ?_)))
    have bd := U.st d z
    refine WL.store (v := ag [vi 0, vu 0, vi 0, Value.slice none 0 0, vi 0, Value.slice none 0 0]) (cells' := [vi 0, vu 0, vi 0, Value.slice none 0 0, vi 0, Value.slice none 0 0]) ty30 z z bd z (le_ z) z z ?_
    intro bf ap bg
    refine wY (ya z) z (nl (th (rt (At.thenR ?_))))
    obtain ⟨rfl, rfl⟩ := tup2 h
    have bh : Stp [12] (Lg.O0 A) w Z bf := (tr_ (su_ l z) (tr_ (su_ j z) (tr_ (su_ d z) (su_ ap z))))
    exact At.res (.inl z) z (.cell z (bg.runAg 0 [vi 0, vu 0, vi 0, Value.slice none 0 0, vi 0, Value.slice none 0 0] ty30 z z z) (.tmp z .nil)) ⟨Value.slice none 0 0, Value.slice none 0 0, z, (se_ bh z z), (Or.inl ⟨z, z⟩), (Or.inl ⟨z, z⟩)⟩
   ·refine WC.condF' z X (sk (th (sq (WC.drawH [] [0, 1, 2, 3, 4, 5, 6, 7, 8, 9, 10, 11, 12, 13, 14, 15, 16] Z 19 fmix z (by kernel_rfl) ?_))))
    intro bJ e
    refine WD.y 0 z (by kernel_rfl) (fun _ _ _ => yf fo30_0 z) z (WD.y 1 z (by kernel_rfl) (fun bK bQ aq => have bi := t.st d z; have bj := bi.st e z; have bk := bj.st aq z; yl ty3 z z (bk.cell 0 _ z)) z (WD.y 2 z (by kernel_rfl) (fun _ _ _ => ym z) z (WD.y 3 z (by kernel_rfl) (fun _ _ _ => Y.sub_i z z) z (WD.y 4 z (by kernel_rfl) (fun _ _ _ => yf fo30_1 z) z (WD.y 5 z (by kernel_rfl) (fun bL bR ar => have bl := t.st d z; have bm := bl.st e z; have bn := bm.st ar z; yl ty25 z z (bn.cell 1 _ z)) z (WD.y 6 z (by kernel_rfl) (fun _ _ _ => yf fo30_2 z) z (WD.y 7 z (by kernel_rfl) (fun bM bS au => have bo := t.st d z; have bp := bo.st e z; have bq := bp.st au z; yL ty28 z z (bq.cells 2 [vi a0.Pos.Offset, (Value.slice L M P)] z) z) z (WD.y 8 z (by kernel_rfl) (fun _ _ _ => ym z) z (WD.y 9 z (by kernel_rfl) (fun _ _ _ => Y.conv_iu ty3.u ty92.u z) z ?_)))))))))
    refine WD.y 11 z (by kernel_rfl) (fun _ _ _ => yf fo30_3 z) z (WD.y 12 z (by kernel_rfl) (fun bD bO al => have av := t.st d z; have aw := av.st e z; have ax := aw.st al z; yL ty28 z z (ax.cells 4 [vi a0.Neg.Offset, (Value.slice Q S T)] z) z) z (WD.y 13 z (by kernel_rfl) (fun _ _ _ => ym z) z (WD.y 14 z (by kernel_rfl) (fun _ _ _ => Y.conv_iu ty3.u ty92.u z) z (WD.heavy 10 z (by kernel_rfl) ?_))))
    have ay := aj.i d z z
    have az := ay.i e z z
    obtain ⟨C, aA, h⟩ := bnd h
    refine WL.call (vals := [ag [vi a0.Pos.Offset, (Value.slice L M P)], vu (toU64 a1)]) kok60 z z (c_hist_down (A := fun _ => True) (a0 := a0.Pos) (Sl.all az) aA) ?_
    rintro bE aC ⟨br, rfl, aD, bs⟩
    obtain ⟨am, bw, ac, m⟩ := adoptE Z (fun k => 1) aD
    have aE : Sl Rep.u aC (frs am) br C.Counts := Sl.adoptF bs (fun k hk => ⟨hk, z⟩) ac
    refine nl (At.dq (su_ m z) (WD.heavy 15 z (by kernel_rfl) ?_))
    have aF := ak.i d z z
    have aG := aF.i e z z
    have aH := aG.i m z z
    obtain ⟨D, aI, h⟩ := bnd h
    refine WL.call (vals := [ag [vi a0.Neg.Offset, (Value.slice Q S T)], vu (toU64 a1)]) kok60 z z (c_hist_down (A := fun _ => True) (a0 := a0.Neg) (Sl.all aH) aI) ?_
    rintro bF aJ ⟨bt, rfl, aK, bu⟩
    obtain ⟨an, bx, ad, o⟩ := adoptE am (fun k => 1) aK
    have aa : Sl Rep.u aJ (frs an) bt D.Counts := Sl.adoptF bu (fun k hk => ⟨hk, z⟩) ad
    refine nl (At.dq (su_ o z) ?_)
    have ab := aE.f o z
    have aL := h
    obtain ⟨E, F, G, rfl⟩ := ab.shape
    have h := aL
    have aM := h
    obtain ⟨H, I, J, rfl⟩ := aa.shape
    have h := aM
    refine WD.y 16 z (by kernel_rfl) (fun _ _ _ => yb (vals := [(0, vi (w64 (a0.Scale - a1))), (1, vu a0.Zero), (2, ag [vi C.Offset, (Value.slice E F G)]), (3, ag [vi D.Offset, (Value.slice H I J)])]) (cells := [vi (w64 (a0.Scale - a1)), vu a0.Zero, vi C.Offset, (Value.slice E F G), vi D.Offset, (Value.slice H I J)]) (fe_ z) (by kernel_rfl)) z (WD.phase [12] [0, 1, 2, 3, 4, 5, 6, 7, 8, 9, 10, 11, 12, 13, 14, 15, 16, 17, 18] (by kernel_rfl) (by kernel_rfl) (WD.heavy 17 z (by kernel_rfl) ?_))
    have aN := U.st d z
    have aO := aN.st e z
    have aP := aO.st m z
    have aQ := aP.st o z
    refine WL.store (v := ag [vi (w64 (a0.Scale - a1)), vu a0.Zero, vi C.Offset, (Value.slice E F G), vi D.Offset, (Value.slice H I J)]) (cells' := [vi (w64 (a0.Scale - a1)), vu a0.Zero, vi C.Offset, (Value.slice E F G), vi D.Offset, (Value.slice H I J)]) ty30 z z aQ z (le_ z) z z ?_
    intro aR r aS
    refine nl (At.dq (su_ r z) (WD.y 18 z (by kernel_rfl) (fun _ _ _ => ya z) z (WD.done_ (by kernel_rfl) (th (rt ?_)))))
    obtain ⟨rfl, rfl⟩ := tup2 h
    have K : Stp [12] (Lg.O0 A) w an aR := (tr_ (su_ l z) (tr_ (su_ j z) (tr_ (su_ d z) (tr_ (su_ e z) (tr_ (su_ m z) (tr_ (su_ o z) (su_ r z)))))))
    have aT := ab.f r z
    have aU := aa.f r z
    exact At.res (.inl z) z (.cell z (aS.runAg 0 [vi (w64 (a0.Scale - a1)), vu a0.Zero, vi C.Offset, (Value.slice E F G), vi D.Offset, (Value.slice H I J)] ty30 z z z) (.tmp z .nil)) ⟨(Value.slice E F G), (Value.slice H I J), z, (se_ K z z), (Sl.outF aT K low0), (Sl.outF aU K low0)⟩
theorem c_hist_Fit {A : Nat → Prop} {v0_3 : Value} {v0_5 : Value} {a0 : api_Hist} {a1 : Int} {w : World} (hs0_3 : Sl Rep.u w A v0_3 a0.Pos.Counts) (hs0_5 : Sl Rep.u w A v0_5 a0.Neg.Counts) {r0 : api_Hist} {r1 : Int} (h : hist_Fit a0 a1 = some (r0, r1)) : Rets Try.prog 43 [ag [vi a0.Scale, vu a0.Zero, vi a0.Pos.Offset, v0_3, vi a0.Neg.Offset, v0_5], vi a1] w (fun v w' => ∃ (an : Value) (ao : Value), v = Value.tuple (List.toArray [ag [vi r0.Scale, vu r0.Zero, vi r0.Pos.Offset, an, vi r0.Neg.Offset, ao], vi r1]) ∧ Ext w w' ∧ Sl Rep.u w' (fun k => w.heap.size ≤ k) an r0.Pos.Counts ∧ Sl Rep.u w' (fun k => w.heap.size ≤ k) ao r0.Neg.Counts) := by
 unfold hist_Fit at h
 refine Rets.enter Try.func43 z z ?_
 have ap : Sl Rep.u w (imm (Lg.O0 A)) v0_3 a0.Pos.Counts := (Sl.start hs0_3)
 have aq : Sl Rep.u w (imm (Lg.O0 A)) v0_5 a0.Neg.Counts := (Sl.start hs0_5)
 refine (show WC _ _ _ _ [(0, ag [vi a0.Scale, vu a0.Zero, vi a0.Pos.Offset, v0_3, vi a0.Neg.Offset, v0_5]), (1, vi a1)] _ from ?_)
 refine sq (rg ?_)
 have bm := h
 obtain ⟨C, D, E, rfl⟩ := ap.shape
 have h := bm
 have bn := h
 obtain ⟨F, G, H, rfl⟩ := aq.shape
 have h := bn
 refine WL.box (O := (Lg.O0 A)) 11 [vi a0.Scale, vu a0.Zero, vi a0.Pos.Offset, (Value.slice C D E), vi a0.Neg.Offset, (Value.slice F G H)] z z z ?_
 intro bj bP b1 t bo
 refine WL.alloc (O := bP) 12 [vi 0, vu 0, vi 0, Value.slice none 0 0, vi 0, Value.slice none 0 0] ty30 z z ?_
 intro ae bQ b2 r Z
 refine wY (ya z) z (nl (th (sq (sq (rg ?_)))))
 have ar := bo.st r z
 refine wY (yL ty30 z z (ar.cells 0 [vi a0.Scale, vu a0.Zero, vi a0.Pos.Offset, (Value.slice C D E), vi a0.Neg.Offset, (Value.slice F G H)] z) z) z ?_
 have bp := ap.i t z z
 have au := bp.i r z z
 have bq := aq.i t z z
 have av := bq.i r z z
 obtain ⟨cc, br, h⟩ := bnd h
 refine WL.call (vals := [ag [vi a0.Scale, vu a0.Zero, vi a0.Pos.Offset, (Value.slice C D E), vi a0.Neg.Offset, (Value.slice F G H)]]) kok28 z z (c_hist_Check (A := fun _ => True) (a0 := a0) (Sl.all au) (Sl.all av) br) ?_
 rintro b3 aw ⟨rfl, bs⟩
 obtain ⟨af, bR, bS, e⟩ := adoptE bQ (fun k => 1) bs
 refine wY (ya z) z (nl (th (sq (rg (wY (ym z) z (wY (Y.neq_i z z) z (nl (th ?_))))))))
 rcases cnd h with ⟨aa, h⟩ | ⟨aa, h⟩
 ·refine WC.condT' z aa (sq (rg (wY (yb (vals := []) (cells := [vi 0, vu 0, vi 0, Value.slice none 0 0, vi 0, Value.slice none 0 0]) (fe_ z) (by kernel_rfl)) z (wY (ym z) z ?_))))
  have bt := Z.st e z
  refine WL.store (v := ag [vi 0, vu 0, vi 0, Value.slice none 0 0, vi 0, Value.slice none 0 0]) (cells' := [vi 0, vu 0, vi 0, Value.slice none 0 0, vi 0, Value.slice none 0 0]) ty30 z z bt z (le_ z) z z ?_
  intro bu aD bw
  refine wY (ya z) z (nl (th (rt (At.thenR ?_))))
  obtain ⟨rfl, rfl⟩ := tup2 h
  have bx : Stp [12] (Lg.O0 A) w af bu := (tr_ (su_ t z) (tr_ (su_ r z) (tr_ (su_ e z) (su_ aD z))))
  exact At.res (.inl z) z (.cell z (bw.runAg 0 [vi 0, vu 0, vi 0, Value.slice none 0 0, vi 0, Value.slice none 0 0] ty30 z z z) (.tmp z .nil)) ⟨Value.slice none 0 0, Value.slice none 0 0, z, (se_ bx z z), (Or.inl ⟨z, z⟩), (Or.inl ⟨z, z⟩)⟩
 ·refine WC.condF' z aa (sk (th (sq (sq (rg (wY (ya z) z (nl (th (WC.block ?_)))))))))
  obtain ⟨bk, h, ax⟩ := flow1 h
  obtain ⟨bl, h⟩ := loop_some h
  refine WC.joinB 0 (σ := Own) (fun x w' => bk = .go () ∧ Stp [] af aw x w') (fun x => [(4, pt ae 0)]) ?_ ?_
  ·refine WC.loop (σ := (Int × Own)) (fun x k w' => loopN k (hist_Fit_lp1 a0 a1) x.1 = some bk ∧ Stp [] af aw x.2 w') (fun x => [(1, vi a1), (2, pt bj 0), (4, pt ae 0), (7, vi x.1)]) (0, af) bl (.cons z (.cons z (.cons z (.cons z .nil)))) ⟨h, (sr_ _ _ _)⟩ ?_
   rintro ⟨K, ay⟩ bl b4 ⟨h, m⟩
   obtain ⟨bT, cd, rfl, h, ab⟩ := rnd1 h
   unfold hist_Fit_lp1 at h
   try dsimp only at h m
   refine (show WC _ _ _ _ [(1, vi a1), (2, pt bj 0), (4, pt ae 0), (7, vi K)] _ from ?_)
   refine sq (sq (rg (wY (ym z) z (wY (yf fo30_0 z) z ?_))))
   have bz := ar.st e z
   have L := bz.st m z
   refine wY (yl ty3 z z (L.cell 0 _ z)) z (wY (Y.sub_i z z) z (wY (Y.leq_i z z) z (nl (th ?_))))
   rcases cnd h with ⟨ac, h⟩ | ⟨ac, h⟩
   ·refine WC.condT' z ac (sk (th (sq (WC.block (sq (WC.drawH [] [0, 1, 2, 3, 4, 5, 6, 7, 8, 9, 10, 11, 12] ay 13 fmix z (by kernel_rfl) ?_))))))
    intro b5 o
    refine WD.y 0 z (by kernel_rfl) (fun _ _ _ => yf fo30_2 z) z (WD.y 1 z (by kernel_rfl) (fun b6 ce aE => have bA := L.st o z; have bB := bA.st aE z; yL ty28 z z (bB.cells 2 [vi a0.Pos.Offset, (Value.slice C D E)] z) z) z (WD.y 2 z (by kernel_rfl) (fun _ _ _ => ym z) z (WD.y 3 z (by kernel_rfl) (fun _ _ _ => Y.conv_iu ty3.u ty92.u z) z (WD.y 5 z (by kernel_rfl) (fun _ _ _ => yf fo30_3 z) z (WD.y 6 z (by kernel_rfl) (fun b7 cf aF => have bC := L.st o z; have bD := bC.st aF z; yL ty28 z z (bD.cells 4 [vi a0.Neg.Offset, (Value.slice F G H)] z) z) z (WD.y 7 z (by kernel_rfl) (fun _ _ _ => ym z) z (WD.y 8 z (by kernel_rfl) (fun _ _ _ => Y.conv_iu ty3.u ty92.u z) z (WD.y 11 z (by kernel_rfl) (fun _ _ _ => ym z) z (WD.heavy 4 z (by kernel_rfl) ?_)))))))))
    have aG := au.i e z z
    have aH := aG.i m z z
    have ah := aH.i o z z
    obtain ⟨b8, aI, h⟩ := bnd h
    refine WL.call (vals := [ag [vi a0.Pos.Offset, (Value.slice C D E)], vu (toU64 K)]) kok73 z z (c_hist_span (A := fun _ => True) (a0 := a0.Pos) (Sl.all ah) aI) ?_
    rintro bW bX ⟨rfl, aJ⟩
    obtain ⟨bE, bJ, bK, j⟩ := adoptE ay (fun k => 1) aJ
    refine nl (At.dq (su_ j z) (WD.heavy 9 z (by kernel_rfl) ?_))
    have aK := av.i e z z
    have aL := aK.i m z z
    have aM := aL.i o z z
    have ai := aM.i j z z
    obtain ⟨b9, aN, h⟩ := bnd h
    refine WL.call (vals := [ag [vi a0.Neg.Offset, (Value.slice F G H)], vu (toU64 K)]) kok73 z z (c_hist_span (A := fun _ => True) (a0 := a0.Neg) (Sl.all ai) aN) ?_
    rintro bY bZ ⟨rfl, aO⟩
    obtain ⟨az, bL, bM, l⟩ := adoptE bE (fun k => 1) aO
    refine nl (At.dq (su_ l z) (WD.y 10 z (by kernel_rfl) (fun _ _ _ => Y.max_i z z) z (WD.y 12 z (by kernel_rfl) (fun _ _ _ => Y.leq_i z z) z (WD.done_ (by kernel_rfl) (th ?_)))))
    rcases cnd h with ⟨M, h⟩ | ⟨M, h⟩
    ·refine WC.condT' z M (sq (rg ?_))
     have aP := L.st o z
     have aQ := aP.st j z
     have aR := aQ.st l z
     refine wY (yL ty30 z z (aR.cells 0 [vi a0.Scale, vu a0.Zero, vi a0.Pos.Offset, (Value.slice C D E), vi a0.Neg.Offset, (Value.slice F G H)] z) z) z (wY (ym z) z ?_)
     have aS := ah.i j z z
     have aT := aS.i l z z
     have aU := ai.i l z z
     obtain ⟨⟨d, ca⟩, aW, h⟩ := bnd h
     refine WL.call (vals := [ag [vi a0.Scale, vu a0.Zero, vi a0.Pos.Offset, (Value.slice C D E), vi a0.Neg.Offset, (Value.slice F G H)], vi K]) kok31 z z (c_hist_Down (A := fun _ => True) (a0 := a0) (Sl.all aT) (Sl.all aU) aW) ?_
     rintro b0 aj ⟨bF, bG, rfl, aX, bH, bI⟩
     obtain ⟨ad, bO, J, X⟩ := adoptE az (fun k => 1) aX
     have ak : Sl Rep.u aj (frs ad) bF d.Pos.Counts := Sl.adoptF bH (fun k hk => ⟨hk, z⟩) J
     have al : Sl Rep.u aj (frs ad) bG d.Neg.Counts := Sl.adoptF bI (fun k hk => ⟨hk, z⟩) J
     refine wY (yx z z) z (wY (yx z z) z ?_)
     have aY := h
     obtain ⟨P, Q, S, rfl⟩ := ak.shape
     have h := aY
     have aZ := h
     obtain ⟨T, U, V, rfl⟩ := al.shape
     have h := aZ
     have a2 := Z.st e z
     have a3 := a2.st m z
     have a4 := a3.st o z
     have a5 := a4.st j z
     have a6 := a5.st l z
     have a7 := a6.st X z
     refine WL.store (v := ag [vi d.Scale, vu d.Zero, vi d.Pos.Offset, (Value.slice P Q S), vi d.Neg.Offset, (Value.slice T U V)]) (cells' := [vi d.Scale, vu d.Zero, vi d.Pos.Offset, (Value.slice P Q S), vi d.Neg.Offset, (Value.slice T U V)]) ty30 z z a7 z (le_ z) z z ?_
     intro a8 I a9
     refine wY (ya z) z (nl (th (rt (At.inBlockR (At.thenR (At.loopR ?_))))))
     have h := outr1 h ab ax
     refine At.joinBR (At.inBlockR (At.thenR ?_))
     obtain ⟨rfl, rfl⟩ := tup2 h
     have W : Stp [12] (Lg.O0 A) w ad a8 := (tr_ (su_ t z) (tr_ (su_ r z) (tr_ (su_ e z) (tr_ (su_ m z) (tr_ (su_ o z) (tr_ (su_ j z) (tr_ (su_ l z) (tr_ (su_ X z) (su_ I z)))))))))
     have ba := ak.f I z
     have bb := al.f I z
     exact At.res (.inl z) z (.cell z (a9.runAg 0 [vi d.Scale, vu d.Zero, vi d.Pos.Offset, (Value.slice P Q S), vi d.Neg.Offset, (Value.slice T U V)] ty30 z z z) (.tmp z .nil)) ⟨(Value.slice P Q S), (Value.slice T U V), z, (se_ W z z), (Sl.outF ba W low0), (Sl.outF bb W low0)⟩
    ·refine WC.condF' z M (sk (At.inBlock (th (rg (wY (ym z) z (wY (Y.add_i z z) z ?_))))))
     obtain ⟨bc, aA, h⟩ := lt1 h
     refine WL.yE (ya z) (congrArg vi aA.symm) z (nl ?_)
     exact At.round (bc, az) bT (Nat.lt_succ_self _) ⟨next1 h ab, (tr_ (su_ m z) (tr_ (su_ o z) (tr_ (su_ j z) (su_ l z))))⟩ (.cons z (.cons z (.cons z (.cons z .nil))))
   ·refine WC.condF' z ac (WC.exit (At.thenX (At.loopX ?_)))
    exact At.hitB (σ := Own) ay ⟨brk1 h ab, (su_ m z)⟩ (.cons z .nil)
  ·rintro bU cb ⟨rfl, am⟩
   replace h := flowK_go ax
   refine (show At _ _ _ [(4, pt ae 0)] _ from ?_)
   refine At.inBlockHit (th (sq (rg (wY (yb (vals := []) (cells := [vi 0, vu 0, vi 0, Value.slice none 0 0, vi 0, Value.slice none 0 0]) (fe_ z) (by kernel_rfl)) z ?_))))
   have bd := Z.st e z
   have bf := bd.st am z
   refine WL.store (v := ag [vi 0, vu 0, vi 0, Value.slice none 0 0, vi 0, Value.slice none 0 0]) (cells' := [vi 0, vu 0, vi 0, Value.slice none 0 0, vi 0, Value.slice none 0 0]) ty30 z z bf z (le_ z) z z ?_
   intro bg aC bh
   refine wY (ya z) z (nl (th (rt ?_)))
   obtain ⟨rfl, rfl⟩ := tup2 h
   have bi : Stp [12] (Lg.O0 A) w bU bg := (tr_ (su_ t z) (tr_ (su_ r z) (tr_ (su_ e z) (tr_ (su_ am z) (su_ aC z)))))
   exact At.res (.inl z) z (.cell z (bh.runAg 0 [vi 0, vu 0, vi 0, Value.slice none 0 0, vi 0, Value.slice none 0 0] ty30 z z z) (.tmp z .nil)) ⟨Value.slice none 0 0, Value.slice none 0 0, z, (se_ bi z z), (Or.inl ⟨z, z⟩), (Or.inl ⟨z, z⟩)⟩
theorem c_slices_Clone_uint64_uint64 {A : Nat → Prop} {a0 : List UInt64} {v0 : Value} {w : World} (hs0 : Sl Rep.u w A v0 a0) {r0 : List UInt64} (h : slices_Clone_uint64_uint64 a0 = some r0) : Rets Try.prog 76 [v0] w (fun v w' => ∃ (l : Value), v = l ∧ Ext w w' ∧ RowF Rep.u 25 w w' l r0) := by
  unfold slices_Clone_uint64_uint64 at h
  refine Rets.enter Try.func76 z z ?_
  refine (show WC _ _ _ _ [(0, v0)] _ from ?_)
  refine sq (rg (wY (ya z) z (nl (th ?_))))
  refine sq (sq (rg ?_))
  refine wY (ym z) z ?_
  rcases hs0.nilOr with ⟨rfl, rfl⟩ | ⟨q, n, c, rfl⟩
  · refine wY (Y.slnil (p := none) (n := 0) (c := 0) ty26.u z z) z (nl (th ?_))
    refine WC.condT z (sq (rg (wY (ya z) z (nl (th (rt (At.thenR ?_)))))))
    have : r0 = [] := by simpa [app] using h.symm
    subst this
    exact At.res (.inl z) z (.tmp z .nil) ⟨_, z, Ext.refl w, RowF.nil⟩
  · refine wY (Y.slnil (p := some _) ty26.u z z) z (nl (th ?_))
    refine WC.condF z (sk (th ?_))
    refine sq (rg ?_)
    have hs := hs0
    refine WL.buildSlice (O := Lg.O0 A) (R := Rep.u) (vals := []) 11 [] (xs := []) (by decide) ty26 ty25 (by decide) (by decide) (fe_ z) (by kernel_rfl) z z z ?_
    intro v D E d m
    refine wY (ym z) z ?_
    have o := (Sl.start hs).i d z z
    refine WL.append (by decide) ty26 ty25 z (by decide) z z m o.src h z ?_
    intro F t C j r
    refine wY (ya z) z (nl (th (rt ?_)))
    have e : Stp [11] (Lg.O0 A) w t C := (tr_ (su_ d z) j)
    exact At.res (.inl z) z (.tmp z .nil) ⟨_, z, se_ e z z, OwnSl.outF r e low0 z⟩
theorem c_hist_Clone {A : Nat → Prop} {v0_3 : Value} {v0_5 : Value} {a0 : api_Hist} {w : World} (hs0_3 : Sl Rep.u w A v0_3 a0.Pos.Counts) (hs0_5 : Sl Rep.u w A v0_5 a0.Neg.Counts) {r0 : api_Hist} (h : hist_Clone a0 = some r0) : Rets Try.prog 46 [ag [vi a0.Scale, vu a0.Zero, vi a0.Pos.Offset, v0_3, vi a0.Neg.Offset, v0_5]] w (fun v w' => ∃ (P : Value) (Q : Value), v = ag [vi r0.Scale, vu r0.Zero, vi r0.Pos.Offset, P, vi r0.Neg.Offset, Q] ∧ Ext w w' ∧ Sl Rep.u w' (fun k => w.heap.size ≤ k) P r0.Pos.Counts ∧ Sl Rep.u w' (fun k => w.heap.size ≤ k) Q r0.Neg.Counts) := by
 unfold hist_Clone at h
 refine Rets.enter Try.func46 z z ?_
 have S : Sl Rep.u w (imm (Lg.O0 A)) v0_3 a0.Pos.Counts := (Sl.start hs0_3)
 have T : Sl Rep.u w (imm (Lg.O0 A)) v0_5 a0.Neg.Counts := (Sl.start hs0_5)
 refine (show WC _ _ _ _ [(0, ag [vi a0.Scale, vu a0.Zero, vi a0.Pos.Offset, v0_3, vi a0.Neg.Offset, v0_5])] _ from ?_)
 refine sq (rg ?_)
 have aM := h
 obtain ⟨aH, aI, aJ, rfl⟩ := S.shape
 have h := aM
 have aN := h
 obtain ⟨U, V, W, rfl⟩ := T.shape
 have h := aN
 refine WL.box (O := (Lg.O0 A)) 11 [vi a0.Scale, vu a0.Zero, vi a0.Pos.Offset, (Value.slice aH aI aJ), vi a0.Neg.Offset, (Value.slice U V W)] z z z ?_
 intro bx bg bq J L
 refine WL.alloc (O := bg) 12 [vi 0, vu 0, vi 0, Value.slice none 0 0, vi 0, Value.slice none 0 0] ty30 z z ?_
 intro bz aK br l aO
 refine nl (th (sq (WC.drawH [] [0, 1, 2, 3, 4, 5, 6, 7, 8, 9] aK 14 fmix z (by kernel_rfl) ?_)))
 intro bs d
 refine WD.y 0 z (by kernel_rfl) (fun _ _ _ => yf fo30_2 z) z (WD.y 1 z (by kernel_rfl) (fun _ _ _ => yf fo28_1 z) z (WD.y 2 z (by kernel_rfl) (fun bt bA ad => have aP := L.st l z; have aQ := aP.st d z; have aR := aQ.st ad z; yl ty26 z z (aR.cell 3 _ z)) z (WD.y 4 z (by kernel_rfl) (fun _ _ _ => yf fo30_3 z) z (WD.y 5 z (by kernel_rfl) (fun _ _ _ => yf fo28_1 z) z (WD.y 6 z (by kernel_rfl) (fun bu bB ae => have aS := L.st l z; have aT := aS.st d z; have aU := aT.st ae z; yl ty26 z z (aU.cell 5 _ z)) z (WD.heavy 3 z (by kernel_rfl) ?_))))))
 have aW := S.i J z z
 have aX := aW.i l z z
 have aY := aX.i d z z
 obtain ⟨bh, aZ, h⟩ := bnd h
 refine WL.call (vals := [(Value.slice aH aI aJ)]) kok76 z z (c_slices_Clone_uint64_uint64 (A := fun _ => True) (Sl.all aY) aZ) ?_
 rintro X a1 ⟨_, rfl, a2, bi⟩
 obtain ⟨aL, bj, Z, t⟩ := adoptE aK (fun k => if ob X = some k then 13 else 1) a2
 have a3 : OwnSl 13 Rep.u 25 aL a1 X bh := RowF.adopt 13 Flat.u bi Z (fun k hk => if_pos hk)
 refine nl (At.dq (su_ t z) (WD.y 8 z (by kernel_rfl) (fun _ _ _ => yf fo30_2 z) z (WD.y 9 z (by kernel_rfl) (fun _ _ _ => yf fo28_1 z) z (WD.heavy 7 z (by kernel_rfl) ?_))))
 have a4 := T.i J z z
 have a5 := a4.i l z z
 have a6 := a5.i d z z
 have a7 := a6.i t z z
 obtain ⟨bk, a8, h⟩ := bnd h
 refine WL.call (vals := [(Value.slice U V W)]) kok76 z z (c_slices_Clone_uint64_uint64 (A := fun _ => True) (Sl.all a7) a8) ?_
 rintro aa a9 ⟨_, rfl, ba, bl⟩
 obtain ⟨bm, bn, ab, C⟩ := adoptE aL (fun k => if ob aa = some k then 14 else 1) ba
 have bb : OwnSl 14 Rep.u 25 bm a9 aa bk := RowF.adopt 14 Flat.u bl ab (fun k hk => if_pos hk)
 refine nl (At.dq (su_ C z) (WD.phase [11] [0, 1, 2, 3, 4, 5, 6, 7, 8, 9, 10, 11, 12] (by kernel_rfl) (by kernel_rfl) (WD.heavy 10 z (by kernel_rfl) ?_)))
 have ac := a3.st C z z z
 have bc := h
 obtain ⟨D, E, F, rfl⟩ := ac.shape
 have h := bc
 have bd := L.st l z
 have af := bd.st d z
 have ah := af.st t z
 have ai := ah.st C z
 refine WL.store (v := (Value.slice D E F)) (cells' := [vi a0.Scale, vu a0.Zero, vi a0.Pos.Offset, (Value.slice D E F), vi a0.Neg.Offset, (Value.slice U V W)]) ty26 z z ai z (le_ z) z z ?_
 intro bo e aj
 refine nl (At.dq (su_ e z) (WD.y 11 z (by kernel_rfl) (fun _ _ _ => yf fo30_3 z) z (WD.y 12 z (by kernel_rfl) (fun _ _ _ => yf fo28_1 z) z (WD.phase [11] [0, 1, 2, 3, 4, 5, 6, 7, 8, 9, 10, 11, 12, 13] (by kernel_rfl) (by kernel_rfl) (WD.heavy 13 z (by kernel_rfl) ?_)))))
 have M := bb.st e z z z
 have ak := h
 obtain ⟨m, o, r, rfl⟩ := M.shape
 have h := ak
 refine WL.store (v := (Value.slice m o r)) (cells' := [vi a0.Scale, vu a0.Zero, vi a0.Pos.Offset, (Value.slice D E F), vi a0.Neg.Offset, (Value.slice m o r)]) ty26 z z aj z (le_ z) z z ?_
 intro bp j al
 refine nl (At.dq (su_ j z) (WD.done_ (by kernel_rfl) (th (sq (rg (wY (yL ty30 z z (al.cells 0 [vi a0.Scale, vu a0.Zero, vi a0.Pos.Offset, (Value.slice D E F), vi a0.Neg.Offset, (Value.slice m o r)] z) z) z ?_))))))
 have am := aO.st d z
 have an := am.st t z
 have ao := an.st C z
 have ap := ao.st e z
 have aq := ap.st j z
 refine WL.store (v := ag [vi a0.Scale, vu a0.Zero, vi a0.Pos.Offset, (Value.slice D E F), vi a0.Neg.Offset, (Value.slice m o r)]) (cells' := [vi a0.Scale, vu a0.Zero, vi a0.Pos.Offset, (Value.slice D E F), vi a0.Neg.Offset, (Value.slice m o r)]) ty30 z z aq z (le_ z) z z ?_
 intro ar G au
 refine nl (th (rt ?_))
 obtain rfl := some1 h
 have av := ac.st e z z z
 have aw := av.st j z z z
 have ax := aw.st G z z z
 obtain ⟨bw, H, ay⟩ := OwnSl.giveF rfl Flat.u ax
 have az := M.st j z z z
 have aA := az.st G z z z
 have aC := aA.st H z z z
 obtain ⟨bf, I, aD⟩ := OwnSl.giveF rfl Flat.u aC
 have K : Stp [11, 12, 13, 14] (Lg.O0 A) w bf ar := (tr_ (su_ J z) (tr_ (su_ l z) (tr_ (su_ d z) (tr_ (su_ t z) (tr_ (su_ C z) (tr_ (su_ e z) (tr_ (su_ j z) (tr_ (su_ G z) (tr_ (su_ H z) (su_ I z))))))))))
 have aE := ay.f I z
 have aF := au.st H z
 have aG := aF.st I z
 exact At.res (.inl z) z (.cell z (aG.runAg 0 [vi a0.Scale, vu a0.Zero, vi a0.Pos.Offset, (Value.slice D E F), vi a0.Neg.Offset, (Value.slice m o r)] ty30 z z z) .nil) ⟨(Value.slice D E F), (Value.slice m o r), z, (se_ K z z), (Sl.outF aE K low0), (Sl.outF aD K low0)⟩
theorem c_fold_Level {A : Nat → Prop} {v0_3 : Value} {v0_5 : Value} {a0 : api_Hist} {v1_3 : Value} {v1_5 : Value} {a1 : api_Hist} {w : World} (hs0_3 : Sl Rep.u w A v0_3 a0.Pos.Counts) (hs0_5 : Sl Rep.u w A v0_5 a0.Neg.Counts) (hs1_3 : Sl Rep.u w A v1_3 a1.Pos.Counts) (hs1_5 : Sl Rep.u w A v1_5 a1.Neg.Counts) {r0 : api_Hist} {r1 : api_Hist} {r2 : Int} (h : fold_Level a0 a1 = some (r0, r1, r2)) : Rets Try.prog 52 [ag [vi a0.Scale, vu a0.Zero, vi a0.Pos.Offset, v0_3, vi a0.Neg.Offset, v0_5], ag [vi a1.Scale, vu a1.Zero, vi a1.Pos.Offset, v1_3, vi a1.Neg.Offset, v1_5]] w (fun v w' => ∃ (bc : Value) (bd : Value) (bf : Value) (bg : Value), v = Value.tuple (List.toArray [ag [vi r0.Scale, vu r0.Zero, vi r0.Pos.Offset, bc, vi r0.Neg.Offset, bd], ag [vi r1.Scale, vu r1.Zero, vi r1.Pos.Offset, bf, vi r1.Neg.Offset, bg], vi r2]) ∧ Ext w w' ∧ Sl Rep.u w' (fun k => w.heap.size ≤ k) bc r0.Pos.Counts ∧ Sl Rep.u w' (fun k => w.heap.size ≤ k) bd r0.Neg.Counts ∧ Sl Rep.u w' (fun k => w.heap.size ≤ k) bf r1.Pos.Counts ∧ Sl Rep.u w' (fun k => w.heap.size ≤ k) bg r1.Neg.Counts) := by
 unfold fold_Level at h
 refine Rets.enter Try.func52 z z ?_
 have aO : Sl Rep.u w (imm (Lg.O0 A)) v0_3 a0.Pos.Counts := (Sl.start hs0_3)
 have aP : Sl Rep.u w (imm (Lg.O0 A)) v0_5 a0.Neg.Counts := (Sl.start hs0_5)
 have c8 : Sl Rep.u w (imm (Lg.O0 A)) v1_3 a1.Pos.Counts := (Sl.start hs1_3)
 have c9 : Sl Rep.u w (imm (Lg.O0 A)) v1_5 a1.Neg.Counts := (Sl.start hs1_5)
 refine (show WC _ _ _ _ [(0, ag [vi a0.Scale, vu a0.Zero, vi a0.Pos.Offset, v0_3, vi a0.Neg.Offset, v0_5]), (1, ag [vi a1.Scale, vu a1.Zero, vi a1.Pos.Offset, v1_3, vi a1.Neg.Offset, v1_5])] _ from ?_)
 refine sq (rg ?_)
 have da := h
 obtain ⟨M, P, Q, rfl⟩ := aO.shape
 have h := da
 have db := h
 obtain ⟨S, T, U, rfl⟩ := aP.shape
 have h := db
 refine WL.box (O := (Lg.O0 A)) 11 [vi a0.Scale, vu a0.Zero, vi a0.Pos.Offset, (Value.slice M P Q), vi a0.Neg.Offset, (Value.slice S T U)] z z z ?_
 intro au dT ed V dc
 have aQ := c8.i V z z
 have dd := h
 obtain ⟨D, E, F, rfl⟩ := aQ.shape
 have h := dd
 have aR := c9.i V z z
 have de := h
 obtain ⟨G, H, I, rfl⟩ := aR.shape
 have h := de
 refine WL.box (O := dT) 12 [vi a1.Scale, vu a1.Zero, vi a1.Pos.Offset, (Value.slice D E F), vi a1.Neg.Offset, (Value.slice G H I)] z z z ?_
 intro av dU ee o df
 refine WL.alloc (O := dU) 13 [vi 0, vu 0, vi 0, Value.slice none 0 0, vi 0, Value.slice none 0 0] ty30 z z ?_
 intro aw dV ef m bh
 refine WL.alloc (O := dV) 14 [vi 0, vu 0, vi 0, Value.slice none 0 0, vi 0, Value.slice none 0 0] ty30 z z ?_
 intro ax aX aS j bi
 refine wY (ya z) z (nl (th (sq (sq (rg ?_)))))
 have dg := dc.st o z
 have dh := dg.st m z
 have bj := dh.st j z
 refine wY (yL ty30 z z (bj.cells 0 [vi a0.Scale, vu a0.Zero, vi a0.Pos.Offset, (Value.slice M P Q), vi a0.Neg.Offset, (Value.slice S T U)] z) z) z ?_
 have di := df.st m z
 have bk := di.st j z
 refine wY (yL ty30 z z (bk.cells 0 [vi a1.Scale, vu a1.Zero, vi a1.Pos.Offset, (Value.slice D E F), vi a1.Neg.Offset, (Value.slice G H I)] z) z) z (wY (yb (vals := [(0, ag [vi a0.Scale, vu a0.Zero, vi a0.Pos.Offset, (Value.slice M P Q), vi a0.Neg.Offset, (Value.slice S T U)]), (1, ag [vi a1.Scale, vu a1.Zero, vi a1.Pos.Offset, (Value.slice D E F), vi a1.Neg.Offset, (Value.slice G H I)])]) (cells := [vi a0.Scale, vu a0.Zero, vi a0.Pos.Offset, (Value.slice M P Q), vi a0.Neg.Offset, (Value.slice S T U), vi a1.Scale, vu a1.Zero, vi a1.Pos.Offset, (Value.slice D E F), vi a1.Neg.Offset, (Value.slice G H I)]) (fe_ z) (by kernel_rfl)) z (wY (ym z) z (nl (th ?_))))
 obtain ⟨dW, h, bl⟩ := flow1 h
 refine WC.join (σ := Own) (fun x w' => dW = .go () ∧ Stp [15] aX aS x w') (fun x => [(2, pt au 0), (3, pt av 0), (4, pt aw 0), (5, pt ax 0)]) ?_ ?_
 ·refine WC.block ?_
  obtain ⟨c5, h, bm⟩ := flow1 h
  obtain ⟨c6, h⟩ := loop_some h
  refine WC.joinB 0 (σ := Own) (fun x w' => c5 = .go () ∧ Stp [15] aX aS x w') (fun x => [(2, pt au 0), (3, pt av 0), (4, pt aw 0), (5, pt ax 0)]) ?_ ?_
  ·refine WC.loop (σ := (Int × Own)) (fun x k w' => loopN k (fold_Level_lp1 a0 a1) x.1 = some c5 ∧ Stp [15] aX aS x.2 w') (fun x => [(2, pt au 0), (3, pt av 0), (4, pt aw 0), (5, pt ax 0), (13, ag [vi a0.Scale, vu a0.Zero, vi a0.Pos.Offset, (Value.slice M P Q), vi a0.Neg.Offset, (Value.slice S T U), vi a1.Scale, vu a1.Zero, vi a1.Pos.Offset, (Value.slice D E F), vi a1.Neg.Offset, (Value.slice G H I)]), (14, vi x.1)]) (0, aX) c6 (.cons z (.cons z (.cons z (.cons z (.cons z (.cons z .nil)))))) ⟨h, (sr_ _ _ _)⟩ ?_
   rintro ⟨c7, bn⟩ c6 dj ⟨h, r⟩
   obtain ⟨dX, ep, rfl, h, aT⟩ := rnd1 h
   unfold fold_Level_lp1 at h
   try dsimp only at h r
   refine (show WC _ _ _ _ [(2, pt au 0), (3, pt av 0), (4, pt aw 0), (5, pt ax 0), (13, ag [vi a0.Scale, vu a0.Zero, vi a0.Pos.Offset, (Value.slice M P Q), vi a0.Neg.Offset, (Value.slice S T U), vi a1.Scale, vu a1.Zero, vi a1.Pos.Offset, (Value.slice D E F), vi a1.Neg.Offset, (Value.slice G H I)]), (14, vi c7)] _ from ?_)
   refine sq (rg (wY (Y.lss_i z z) z (nl (th (sq ?_)))))
   rcases cnd h with ⟨aU, h⟩ | ⟨aU, h⟩
   ·refine WC.condT' z aU (sk (th (sq (WC.block (sq (rg ?_))))))
    have dk := aO.i V z z
    have dl := dk.i o z z
    have dm := dl.i m z z
    have dn := dm.i j z z
    have dp := dn.i r z z
    have dr := aP.i V z z
    have ds := dr.i o z z
    have dt := ds.i m z z
    have du := dt.i j z z
    have dw := du.i r z z
    have dx := aQ.i o z z
    have dy := dx.i m z z
    have dz := dy.i j z z
    have dA := dz.i r z z
    have dB := aR.i o z z
    have dC := dB.i m z z
    have dD := dC.i j z z
    have dE := dD.i r z z
    obtain ⟨l, bo, h⟩ := bnd h
    obtain ⟨eg, aA, br⟩ := arrAt (R := rep_api_Hist) (w := dj) (A := imm bn) (cells := [vi a0.Scale, vu a0.Zero, vi a0.Pos.Offset, (Value.slice M P Q), vi a0.Neg.Offset, (Value.slice S T U), vi a1.Scale, vu a1.Zero, vi a1.Pos.Offset, (Value.slice D E F), vi a1.Neg.Offset, (Value.slice G H I)]) (xs := [a0, a1]) ⟨[vi a0.Scale, vu a0.Zero, vi a0.Pos.Offset, (Value.slice M P Q), vi a0.Neg.Offset, (Value.slice S T U)], [vi a1.Scale, vu a1.Zero, vi a1.Pos.Offset, (Value.slice D E F), vi a1.Neg.Offset, (Value.slice G H I)], rfl, ⟨[vi a0.Scale], [vu a0.Zero, vi a0.Pos.Offset, (Value.slice M P Q), vi a0.Neg.Offset, (Value.slice S T U)], rfl, rfl, ⟨[vu a0.Zero], [vi a0.Pos.Offset, (Value.slice M P Q), vi a0.Neg.Offset, (Value.slice S T U)], rfl, rfl, ⟨[vi a0.Pos.Offset, (Value.slice M P Q)], [vi a0.Neg.Offset, (Value.slice S T U)], rfl, ⟨[vi a0.Pos.Offset], [(Value.slice M P Q)], rfl, rfl, ⟨_, rfl, dp⟩⟩, ⟨[vi a0.Neg.Offset], [(Value.slice S T U)], rfl, rfl, ⟨_, rfl, dw⟩⟩⟩⟩⟩, ⟨[vi a1.Scale, vu a1.Zero, vi a1.Pos.Offset, (Value.slice D E F), vi a1.Neg.Offset, (Value.slice G H I)], [], rfl, ⟨[vi a1.Scale], [vu a1.Zero, vi a1.Pos.Offset, (Value.slice D E F), vi a1.Neg.Offset, (Value.slice G H I)], rfl, rfl, ⟨[vu a1.Zero], [vi a1.Pos.Offset, (Value.slice D E F), vi a1.Neg.Offset, (Value.slice G H I)], rfl, rfl, ⟨[vi a1.Pos.Offset, (Value.slice D E F)], [vi a1.Neg.Offset, (Value.slice G H I)], rfl, ⟨[vi a1.Pos.Offset], [(Value.slice D E F)], rfl, rfl, ⟨_, rfl, dA⟩⟩, ⟨[vi a1.Neg.Offset], [(Value.slice G H I)], rfl, rfl, ⟨_, rfl, dE⟩⟩⟩⟩⟩, rfl⟩⟩ bo
    obtain ⟨_, _, rfl, rfl, ⟨_, _, rfl, rfl, ⟨_, _, rfl, ⟨_, _, rfl, rfl, ⟨dY, rfl, bs⟩⟩, ⟨_, _, rfl, rfl, ⟨dF, rfl, bt⟩⟩⟩⟩⟩ := br
    replace aA : _ = [vi l.Scale, vu l.Zero, vi l.Pos.Offset, dY, vi l.Neg.Offset, dF] := aA
    refine wY (Y.indexArrAg ty118 ty30 z z aA bo) z (WL.alloc (O := bn) 15 [vi 0, vu 0, vi 0, Value.slice none 0 0, vi 0, Value.slice none 0 0] ty30 z z ?_)
    intro eh dG d1 W bu
    have aY := bs.i W z z
    have bw := h
    obtain ⟨aC, aD, aE, rfl⟩ := aY.shape
    have h := bw
    have aZ := bt.i W z z
    have bx := h
    obtain ⟨aF, aG, aH, rfl⟩ := aZ.shape
    have h := bx
    refine WL.store (v := ag [vi l.Scale, vu l.Zero, vi l.Pos.Offset, (Value.slice aC aD aE), vi l.Neg.Offset, (Value.slice aF aG aH)]) (cells' := [vi l.Scale, vu l.Zero, vi l.Pos.Offset, (Value.slice aC aD aE), vi l.Neg.Offset, (Value.slice aF aG aH)]) ty30 z z bu z (le_ z) z z ?_
    intro d2 X bz
    refine nl (th (sq (rg (wY (yL ty30 z z (bz.cells 0 [vi l.Scale, vu l.Zero, vi l.Pos.Offset, (Value.slice aC aD aE), vi l.Neg.Offset, (Value.slice aF aG aH)] z) z) z ?_))))
    have bA := aY.i X z z
    have bB := aZ.i X z z
    obtain ⟨ei, bC, h⟩ := bnd h
    refine WL.call (vals := [ag [vi l.Scale, vu l.Zero, vi l.Pos.Offset, (Value.slice aC aD aE), vi l.Neg.Offset, (Value.slice aF aG aH)]]) kok28 z z (c_hist_Check (A := fun _ => True) (a0 := l) (Sl.all bA) (Sl.all bB) bC) ?_
    rintro d3 d4 ⟨rfl, bD⟩
    obtain ⟨bp, dP, dQ, ap⟩ := adoptE dG (fun k => 1) bD
    refine wY (ya z) z (nl (th (sq (rg (wY (ym z) z (wY (Y.neq_i z z) z (nl (th ?_))))))))
    rcases cnd h with ⟨aI, h⟩ | ⟨aI, h⟩
    ·refine WC.condT' z aI (sq (rg (wY (yb (vals := []) (cells := [vi 0, vu 0, vi 0, Value.slice none 0 0, vi 0, Value.slice none 0 0]) (fe_ z) (by kernel_rfl)) z (wY (yb (vals := []) (cells := [vi 0, vu 0, vi 0, Value.slice none 0 0, vi 0, Value.slice none 0 0]) (fe_ z) (by kernel_rfl)) z (wY (ym z) z ?_)))))
     have bE := bh.st j z
     have bF := bE.st r z
     have bG := bF.st W z
     have bH := bG.st X z
     have bI := bH.st ap z
     refine WL.store (v := ag [vi 0, vu 0, vi 0, Value.slice none 0 0, vi 0, Value.slice none 0 0]) (cells' := [vi 0, vu 0, vi 0, Value.slice none 0 0, vi 0, Value.slice none 0 0]) ty30 z z bI z (le_ z) z z ?_
     intro d5 aL bJ
     have bK := bi.st r z
     have bL := bK.st W z
     have bM := bL.st X z
     have bO := bM.st ap z
     have bP := bO.st aL z
     refine WL.store (v := ag [vi 0, vu 0, vi 0, Value.slice none 0 0, vi 0, Value.slice none 0 0]) (cells' := [vi 0, vu 0, vi 0, Value.slice none 0 0, vi 0, Value.slice none 0 0]) ty30 z z bP z (le_ z) z z ?_
     intro bQ aM bR
     refine wY (ya z) z (nl (th (rt (At.inBlockR (At.thenR (At.loopR ?_))))))
     have h := outr1 h aT bm
     refine At.joinBR (At.inBlockR ?_)
     have h := outs1 h bl
     refine At.joinR (At.thenR ?_)
     obtain ⟨rfl, rfl, rfl⟩ := tup3 h
     have bS : Stp [13, 14, 15] (Lg.O0 A) w bp bQ := (tr_ (su_ V z) (tr_ (su_ o z) (tr_ (su_ m z) (tr_ (su_ j z) (tr_ (su_ r z) (tr_ (su_ W z) (tr_ (su_ X z) (tr_ (su_ ap z) (tr_ (su_ aL z) (su_ aM z))))))))))
     have bT := bJ.st aM z
     exact At.res (.inl z) z (.cell z (bT.runAg 0 [vi 0, vu 0, vi 0, Value.slice none 0 0, vi 0, Value.slice none 0 0] ty30 z z z) (.cell z (bR.runAg 0 [vi 0, vu 0, vi 0, Value.slice none 0 0, vi 0, Value.slice none 0 0] ty30 z z z) (.tmp z .nil))) ⟨Value.slice none 0 0, Value.slice none 0 0, Value.slice none 0 0, Value.slice none 0 0, z, (se_ bS z z), (Or.inl ⟨z, z⟩), (Or.inl ⟨z, z⟩), (Or.inl ⟨z, z⟩), (Or.inl ⟨z, z⟩)⟩
    ·refine WC.condF' z aI (sk (At.inBlock (th (rg (wY (Y.add_i z z) z (wY (ym z) z (nl ?_)))))))
     exact At.round (w64 (c7 + 1), bp) dX (Nat.lt_succ_self _) ⟨next1 h aT, (tr_ (su_ r z) (tr_ (su_ W z) (tr_ (su_ X z) (su_ ap z))))⟩ (.cons z (.cons z (.cons z (.cons z (.cons z (.cons z .nil))))))
   ·refine WC.condF' z aU (WC.exit (At.thenX (At.loopX ?_)))
    exact At.hitB (σ := Own) bn ⟨brk1 h aT, (su_ r z)⟩ (.cons z (.cons z (.cons z (.cons z .nil))))
  ·rintro dZ ej ⟨rfl, bU⟩
   replace h := flowK_go bm
   refine (show At _ _ _ [(2, pt au 0), (3, pt av 0), (4, pt aw 0), (5, pt ax 0)] _ from ?_)
   refine At.inBlockHit ?_
   exact At.join (σ := Own) dZ ⟨go2 h, (su_ bU z)⟩ (.cons z (.cons z (.cons z (.cons z .nil))))
 ·rintro d0 ek ⟨rfl, C⟩
  replace h := flowK_go bl
  refine (show At _ _ _ [(2, pt au 0), (3, pt av 0), (4, pt aw 0), (5, pt ax 0)] _ from ?_)
  refine th (sq (rg (wY (yf fo30_0 z) z ?_)))
  have aJ := bj.st C z
  refine wY (yl ty3 z z (aJ.cell 0 _ z)) z (wY (yf fo30_0 z) z ?_)
  have a2 := bk.st C z
  refine wY (yl ty3 z z (a2.cell 0 _ z)) z (wY (Y.min_i z z) z ?_)
  obtain ⟨ar, aN, h⟩ := lt1 h
  refine WL.yE (ya z) (congrArg vi aN.symm) z (nl (th (sq (rg (wY (yL ty30 z z (aJ.cells 0 [vi a0.Scale, vu a0.Zero, vi a0.Pos.Offset, (Value.slice M P Q), vi a0.Neg.Offset, (Value.slice S T U)] z) z) z (wY (yf fo30_0 z) z (wY (yl ty3 z z (aJ.cell 0 _ z)) z (wY (ym z) z (wY (Y.sub_i z z) z ?_)))))))))
  have bW := aO.i V z z
  have bX := bW.i o z z
  have bY := bX.i m z z
  have bZ := bY.i j z z
  have b0 := bZ.i C z z
  have b1 := aP.i V z z
  have b2 := b1.i o z z
  have b3 := b2.i m z z
  have b4 := b3.i j z z
  have b5 := b4.i C z z
  obtain ⟨⟨d, em⟩, b6, h⟩ := bnd h
  refine WL.call (vals := [ag [vi a0.Scale, vu a0.Zero, vi a0.Pos.Offset, (Value.slice M P Q), vi a0.Neg.Offset, (Value.slice S T U)], vi (w64 (a0.Scale - ar))]) kok31 z z (c_hist_Down (A := fun _ => True) (a0 := a0) (Sl.all b0) (Sl.all b5) b6) ?_
  rintro d6 a3 ⟨dH, dI, rfl, b7, dJ, dK⟩
  obtain ⟨aW, dR, ay, Z⟩ := adoptE d0 (fun k => 1) b7
  have a4 : Sl Rep.u a3 (frs aW) dH d.Pos.Counts := Sl.adoptF dJ (fun k hk => ⟨hk, z⟩) ay
  have a5 : Sl Rep.u a3 (frs aW) dI d.Neg.Counts := Sl.adoptF dK (fun k hk => ⟨hk, z⟩) ay
  refine wY (ym z) z (wY (yx z z) z (wY (yx z z) z ?_))
  have b8 := h
  obtain ⟨ac, ad, ae, rfl⟩ := a4.shape
  have h := b8
  have b9 := h
  obtain ⟨af, ah, ai, rfl⟩ := a5.shape
  have h := b9
  have ca := bh.st j z
  have cb := ca.st C z
  have cc := cb.st Z z
  refine WL.store (v := ag [vi d.Scale, vu d.Zero, vi d.Pos.Offset, (Value.slice ac ad ae), vi d.Neg.Offset, (Value.slice af ah ai)]) (cells' := [vi d.Scale, vu d.Zero, vi d.Pos.Offset, (Value.slice ac ad ae), vi d.Neg.Offset, (Value.slice af ah ai)]) ty30 z z cc z (le_ z) z z ?_
  intro d7 J cd
  refine nl (th (sq (rg ?_)))
  have ce := a2.st Z z
  have a6 := ce.st J z
  refine wY (yL ty30 z z (a6.cells 0 [vi a1.Scale, vu a1.Zero, vi a1.Pos.Offset, (Value.slice D E F), vi a1.Neg.Offset, (Value.slice G H I)] z) z) z (wY (yf fo30_0 z) z (wY (yl ty3 z z (a6.cell 0 _ z)) z (wY (ym z) z (wY (Y.sub_i z z) z ?_))))
  have cf := aQ.i o z z
  have cg := cf.i m z z
  have ch := cg.i j z z
  have ci := ch.i C z z
  have cj := ci.i Z z z
  have ck := cj.i J z z
  have cl := aR.i o z z
  have cm := cl.i m z z
  have cn := cm.i j z z
  have co := cn.i C z z
  have cp := co.i Z z z
  have cq := cp.i J z z
  obtain ⟨⟨e, en⟩, cr, h⟩ := bnd h
  refine WL.call (vals := [ag [vi a1.Scale, vu a1.Zero, vi a1.Pos.Offset, (Value.slice D E F), vi a1.Neg.Offset, (Value.slice G H I)], vi (w64 (a1.Scale - ar))]) kok31 z z (c_hist_Down (A := fun _ => True) (a0 := a1) (Sl.all ck) (Sl.all cq) cr) ?_
  rintro d8 a7 ⟨dL, dM, rfl, cs, dN, dO⟩
  obtain ⟨aK, dS, az, ab⟩ := adoptE aW (fun k => 1) cs
  have a8 : Sl Rep.u a7 (frs aK) dL e.Pos.Counts := Sl.adoptF dN (fun k hk => ⟨hk, z⟩) az
  have a9 : Sl Rep.u a7 (frs aK) dM e.Neg.Counts := Sl.adoptF dO (fun k hk => ⟨hk, z⟩) az
  refine wY (ym z) z (wY (yx z z) z (wY (yx z z) z ?_))
  have ct := h
  obtain ⟨aj, ak, al, rfl⟩ := a8.shape
  have h := ct
  have cu := h
  obtain ⟨am, an, ao, rfl⟩ := a9.shape
  have h := cu
  have cw := bi.st C z
  have cx := cw.st Z z
  have cy := cx.st J z
  have cz := cy.st ab z
  refine WL.store (v := ag [vi e.Scale, vu e.Zero, vi e.Pos.Offset, (Value.slice aj ak al), vi e.Neg.Offset, (Value.slice am an ao)]) (cells' := [vi e.Scale, vu e.Zero, vi e.Pos.Offset, (Value.slice aj ak al), vi e.Neg.Offset, (Value.slice am an ao)]) ty30 z z cz z (le_ z) z z ?_
  intro d9 aa ba
  refine nl (th (sq (WC.drawH [13] [0, 1, 2] aK 5 fmix z (by kernel_rfl) ?_)))
  intro ea t
  refine WD.y 1 z (by kernel_rfl) (fun eb eo bq => have cA := ba.st t z; have cC := cA.st bq z; yL ty30 z z (cC.cells 0 [vi e.Scale, vu e.Zero, vi e.Pos.Offset, (Value.slice aj ak al), vi e.Neg.Offset, (Value.slice am an ao)] z) z) z (WD.heavy 0 z (by kernel_rfl) ?_)
  have cD := cd.st ab z
  have cE := cD.st aa z
  have bb := cE.st t z
  refine wY (yL ty30 z z (bb.cells 0 [vi d.Scale, vu d.Zero, vi d.Pos.Offset, (Value.slice ac ad ae), vi d.Neg.Offset, (Value.slice af ah ai)] z) z) z (nl (At.dq (sr_ _ _ _) (WD.heavy 2 z (by kernel_rfl) (WL.store (v := ag [vi d.Scale, vu d.Zero, vi d.Pos.Offset, (Value.slice ac ad ae), vi d.Neg.Offset, (Value.slice af ah ai)]) (cells' := [vi d.Scale, vu d.Zero, vi d.Pos.Offset, (Value.slice ac ad ae), vi d.Neg.Offset, (Value.slice af ah ai)]) ty30 z z bb z (le_ z) z z ?_))))
  intro ec K cF
  refine nl (At.dq (su_ K z) (WD.phase [14] [0, 1, 2, 3, 4] (by kernel_rfl) (by kernel_rfl) (WD.heavy 3 z (by kernel_rfl) ?_)))
  have cG := ba.st t z
  have cH := cG.st K z
  refine WL.store (v := ag [vi e.Scale, vu e.Zero, vi e.Pos.Offset, (Value.slice aj ak al), vi e.Neg.Offset, (Value.slice am an ao)]) (cells' := [vi e.Scale, vu e.Zero, vi e.Pos.Offset, (Value.slice aj ak al), vi e.Neg.Offset, (Value.slice am an ao)]) ty30 z z cH z (le_ z) z z ?_
  intro cI L cJ
  refine nl (At.dq (su_ L z) (WD.y 4 z (by kernel_rfl) (fun _ _ _ => ya z) z (WD.done_ (by kernel_rfl) (th (rt ?_)))))
  obtain ⟨rfl, rfl, rfl⟩ := tup3 h
  have aq : Stp [13, 14, 15] (Lg.O0 A) w aK cI := (tr_ (su_ V z) (tr_ (su_ o z) (tr_ (su_ m z) (tr_ (su_ j z) (tr_ (su_ C z) (tr_ (su_ Z z) (tr_ (su_ J z) (tr_ (su_ ab z) (tr_ (su_ aa z) (tr_ (su_ t z) (tr_ (su_ K z) (su_ L z))))))))))))
  have cK := a4.f J z
  have cL := cK.f ab z
  have cM := cL.f aa z
  have cN := cM.f t z
  have cO := cN.f K z
  have cP := cO.f L z
  have cQ := a5.f J z
  have cR := cQ.f ab z
  have cS := cR.f aa z
  have cT := cS.f t z
  have cU := cT.f K z
  have cV := cU.f L z
  have cW := a8.f aa z
  have cX := cW.f t z
  have cY := cX.f K z
  have cZ := cY.f L z
  have c0 := a9.f aa z
  have c1 := c0.f t z
  have c2 := c1.f K z
  have c3 := c2.f L z
  have c4 := cF.st L z
  exact At.res (.inl z) z (.cell z (c4.runAg 0 [vi d.Scale, vu d.Zero, vi d.Pos.Offset, (Value.slice ac ad ae), vi d.Neg.Offset, (Value.slice af ah ai)] ty30 z z z) (.cell z (cJ.runAg 0 [vi e.Scale, vu e.Zero, vi e.Pos.Offset, (Value.slice aj ak al), vi e.Neg.Offset, (Value.slice am an ao)] ty30 z z z) (.tmp z .nil))) ⟨(Value.slice ac ad ae), (Value.slice af ah ai), (Value.slice aj ak al), (Value.slice am an ao), z, (se_ aq z z), (Sl.outF cP aq low0), (Sl.outF cV aq low0), (Sl.outF cZ aq low0), (Sl.outF c3 aq low0)⟩
theorem c_todelta_check {A : Nat → Prop} {v0_9 : Value} {v0_11 : Value} {a0 : api_State} {v1_1 : Value} {v1_13 : Value} {v1_15 : Value} {a1 : api_Point} {w : World} (hs0_9 : Sl Rep.u w A v0_9 a0.Hist.Pos.Counts) (hs0_11 : Sl Rep.u w A v0_11 a0.Hist.Neg.Counts) (hs1_1 : Sl rep_api_Pair w A v1_1 a1.Attrs) (hs1_13 : Sl Rep.u w A v1_13 a1.Hist.Pos.Counts) (hs1_15 : Sl Rep.u w A v1_15 a1.Hist.Neg.Counts) {r0 : Int} (h : todelta_check a0 a1 = some r0) : Rets Try.prog 63 [ag [vB a0.Some, vi a0.Start, vi a0.Time, vi a0.Int_, vu a0.Re, vu a0.Im, vi a0.Hist.Scale, vu a0.Hist.Zero, vi a0.Hist.Pos.Offset, v0_9, vi a0.Hist.Neg.Offset, v0_11], ag [vs a1.Name, v1_1, vi a1.Kind, vi a1.Temp, vB a1.Mono, vi a1.Start, vi a1.Time, vi a1.Int_, vu a1.Re, vu a1.Im, vi a1.Hist.Scale, vu a1.Hist.Zero, vi a1.Hist.Pos.Offset, v1_13, vi a1.Hist.Neg.Offset, v1_15, vi a1.Flags]] w (fun v w' => v = vi r0 ∧ Ext w w') := by
 unfold todelta_check at h
 refine Rets.enter Try.func63 z z ?_
 have G : Sl Rep.u w (imm (Lg.O0 A)) v0_9 a0.Hist.Pos.Counts := (Sl.start hs0_9)
 have H : Sl Rep.u w (imm (Lg.O0 A)) v0_11 a0.Hist.Neg.Counts := (Sl.start hs0_11)
 have I : Sl rep_api_Pair w (imm (Lg.O0 A)) v1_1 a1.Attrs := (Sl.start hs1_1)
 have J : Sl Rep.u w (imm (Lg.O0 A)) v1_13 a1.Hist.Pos.Counts := (Sl.start hs1_13)
 have K : Sl Rep.u w (imm (Lg.O0 A)) v1_15 a1.Hist.Neg.Counts := (Sl.start hs1_15)
 refine (show WC _ _ _ _ [(0, ag [vB a0.Some, vi a0.Start, vi a0.Time, vi a0.Int_, vu a0.Re, vu a0.Im, vi a0.Hist.Scale, vu a0.Hist.Zero, vi a0.Hist.Pos.Offset, v0_9, vi a0.Hist.Neg.Offset, v0_11]), (1, ag [vs a1.Name, v1_1, vi a1.Kind, vi a1.Temp, vB a1.Mono, vi a1.Start, vi a1.Time, vi a1.Int_, vu a1.Re, vu a1.Im, vi a1.Hist.Scale, vu a1.Hist.Zero, vi a1.Hist.Pos.Offset, v1_13, vi a1.Hist.Neg.Offset, v1_15, vi a1.Flags])] _ from ?_)
 refine sq (rg ?_)
 have L := h
 obtain ⟨aj, ak, al, rfl⟩ := G.shape
 have h := L
 have M := h
 obtain ⟨am, an, ao, rfl⟩ := H.shape
 have h := M
 refine WL.box (O := (Lg.O0 A)) 11 [vB a0.Some, vi a0.Start, vi a0.Time, vi a0.Int_, vu a0.Re, vu a0.Im, vi a0.Hist.Scale, vu a0.Hist.Zero, vi a0.Hist.Pos.Offset, (Value.slice aj ak al), vi a0.Hist.Neg.Offset, (Value.slice am an ao)] z z z ?_
 intro aD ap aC d P
 have Q := I.i d z z
 have S := h
 obtain ⟨aq, ar, au, rfl⟩ := Q.shape
 have h := S
 have T := J.i d z z
 have U := h
 obtain ⟨av, aw, ax, rfl⟩ := T.shape
 have h := U
 have V := K.i d z z
 have W := h
 obtain ⟨ay, az, aA, rfl⟩ := V.shape
 have h := W
 refine WL.box (O := ap) 12 [vs a1.Name, (Value.slice aq ar au), vi a1.Kind, vi a1.Temp, vB a1.Mono, vi a1.Start, vi a1.Time, vi a1.Int_, vu a1.Re, vu a1.Im, vi a1.Hist.Scale, vu a1.Hist.Zero, vi a1.Hist.Pos.Offset, (Value.slice av aw ax), vi a1.Hist.Neg.Offset, (Value.slice ay az aA), vi a1.Flags] z z z ?_
 intro aE m j e o
 refine wY (ya z) z (nl (th (sq (WC.block (sq (rg (wY (yf fo32_0 z) z ?_)))))))
 have l := P.st e z
 refine wY (yl ty4 z z (l.cell 0 _ z)) z (wY (Y.not z) z ?_)
 obtain ⟨aF, X, h⟩ := lt1 h
 refine WL.yE (ya z) (congrArg vB X.symm) z (nl (th ?_))
 rcases cnd h with ⟨r, h⟩ | ⟨r, h⟩
 ·refine WC.condT' z r (sq (rg (wY (ya z) z (nl (th (rt (At.inBlockR (At.thenR ?_))))))))
  obtain rfl := some1 h
  have Z : Stp [] (Lg.O0 A) w m j := (tr_ (su_ d z) (su_ e z))
  exact At.res (.inl z) z (.tmp z .nil) ⟨z, (se_ Z z z)⟩
 ·refine WC.condF' z r (sq (rg (wY (yf fo37_6 z) z (wY (yl ty3 z z (o.cell 6 _ z)) z (wY (yf fo32_2 z) z (wY (yl ty3 z z (l.cell 2 _ z)) z (wY (Y.leq_i z z) z ?_)))))))
  obtain ⟨aG, aa, h⟩ := lt1 h
  refine WL.yE (ya z) (congrArg vB aa.symm) z (nl (th ?_))
  rcases cnd h with ⟨t, h⟩ | ⟨t, h⟩
  ·refine WC.condT' z t (sq (rg (wY (ya z) z (nl (th (rt (At.inBlockR (At.thenR ?_))))))))
   obtain rfl := some1 h
   have ab : Stp [] (Lg.O0 A) w m j := (tr_ (su_ d z) (su_ e z))
   exact At.res (.inl z) z (.tmp z .nil) ⟨z, (se_ ab z z)⟩
  ·refine WC.condF' z t (sq (sq (rg (wY (yf fo37_5 z) z (wY (yl ty3 z z (o.cell 5 _ z)) z (wY (yf fo32_1 z) z (wY (yl ty3 z z (l.cell 1 _ z)) z (wY (Y.lss_i z z) z ?_))))))))
   obtain ⟨aH, ac, h⟩ := lt1 h
   refine WL.yE (ya z) (congrArg vB ac.symm) z (nl (th ?_))
   rcases cnd h with ⟨C, h⟩ | ⟨C, h⟩
   ·refine WC.condT' z C (sk (th ?_))
    rcases cnd h with ⟨D, h⟩ | ⟨D, h⟩
    ·refine WC.condT' z D (sq (rg (wY (ya z) z (nl (th (rt (At.inBlockR (At.thenR ?_))))))))
     obtain rfl := some1 h
     have ad : Stp [] (Lg.O0 A) w m j := (tr_ (su_ d z) (su_ e z))
     exact At.res (.inl z) z (.tmp z .nil) ⟨z, (se_ ad z z)⟩
    ·refine WC.condF' z D (sk (At.inBlock (th (sq (rg (wY (ya z) z (nl (th (rt ?_)))))))))
     obtain rfl := some1 h
     have ae : Stp [] (Lg.O0 A) w m j := (tr_ (su_ d z) (su_ e z))
     exact At.res (.inl z) z (.tmp z .nil) ⟨z, (se_ ae z z)⟩
   ·refine WC.condF' z C (rg (wY (yf fo37_5 z) z (wY (yl ty3 z z (o.cell 5 _ z)) z (wY (yf fo32_1 z) z (wY (yl ty3 z z (l.cell 1 _ z)) z (wY (Y.gtr_i z z) z (wY (ym z) z ?_)))))))
    refine WL.cut 6 (σ := Unit) (fun _ w' => j = w') (fun _ => [(32, vB ((decide (a0.Start < a1.Start)) && (decide (a1.Start < a0.Time))))]) ?_ ?_
    ·refine WL.part 26 z (fun E => ?_) (fun E => ?_)
     ·refine ug z z (wY (yf fo37_5 z) z (ug z z (wY (yl ty3 z z (o.cell 5 _ z)) z (ug z z (wY (yf fo32_2 z) z (ug z z (wY (yl ty3 z z (l.cell 2 _ z)) z (ug z z (wY (Y.lss_i z z) z ?_)))))))))
      refine wY (Y.pick (b := true) z z) z (WL.ren (v' := vB ((decide (a0.Start < a1.Start)) && (decide (a1.Start < a0.Time)))) 32 z (congrArg vB (andT E)) ?_)
      exact nl (At.join () z (.cons z .nil))
     ·refine WL.gS z z z z (WL.gS z z z z (WL.gS z z z z (WL.gS z z z z (WL.gS z z z z (wY (Y.pick (b := false) z z) z (WL.ren (v' := vB ((decide (a0.Start < a1.Start)) && (decide (a1.Start < a0.Time)))) 32 z (congrArg vB (andF E)) ?_))))))
      exact nl (At.join () z (.cons z .nil))
    ·rintro _ _ rfl
     refine (show WL _ _ _ _ _ [(32, vB ((decide (a0.Start < a1.Start)) && (decide (a1.Start < a0.Time))))] _ from ?_)
     obtain ⟨aI, af, h⟩ := lt1 h
     refine WL.yE (ya z) (congrArg vB af.symm) z (nl (th ?_))
     rcases cnd h with ⟨F, h⟩ | ⟨F, h⟩
     ·refine WC.condT' z F (sq (rg (wY (ya z) z (nl (th (rt (At.inBlockR (At.thenR ?_))))))))
      obtain rfl := some1 h
      have ah : Stp [] (Lg.O0 A) w m j := (tr_ (su_ d z) (su_ e z))
      exact At.res (.inl z) z (.tmp z .nil) ⟨z, (se_ ah z z)⟩
     ·refine WC.condF' z F (sk (At.inBlock (th (sq (rg (wY (ya z) z (nl (th (rt ?_)))))))))
      obtain rfl := some1 h
      have ai : Stp [] (Lg.O0 A) w m j := (tr_ (su_ d z) (su_ e z))
      exact At.res (.inl z) z (.tmp z .nil) ⟨z, (se_ ai z z)⟩
theorem c_slices_Clone_api_Pair_api_Pair {A : Nat → Prop} {a0 : List api_Pair} {v0 : Value} {w : World} (hs0 : Sl rep_api_Pair w A v0 a0) {r0 : List api_Pair} (h : slices_Clone_api_Pair_api_Pair a0 = some r0) : Rets Try.prog 88 [v0] w (fun v w' => ∃ (l : Value), v = l ∧ Ext w w' ∧ RowF rep_api_Pair 107 w w' l r0) := by
  unfold slices_Clone_api_Pair_api_Pair at h
  refine Rets.enter Try.func88 z z ?_
  refine (show WC _ _ _ _ [(0, v0)] _ from ?_)
  refine sq (rg (wY (ya z) z (nl (th ?_))))
  refine sq (sq (rg ?_))
  refine wY (ym z) z ?_
  rcases hs0.nilOr with ⟨rfl, rfl⟩ | ⟨q, n, c, rfl⟩
  · refine wY (Y.slnil (p := none) (n := 0) (c := 0) ty35.u z z) z (nl (th ?_))
    refine WC.condT z (sq (rg (wY (ya z) z (nl (th (rt (At.thenR ?_)))))))
    have : r0 = [] := by simpa [app] using h.symm
    subst this
    exact At.res (.inl z) z (.tmp z .nil) ⟨_, z, Ext.refl w, RowF.nil⟩
  · refine wY (Y.slnil (p := some _) ty35.u z z) z (nl (th ?_))
    refine WC.condF z (sk (th ?_))
    refine sq (rg ?_)
    have hs := hs0
    refine WL.buildSlice (O := Lg.O0 A) (R := rep_api_Pair) (vals := []) 11 [] (xs := []) (by decide) ty35 ty107 (by decide) (by decide) (fe_ z) (by kernel_rfl) z z z ?_
    intro v D E d m
    refine wY (ym z) z ?_
    have o := (Sl.start hs).i d z z
    refine WL.append (by decide) ty35 ty107 z (by decide) z z m o.src h z ?_
    intro F t C j r
    refine wY (ya z) z (nl (th (rt ?_)))
    have e : Stp [11] (Lg.O0 A) w t C := (tr_ (su_ d z) j)
    exact At.res (.inl z) z (.tmp z .nil) ⟨_, z, se_ e z z, OwnSl.outF r e low0 z⟩
theorem c_point_Clone {A : Nat → Prop} {v0_1 : Value} {v0_13 : Value} {v0_15 : Value} {a0 : api_Point} {w : World} (hs0_1 : Sl rep_api_Pair w A v0_1 a0.Attrs) (hs0_13 : Sl Rep.u w A v0_13 a0.Hist.Pos.Counts) (hs0_15 : Sl Rep.u w A v0_15 a0.Hist.Neg.Counts) {r0 : api_Point} (h : point_Clone a0 = some r0) : Rets Try.prog 64 [ag [vs a0.Name, v0_1, vi a0.Kind, vi a0.Temp, vB a0.Mono, vi a0.Start, vi a0.Time, vi a0.Int_, vu a0.Re, vu a0.Im, vi a0.Hist.Scale, vu a0.Hist.Zero, vi a0.Hist.Pos.Offset, v0_13, vi a0.Hist.Neg.Offset, v0_15, vi a0.Flags]] w (fun v w' => ∃ (aa : Value) (Q : Value) (S : Value), v = ag [vs r0.Name, aa, vi r0.Kind, vi r0.Temp, vB r0.Mono, vi r0.Start, vi r0.Time, vi r0.Int_, vu r0.Re, vu r0.Im, vi r0.Hist.Scale, vu r0.Hist.Zero, vi r0.Hist.Pos.Offset, Q, vi r0.Hist.Neg.Offset, S, vi r0.Flags] ∧ Ext w w' ∧ Sl rep_api_Pair w' (fun k => w.heap.size ≤ k) aa r0.Attrs ∧ Sl Rep.u w' (fun k => w.heap.size ≤ k) Q r0.Hist.Pos.Counts ∧ Sl Rep.u w' (fun k => w.heap.size ≤ k) S r0.Hist.Neg.Counts) := by
 unfold point_Clone at h
 refine Rets.enter Try.func64 z z ?_
 have ab : Sl rep_api_Pair w (imm (Lg.O0 A)) v0_1 a0.Attrs := (Sl.start hs0_1)
 have ac : Sl Rep.u w (imm (Lg.O0 A)) v0_13 a0.Hist.Pos.Counts := (Sl.start hs0_13)
 have ad : Sl Rep.u w (imm (Lg.O0 A)) v0_15 a0.Hist.Neg.Counts := (Sl.start hs0_15)
 refine (show WC _ _ _ _ [(0, ag [vs a0.Name, v0_1, vi a0.Kind, vi a0.Temp, vB a0.Mono, vi a0.Start, vi a0.Time, vi a0.Int_, vu a0.Re, vu a0.Im, vi a0.Hist.Scale, vu a0.Hist.Zero, vi a0.Hist.Pos.Offset, v0_13, vi a0.Hist.Neg.Offset, v0_15, vi a0.Flags])] _ from ?_)
 refine sq (rg ?_)
 have aI := h
 obtain ⟨aD, aE, aF, rfl⟩ := ab.shape
 have h := aI
 have aJ := h
 obtain ⟨T, U, V, rfl⟩ := ac.shape
 have h := aJ
 have aK := h
 obtain ⟨W, X, Z, rfl⟩ := ad.shape
 have h := aK
 refine WL.box (O := (Lg.O0 A)) 11 [vs a0.Name, (Value.slice aD aE aF), vi a0.Kind, vi a0.Temp, vB a0.Mono, vi a0.Start, vi a0.Time, vi a0.Int_, vu a0.Re, vu a0.Im, vi a0.Hist.Scale, vu a0.Hist.Zero, vi a0.Hist.Pos.Offset, (Value.slice T U V), vi a0.Hist.Neg.Offset, (Value.slice W X Z), vi a0.Flags] z z z ?_
 intro bx bh br D aL
 refine WL.alloc (O := bh) 12 [vs [], Value.slice none 0 0, vi 0, vi 0, vB false, vi 0, vi 0, vi 0, vu 0, vu 0, vi 0, vu 0, vi 0, Value.slice none 0 0, vi 0, Value.slice none 0 0, vi 0] ty37 z z ?_
 intro bz bi bs e aM
 refine nl (th (sq (rg (wY (yf fo37_1 z) z ?_))))
 have ae := aL.st e z
 refine wY (yl ty35 z z (ae.cell 1 _ z)) z ?_
 have aN := ab.i D z z
 have aO := aN.i e z z
 obtain ⟨bj, aP, h⟩ := bnd h
 refine WL.call (vals := [(Value.slice aD aE aF)]) kok88 z z (c_slices_Clone_api_Pair_api_Pair (A := fun _ => True) (Sl.all aO) aP) ?_
 rintro af aQ ⟨_, rfl, aR, bk⟩
 obtain ⟨aG, bl, ah, j⟩ := adoptE bi (fun k => if ob af = some k then 13 else 1) aR
 have ai : OwnSl 13 rep_api_Pair 107 aG aQ af bj := RowF.adopt 13 flat_api_Pair bk ah (fun k hk => if_pos hk)
 refine wY (yf fo37_1 z) z ?_
 have aS := h
 obtain ⟨r, t, C, rfl⟩ := ai.shape
 have h := aS
 have aT := ae.st j z
 refine WL.store (v := (Value.slice r t C)) (cells' := [vs a0.Name, (Value.slice r t C), vi a0.Kind, vi a0.Temp, vB a0.Mono, vi a0.Start, vi a0.Time, vi a0.Int_, vu a0.Re, vu a0.Im, vi a0.Hist.Scale, vu a0.Hist.Zero, vi a0.Hist.Pos.Offset, (Value.slice T U V), vi a0.Hist.Neg.Offset, (Value.slice W X Z), vi a0.Flags]) ty35 z z aT z (le_ z) z z ?_
 intro bt l aj
 refine nl (th (sq (rg (wY (yf fo37_10 z) z (wY (yL ty30 z z (aj.cells 10 [vi a0.Hist.Scale, vu a0.Hist.Zero, vi a0.Hist.Pos.Offset, (Value.slice T U V), vi a0.Hist.Neg.Offset, (Value.slice W X Z)] z) z) z ?_)))))
 have aU := ac.i D z z
 have aW := aU.i e z z
 have aX := aW.i j z z
 have aY := aX.i l z z
 have aZ := ad.i D z z
 have a1 := aZ.i e z z
 have a2 := a1.i j z z
 have a3 := a2.i l z z
 obtain ⟨d, a4, h⟩ := bnd h
 refine WL.call (vals := [ag [vi a0.Hist.Scale, vu a0.Hist.Zero, vi a0.Hist.Pos.Offset, (Value.slice T U V), vi a0.Hist.Neg.Offset, (Value.slice W X Z)]]) kok46 z z (c_hist_Clone (A := fun _ => True) (a0 := a0.Hist) (Sl.all aY) (Sl.all a3) a4) ?_
 rintro bu ak ⟨bm, bn, rfl, a5, bo, bp⟩
 obtain ⟨aH, bq, P, E⟩ := adoptE aG (fun k => 1) a5
 have al : Sl Rep.u ak (frs aH) bm d.Pos.Counts := Sl.adoptF bo (fun k hk => ⟨hk, z⟩) P
 have am : Sl Rep.u ak (frs aH) bn d.Neg.Counts := Sl.adoptF bp (fun k hk => ⟨hk, z⟩) P
 refine wY (yf fo37_10 z) z ?_
 have a6 := h
 obtain ⟨H, I, J, rfl⟩ := al.shape
 have h := a6
 have a7 := h
 obtain ⟨K, L, M, rfl⟩ := am.shape
 have h := a7
 have a8 := aj.st E z
 refine WL.store (v := ag [vi d.Scale, vu d.Zero, vi d.Pos.Offset, (Value.slice H I J), vi d.Neg.Offset, (Value.slice K L M)]) (cells' := [vs a0.Name, (Value.slice r t C), vi a0.Kind, vi a0.Temp, vB a0.Mono, vi a0.Start, vi a0.Time, vi a0.Int_, vu a0.Re, vu a0.Im, vi d.Scale, vu d.Zero, vi d.Pos.Offset, (Value.slice H I J), vi d.Neg.Offset, (Value.slice K L M), vi a0.Flags]) ty30 z z a8 z (le_ z) z z ?_
 intro bw m a9
 refine nl (th (sq (rg (wY (yL ty37 z z (a9.cells 0 [vs a0.Name, (Value.slice r t C), vi a0.Kind, vi a0.Temp, vB a0.Mono, vi a0.Start, vi a0.Time, vi a0.Int_, vu a0.Re, vu a0.Im, vi d.Scale, vu d.Zero, vi d.Pos.Offset, (Value.slice H I J), vi d.Neg.Offset, (Value.slice K L M), vi a0.Flags] z) z) z ?_))))
 have ba := aM.st j z
 have bb := ba.st l z
 have bc := bb.st E z
 have bd := bc.st m z
 refine WL.store (v := ag [vs a0.Name, (Value.slice r t C), vi a0.Kind, vi a0.Temp, vB a0.Mono, vi a0.Start, vi a0.Time, vi a0.Int_, vu a0.Re, vu a0.Im, vi d.Scale, vu d.Zero, vi d.Pos.Offset, (Value.slice H I J), vi d.Neg.Offset, (Value.slice K L M), vi a0.Flags]) (cells' := [vs a0.Name, (Value.slice r t C), vi a0.Kind, vi a0.Temp, vB a0.Mono, vi a0.Start, vi a0.Time, vi a0.Int_, vu a0.Re, vu a0.Im, vi d.Scale, vu d.Zero, vi d.Pos.Offset, (Value.slice H I J), vi d.Neg.Offset, (Value.slice K L M), vi a0.Flags]) ty37 z z bd z (le_ z) z z ?_
 intro bf F an
 refine nl (th (rt ?_))
 obtain rfl := some1 h
 have ao := ai.st l z z z
 have ap := ao.st E z z z
 have aq := ap.st m z z z
 have ar := aq.st F z z z
 obtain ⟨bg, o, au⟩ := OwnSl.giveF rfl flat_api_Pair ar
 have G : Stp [11, 12, 13] (Lg.O0 A) w bg bf := (tr_ (su_ D z) (tr_ (su_ e z) (tr_ (su_ j z) (tr_ (su_ l z) (tr_ (su_ E z) (tr_ (su_ m z) (tr_ (su_ F z) (su_ o z))))))))
 have av := al.f m z
 have aw := av.f F z
 have ax := aw.f o z
 have ay := am.f m z
 have az := ay.f F z
 have aA := az.f o z
 have aC := an.st o z
 exact At.res (.inl z) z (.cell z (aC.runAg 0 [vs a0.Name, (Value.slice r t C), vi a0.Kind, vi a0.Temp, vB a0.Mono, vi a0.Start, vi a0.Time, vi a0.Int_, vu a0.Re, vu a0.Im, vi d.Scale, vu d.Zero, vi d.Pos.Offset, (Value.slice H I J), vi d.Neg.Offset, (Value.slice K L M), vi a0.Flags] ty37 z z z) .nil) ⟨(Value.slice r t C), (Value.slice H I J), (Value.slice K L M), z, (se_ G z z), (Sl.outF au G low0), (Sl.outF ax G low0), (Sl.outF aA G low0)⟩
end Go.Lg
