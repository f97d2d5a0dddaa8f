/- The walks of TodeltaSums and of what it calls, printed by gen.py. -/
import Derived.Test.YtoiklipabcecfaaDsLgPart0
import Derived.Test.YtoiklipabcecfaaDsLgPart2
import Derived.Test.YtoiklipabcecfaaProg
set_option linter.unusedVariables false
namespace Go.Lg
open Go Go.Proofs
set_option maxRecDepth 100000
set_option maxHeartbeats 4000000
theorem fmix : Try.prog.follows .mixedOrders = true := by kernel_rfl
theorem ty3 : TyOk Try.prog 3 (.int .i64) 1 8 (.int .i64 0) := tyOk Try.underlying3 (by kernel_rfl)
theorem ty4 : TyOk Try.prog 4 .bool 1 1 (.bool false) := tyOk Try.underlying4 (by kernel_rfl)
theorem ty5 : TyOk Try.prog 5 (.int .u8) 1 1 (.int .u8 0) := tyOk Try.underlying5 (by kernel_rfl)
theorem ty9 : TyOk Try.prog 9 .string 1 16 (.string ⟨#[]⟩) := tyOk Try.underlying9 (by kernel_rfl)
theorem ty22 : TyOk Try.prog 22 (.slice 37) 1 24 (.slice none 0 0) := tyOk Try.underlying22 (by kernel_rfl)
theorem ty25 : TyOk Try.prog 25 (.int .u64) 1 8 (.int .u64 0) := tyOk Try.underlying25 (by kernel_rfl)
theorem ty26 : TyOk Try.prog 26 (.slice 25) 1 24 (.slice none 0 0) := tyOk Try.underlying26 (by kernel_rfl)
theorem ty28 : TyOk Try.prog 28 (.struct #[(Field.mk "Offset" 3 0 false "" "" 0), (Field.mk "Counts" 26 1 false "" "" 8)]) 2 32 (.agg #[(.int .i64 0), (.slice none 0 0)]) := tyOk Try.underlying28 (by kernel_rfl)
theorem ty30 : TyOk Try.prog 30 (.struct #[(Field.mk "Scale" 3 0 false "" "" 0), (Field.mk "Zero" 25 1 false "" "" 8), (Field.mk "Pos" 28 2 false "" "" 16), (Field.mk "Neg" 28 4 false "" "" 48)]) 6 80 (.agg #[(.int .i64 0), (.int .u64 0), (.int .i64 0), (.slice none 0 0), (.int .i64 0), (.slice none 0 0)]) := tyOk Try.underlying30 (by kernel_rfl)
theorem ty32 : TyOk Try.prog 32 (.struct #[(Field.mk "Some" 4 0 false "" "" 0), (Field.mk "Start" 3 1 false "" "" 8), (Field.mk "Time" 3 2 false "" "" 16), (Field.mk "Int" 3 3 false "" "" 24), (Field.mk "Re" 25 4 false "" "" 32), (Field.mk "Im" 25 5 false "" "" 40), (Field.mk "Hist" 30 6 false "" "" 48)]) 12 128 (.agg #[(.bool false), (.int .i64 0), (.int .i64 0), (.int .i64 0), (.int .u64 0), (.int .u64 0), (.int .i64 0), (.int .u64 0), (.int .i64 0), (.slice none 0 0), (.int .i64 0), (.slice none 0 0)]) := tyOk Try.underlying32 (by kernel_rfl)
theorem ty35 : TyOk Try.prog 35 (.slice 107) 1 24 (.slice none 0 0) := tyOk Try.underlying35 (by kernel_rfl)
theorem ty37 : TyOk Try.prog 37 (.struct #[(Field.mk "Name" 9 0 false "" "" 0), (Field.mk "Attrs" 35 1 false "" "" 16), (Field.mk "Kind" 3 2 false "" "" 40), (Field.mk "Temp" 3 3 false "" "" 48), (Field.mk "Mono" 4 4 false "" "" 56), (Field.mk "Start" 3 5 false "" "" 64), (Field.mk "Time" 3 6 false "" "" 72), (Field.mk "Int" 3 7 false "" "" 80), (Field.mk "Re" 25 8 false "" "" 88), (Field.mk "Im" 25 9 false "" "" 96), (Field.mk "Hist" 30 10 false "" "" 104), (Field.mk "Flags" 3 16 false "" "" 184)]) 17 192 (.agg #[(.string ⟨#[]⟩), (.slice none 0 0), (.int .i64 0), (.int .i64 0), (.bool false), (.int .i64 0), (.int .i64 0), (.int .i64 0), (.int .u64 0), (.int .u64 0), (.int .i64 0), (.int .u64 0), (.int .i64 0), (.slice none 0 0), (.int .i64 0), (.slice none 0 0), (.int .i64 0)]) := tyOk Try.underlying37 (by kernel_rfl)
theorem ty86 : TyOk Try.prog 86 (.array 2 28) 4 64 (.agg #[(.int .i64 0), (.slice none 0 0), (.int .i64 0), (.slice none 0 0)]) := tyOk Try.underlying86 (by kernel_rfl)
theorem ty92 : TyOk Try.prog 92 (.int .u64) 1 8 (.int .u64 0) := tyOk Try.underlying92 (by kernel_rfl)
theorem ty102 : TyOk Try.prog 102 (.struct #[(Field.mk "i" 3 0 false "" "limnograph/todelta" 0), (Field.mk "re" 25 1 false "" "limnograph/todelta" 8), (Field.mk "im" 25 2 false "" "limnograph/todelta" 16), (Field.mk "h" 30 3 false "" "limnograph/todelta" 24)]) 9 104 (.agg #[(.int .i64 0), (.int .u64 0), (.int .u64 0), (.int .i64 0), (.int .u64 0), (.int .i64 0), (.slice none 0 0), (.int .i64 0), (.slice none 0 0)]) := tyOk Try.underlying102 (by kernel_rfl)
theorem ty107 : TyOk Try.prog 107 (.struct #[(Field.mk "Key" 9 0 false "" "" 0), (Field.mk "Val" 9 1 false "" "" 16)]) 2 32 (.agg #[(.string ⟨#[]⟩), (.string ⟨#[]⟩)]) := tyOk Try.underlying107 (by kernel_rfl)
theorem ty118 : TyOk Try.prog 118 (.array 2 30) 12 160 (.agg #[(.int .i64 0), (.int .u64 0), (.int .i64 0), (.slice none 0 0), (.int .i64 0), (.slice none 0 0), (.int .i64 0), (.int .u64 0), (.int .i64 0), (.slice none 0 0), (.int .i64 0), (.slice none 0 0)]) := tyOk Try.underlying118 (by kernel_rfl)
theorem ty124 : TyOk Try.prog 124 (.slice 5) 1 24 (.slice none 0 0) := tyOk Try.underlying124 (by kernel_rfl)
theorem fo28_0 : FieldOk Try.prog 28 0 0 := fieldOk Try.underlying28 rfl rfl (by kernel_rfl)
theorem fo28_1 : FieldOk Try.prog 28 1 1 := fieldOk Try.underlying28 rfl rfl (by kernel_rfl)
theorem fo30_0 : FieldOk Try.prog 30 0 0 := fieldOk Try.underlying30 rfl rfl (by kernel_rfl)
theorem fo30_1 : FieldOk Try.prog 30 1 1 := fieldOk Try.underlying30 rfl rfl (by kernel_rfl)
theorem fo30_2 : FieldOk Try.prog 30 2 2 := fieldOk Try.underlying30 rfl rfl (by kernel_rfl)
theorem fo30_3 : FieldOk Try.prog 30 3 4 := fieldOk Try.underlying30 rfl rfl (by kernel_rfl)
theorem fo32_0 : FieldOk Try.prog 32 0 0 := fieldOk Try.underlying32 rfl rfl (by kernel_rfl)
theorem fo32_1 : FieldOk Try.prog 32 1 1 := fieldOk Try.underlying32 rfl rfl (by kernel_rfl)
theorem fo32_2 : FieldOk Try.prog 32 2 2 := fieldOk Try.underlying32 rfl rfl (by kernel_rfl)
theorem fo32_3 : FieldOk Try.prog 32 3 3 := fieldOk Try.underlying32 rfl rfl (by kernel_rfl)
theorem fo32_4 : FieldOk Try.prog 32 4 4 := fieldOk Try.underlying32 rfl rfl (by kernel_rfl)
theorem fo32_5 : FieldOk Try.prog 32 5 5 := fieldOk Try.underlying32 rfl rfl (by kernel_rfl)
theorem fo32_6 : FieldOk Try.prog 32 6 6 := fieldOk Try.underlying32 rfl rfl (by kernel_rfl)
theorem fo37_0 : FieldOk Try.prog 37 0 0 := fieldOk Try.underlying37 rfl rfl (by kernel_rfl)
theorem fo37_1 : FieldOk Try.prog 37 1 1 := fieldOk Try.underlying37 rfl rfl (by kernel_rfl)
theorem fo37_2 : FieldOk Try.prog 37 2 2 := fieldOk Try.underlying37 rfl rfl (by kernel_rfl)
theorem fo37_3 : FieldOk Try.prog 37 3 3 := fieldOk Try.underlying37 rfl rfl (by kernel_rfl)
theorem fo37_4 : FieldOk Try.prog 37 4 4 := fieldOk Try.underlying37 rfl rfl (by kernel_rfl)
theorem fo37_5 : FieldOk Try.prog 37 5 5 := fieldOk Try.underlying37 rfl rfl (by kernel_rfl)
theorem fo37_6 : FieldOk Try.prog 37 6 6 := fieldOk Try.underlying37 rfl rfl (by kernel_rfl)
theorem fo37_7 : FieldOk Try.prog 37 7 7 := fieldOk Try.underlying37 rfl rfl (by kernel_rfl)
theorem fo37_8 : FieldOk Try.prog 37 8 8 := fieldOk Try.underlying37 rfl rfl (by kernel_rfl)
theorem fo37_9 : FieldOk Try.prog 37 9 9 := fieldOk Try.underlying37 rfl rfl (by kernel_rfl)
theorem fo37_10 : FieldOk Try.prog 37 10 10 := fieldOk Try.underlying37 rfl rfl (by kernel_rfl)
theorem fo37_11 : FieldOk Try.prog 37 11 16 := fieldOk Try.underlying37 rfl rfl (by kernel_rfl)
theorem fo102_0 : FieldOk Try.prog 102 0 0 := fieldOk Try.underlying102 rfl rfl (by kernel_rfl)
theorem fo102_1 : FieldOk Try.prog 102 1 1 := fieldOk Try.underlying102 rfl rfl (by kernel_rfl)
theorem fo102_2 : FieldOk Try.prog 102 2 2 := fieldOk Try.underlying102 rfl rfl (by kernel_rfl)
theorem fo102_3 : FieldOk Try.prog 102 3 3 := fieldOk Try.underlying102 rfl rfl (by kernel_rfl)
theorem fo107_0 : FieldOk Try.prog 107 0 0 := fieldOk Try.underlying107 rfl rfl (by kernel_rfl)
theorem fo107_1 : FieldOk Try.prog 107 1 1 := fieldOk Try.underlying107 rfl rfl (by kernel_rfl)
theorem x64_58 : X64 Try.prog 58 := x64 Try.func58 (by kernel_rfl) rfl (by kernel_rfl) (by kernel_rfl)
theorem xfrom_95 : XFrom Try.prog 95 := xfrom Try.func95 (by kernel_rfl) rfl (by kernel_rfl) (by kernel_rfl)
theorem xbits_115 : XBits Try.prog 115 := xbits Try.func115 (by kernel_rfl) rfl (by kernel_rfl) (by kernel_rfl)
theorem kok11 : CallOk Try.prog 11 := callOk Try.func11 (by kernel_rfl) rfl
theorem kok12 : CallOk Try.prog 12 := callOk Try.func12 (by kernel_rfl) rfl
theorem kok13 : CallOk Try.prog 13 := callOk Try.func13 (by kernel_rfl) rfl
theorem kok14 : CallOk Try.prog 14 := callOk Try.func14 (by kernel_rfl) rfl
theorem kok15 : CallOk Try.prog 15 := callOk Try.func15 (by kernel_rfl) rfl
theorem kok17 : CallOk Try.prog 17 := callOk Try.func17 (by kernel_rfl) rfl
theorem kok18 : CallOk Try.prog 18 := callOk Try.func18 (by kernel_rfl) rfl
theorem kok27 : CallOk Try.prog 27 := callOk Try.func27 (by kernel_rfl) rfl
theorem kok28 : CallOk Try.prog 28 := callOk Try.func28 (by kernel_rfl) rfl
theorem kok31 : CallOk Try.prog 31 := callOk Try.func31 (by kernel_rfl) rfl
theorem kok33 : CallOk Try.prog 33 := callOk Try.func33 (by kernel_rfl) rfl
theorem kok34 : CallOk Try.prog 34 := callOk Try.func34 (by kernel_rfl) rfl
theorem kok35 : CallOk Try.prog 35 := callOk Try.func35 (by kernel_rfl) rfl
theorem kok36 : CallOk Try.prog 36 := callOk Try.func36 (by kernel_rfl) rfl
theorem kok37 : CallOk Try.prog 37 := callOk Try.func37 (by kernel_rfl) rfl
theorem kok38 : CallOk Try.prog 38 := callOk Try.func38 (by kernel_rfl) rfl
theorem kok39 : CallOk Try.prog 39 := callOk Try.func39 (by kernel_rfl) rfl
theorem kok40 : CallOk Try.prog 40 := callOk Try.func40 (by kernel_rfl) rfl
theorem kok41 : CallOk Try.prog 41 := callOk Try.func41 (by kernel_rfl) rfl
theorem kok42 : CallOk Try.prog 42 := callOk Try.func42 (by kernel_rfl) rfl
theorem kok43 : CallOk Try.prog 43 := callOk Try.func43 (by kernel_rfl) rfl
theorem kok46 : CallOk Try.prog 46 := callOk Try.func46 (by kernel_rfl) rfl
theorem kok52 : CallOk Try.prog 52 := callOk Try.func52 (by kernel_rfl) rfl
theorem kok57 : CallOk Try.prog 57 := callOk Try.func57 (by kernel_rfl) rfl
theorem kok59 : CallOk Try.prog 59 := callOk Try.func59 (by kernel_rfl) rfl
theorem kok60 : CallOk Try.prog 60 := callOk Try.func60 (by kernel_rfl) rfl
theorem kok62 : CallOk Try.prog 62 := callOk Try.func62 (by kernel_rfl) rfl
theorem kok63 : CallOk Try.prog 63 := callOk Try.func63 (by kernel_rfl) rfl
theorem kok64 : CallOk Try.prog 64 := callOk Try.func64 (by kernel_rfl) rfl
theorem kok65 : CallOk Try.prog 65 := callOk Try.func65 (by kernel_rfl) rfl
theorem kok66 : CallOk Try.prog 66 := callOk Try.func66 (by kernel_rfl) rfl
theorem kok67 : CallOk Try.prog 67 := callOk Try.func67 (by kernel_rfl) rfl
theorem kok68 : CallOk Try.prog 68 := callOk Try.func68 (by kernel_rfl) rfl
theorem kok69 : CallOk Try.prog 69 := callOk Try.func69 (by kernel_rfl) rfl
theorem kok70 : CallOk Try.prog 70 := callOk Try.func70 (by kernel_rfl) rfl
theorem kok71 : CallOk Try.prog 71 := callOk Try.func71 (by kernel_rfl) rfl
theorem kok72 : CallOk Try.prog 72 := callOk Try.func72 (by kernel_rfl) rfl
theorem kok73 : CallOk Try.prog 73 := callOk Try.func73 (by kernel_rfl) rfl
theorem kok76 : CallOk Try.prog 76 := callOk Try.func76 (by kernel_rfl) rfl
theorem kok88 : CallOk Try.prog 88 := callOk Try.func88 (by kernel_rfl) rfl
theorem kok89 : CallOk Try.prog 89 := callOk Try.func89 (by kernel_rfl) rfl
theorem kok90 : CallOk Try.prog 90 := callOk Try.func90 (by kernel_rfl) rfl
theorem kok91 : CallOk Try.prog 91 := callOk Try.func91 (by kernel_rfl) rfl
theorem kok92 : CallOk Try.prog 92 := callOk Try.func92 (by kernel_rfl) rfl
theorem kok93 : CallOk Try.prog 93 := callOk Try.func93 (by kernel_rfl) rfl
theorem kok94 : CallOk Try.prog 94 := callOk Try.func94 (by kernel_rfl) rfl
theorem kok96 : CallOk Try.prog 96 := callOk Try.func96 (by kernel_rfl) rfl
theorem kok97 : CallOk Try.prog 97 := callOk Try.func97 (by kernel_rfl) rfl
theorem kok110 : CallOk Try.prog 110 := callOk Try.func110 (by kernel_rfl) rfl
theorem kok111 : CallOk Try.prog 111 := callOk Try.func111 (by kernel_rfl) rfl
theorem kok114 : CallOk Try.prog 114 := callOk Try.func114 (by kernel_rfl) rfl
theorem kok116 : CallOk Try.prog 116 := callOk Try.func116 (by kernel_rfl) rfl
theorem kok117 : CallOk Try.prog 117 := callOk Try.func117 (by kernel_rfl) rfl
theorem c_hist_sides {A : Nat → Prop} {v0_3 : Value} {v0_5 : Value} {a0 : api_Hist} {w : World} (hs0_3 : Sl Rep.u w A v0_3 a0.Pos.Counts) (hs0_5 : Sl Rep.u w A v0_5 a0.Neg.Counts) {r0 : List api_Side} (h : hist_sides a0 = some r0) : Rets Try.prog 57 [ag [vi a0.Scale, vu a0.Zero, vi a0.Pos.Offset, v0_3, vi a0.Neg.Offset, v0_5]] w (fun v w' => ∃ (G : List Value), v = Value.agg (List.toArray G) ∧ Ext w w' ∧ Rows' rep_api_Side w' (fun k => A k ∨ w.heap.size ≤ k) G r0 ∧ r0.length = 2) := by
 unfold hist_sides at h
 refine Rets.enter Try.func57 z z ?_
 have C : Sl Rep.u w (imm (Lg.O0 A)) v0_3 a0.Pos.Counts := (Sl.start hs0_3)
 have D : Sl Rep.u w (imm (Lg.O0 A)) v0_5 a0.Neg.Counts := (Sl.start hs0_5)
 refine (show WC _ _ _ _ [(0, ag [vi a0.Scale, vu a0.Zero, vi a0.Pos.Offset, v0_3, vi a0.Neg.Offset, v0_5])] _ from ?_)
 refine sq (rg ?_)
 have I := h
 obtain ⟨j, l, m, rfl⟩ := C.shape
 have h := I
 have J := h
 obtain ⟨a, d, e, rfl⟩ := D.shape
 have h := J
 refine WL.box (O := (Lg.O0 A)) 11 [vi a0.Scale, vu a0.Zero, vi a0.Pos.Offset, (Value.slice j l m), vi a0.Neg.Offset, (Value.slice a d e)] z z z ?_
 intro ab X Z r K
 refine WL.alloc (O := X) 12 [vi 0, Value.slice none 0 0, vi 0, Value.slice none 0 0] ty86 z z ?_
 intro ac H aa o L
 refine nl (th (sq (rg (wY (yf fo30_2 z) z ?_))))
 have E := K.st o z
 refine wY (yL ty28 z z (E.cells 2 [vi a0.Pos.Offset, (Value.slice j l m)] z) z) z (wY (yf fo30_3 z) z (wY (yL ty28 z z (E.cells 4 [vi a0.Neg.Offset, (Value.slice a d e)] z) z) z (wY (yb (vals := [(0, ag [vi a0.Pos.Offset, (Value.slice j l m)]), (1, ag [vi a0.Neg.Offset, (Value.slice a d e)])]) (cells := [vi a0.Pos.Offset, (Value.slice j l m), vi a0.Neg.Offset, (Value.slice a d e)]) (fe_ z) (by kernel_rfl)) z (WL.store (v := ag [vi a0.Pos.Offset, (Value.slice j l m), vi a0.Neg.Offset, (Value.slice a d e)]) (cells' := [vi a0.Pos.Offset, (Value.slice j l m), vi a0.Neg.Offset, (Value.slice a d e)]) ty86 z z L z (le_ z) z z ?_))))
 intro M t P
 refine nl (th (rt ?_))
 obtain rfl := some1 h
 have F : Stp [12] (Lg.O0 A) w H M := (tr_ (su_ r z) (tr_ (su_ o z) (su_ t z)))
 have Q := C.i r z z
 have S := Q.i o z z
 have T := S.i t z z
 have U := D.i r z z
 have V := U.i o z z
 have W := V.i t z z
 exact At.res (.inl z) z (.cell z (P.runAg 0 [vi a0.Pos.Offset, (Value.slice j l m), vi a0.Neg.Offset, (Value.slice a d e)] ty86 z z z) .nil) ⟨[vi a0.Pos.Offset, (Value.slice j l m), vi a0.Neg.Offset, (Value.slice a d e)], z, (se_ F z z), (Rows'.outI (O' := H) (R := rep_api_Side) ⟨[vi a0.Pos.Offset, (Value.slice j l m)], [vi a0.Neg.Offset, (Value.slice a d e)], z, ⟨[vi a0.Pos.Offset], [(Value.slice j l m)], z, z, ⟨_, z, T⟩⟩, ⟨[vi a0.Neg.Offset, (Value.slice a d e)], [], z, ⟨[vi a0.Neg.Offset], [(Value.slice a d e)], z, z, ⟨_, z, W⟩⟩, z⟩⟩ F low0 O0_A), z⟩
theorem c_hist_Total {A : Nat → Prop} {v0_3 : Value} {v0_5 : Value} {a0 : api_Hist} {w : World} (hs0_3 : Sl Rep.u w A v0_3 a0.Pos.Counts) (hs0_5 : Sl Rep.u w A v0_5 a0.Neg.Counts) {r0 : UInt64} {r1 : Bool} (h : hist_Total a0 = some (r0, r1)) : Rets Try.prog 27 [ag [vi a0.Scale, vu a0.Zero, vi a0.Pos.Offset, v0_3, vi a0.Neg.Offset, v0_5]] w (fun v w' => v = tp [vu r0, vB r1] ∧ Ext w w') := by
 unfold hist_Total at h
 refine Rets.enter Try.func27 z z ?_
 have ai : Sl Rep.u w (imm (Lg.O0 A)) v0_3 a0.Pos.Counts := (Sl.start hs0_3)
 have aj : Sl Rep.u w (imm (Lg.O0 A)) v0_5 a0.Neg.Counts := (Sl.start hs0_5)
 refine (show WC _ _ _ _ [(0, ag [vi a0.Scale, vu a0.Zero, vi a0.Pos.Offset, v0_3, vi a0.Neg.Offset, v0_5])] _ from ?_)
 refine sq (rg ?_)
 have aX := h
 obtain ⟨ak, al, am, rfl⟩ := ai.shape
 have h := aX
 have aY := h
 obtain ⟨an, ao, ap, rfl⟩ := aj.shape
 have h := aY
 refine WL.box (O := (Lg.O0 A)) 11 [vi a0.Scale, vu a0.Zero, vi a0.Pos.Offset, (Value.slice ak al am), vi a0.Neg.Offset, (Value.slice an ao ap)] z z z ?_
 intro bE aq bw e ar
 refine wY (ya (v := vu 0) z) z (wY (ya z) z (nl (th (sq (rg (wY (yf fo30_1 z) z (wY (yl ty25 z z (ar.cell 1 _ z)) z (wY (ya z) z (wY (ya (v := vu 0) z) z ?_)))))))))
 refine nl (th (sq (sq (rg (wY (yL ty30 z z (ar.cells 0 [vi a0.Scale, vu a0.Zero, vi a0.Pos.Offset, (Value.slice ak al am), vi a0.Neg.Offset, (Value.slice an ao ap)] z) z) z ?_)))))
 have aZ := ai.i e z z
 have a1 := aj.i e z z
 obtain ⟨bi, a2, h⟩ := bnd h
 refine WL.call (vals := [ag [vi a0.Scale, vu a0.Zero, vi a0.Pos.Offset, (Value.slice ak al am), vi a0.Neg.Offset, (Value.slice an ao ap)]]) kok57 z z (c_hist_sides (A := imm aq) (a0 := a0) aZ a1 a2) ?_
 rintro bx K ⟨a, rfl, a3, bj, bk⟩
 obtain ⟨Q, au, av, S⟩ := adoptE aq (fun k => 1) a3
 have a4 := Rows'.adoptI (O := aq) bj (fun _ hk => hk) (fun _ _ => Nat.le_refl _) au av
 refine wY (ym z) z (nl (th ?_))
 obtain ⟨bl, h, a5⟩ := bnd h
 refine WC.join (σ := (UInt64 × UInt64 × Own)) (fun x w' => (x.1, x.2.1) = bl ∧ Stp [12] Q K x.2.2 w') (fun x => [(4, vu x.1), (5, vu x.2.1)]) ?_ ?_
 ·refine WC.block ?_
  obtain ⟨aQ, h, a6⟩ := flow1 h
  obtain ⟨aR, h⟩ := loop_some h
  refine WC.joinB 0 (σ := (UInt64 × UInt64 × Own)) (fun x w' => aQ = .go (x.1, x.2.1) ∧ Stp [12] Q K x.2.2 w') (fun x => [(4, vu x.1), (5, vu x.2.1)]) ?_ ?_
  ·refine WC.loop (σ := (UInt64 × UInt64 × Int × Own)) (fun x k w' => loopN k (hist_Total_lp1 bi) (x.1, x.2.1, x.2.2.1) = some aQ ∧ Stp [12] Q K x.2.2.2 w') (fun x => [(4, vu x.1), (5, vu x.2.1), (14, Value.agg (List.toArray a)), (15, vi x.2.2.1)]) (a0.Zero, 0, 0, Q) aR (.cons z (.cons z (.cons z (.cons z .nil)))) ⟨h, (sr_ _ _ _)⟩ ?_
   rintro ⟨o, l, d, aw⟩ aR a7 ⟨h, j⟩
   obtain ⟨bm, bF, rfl, h, ax⟩ := rnd1 h
   unfold hist_Total_lp1 at h
   try dsimp only at h j
   refine (show WC _ _ _ _ [(4, vu o), (5, vu l), (14, Value.agg (List.toArray a)), (15, vi d)] _ from ?_)
   refine sq (rg (wY (Y.lss_i z z) z (nl (th (sq ?_)))))
   rcases cnd h with ⟨L, h⟩ | ⟨L, h⟩
   ·refine WC.condT' z L (sk (th (sq (WC.block (sq (rg ?_))))))
    have a8 := Rows'.i a4 j z z
    obtain ⟨m, ay, h⟩ := bnd h
    obtain ⟨bz, r, aH⟩ := arrAt (R := rep_api_Side) (w := a7) (A := imm aw) (cells := a) a8 ay
    obtain ⟨_, _, rfl, rfl, ⟨bn, rfl, a9⟩⟩ := aH
    replace r : _ = [vi m.Offset, bn] := r
    refine wY (Y.indexArrAg ty86 ty28 z z r ay bk) z (WL.alloc (O := aw) 12 [vi 0, Value.slice none 0 0] ty28 z z ?_)
    intro bG bo bA T ba
    have az := a9.i T z z
    have bb := h
    obtain ⟨U, V, W, rfl⟩ := az.shape
    have h := bb
    refine WL.store (v := ag [vi m.Offset, (Value.slice U V W)]) (cells' := [vi m.Offset, (Value.slice U V W)]) ty28 z z ba z (le_ z) z z ?_
    intro M X bc
    refine nl (th (sq (rg (wY (yf fo28_1 z) z (wY (yl ty26 z z (bc.cell 1 _ z)) z ?_)))))
    have aA := az.i X z z
    refine wY (Y.len ty26 z aA) z (wY (ym z) z (nl (th ?_)))
    obtain ⟨bp, h, bd⟩ := bnd h
    refine WC.join (σ := (UInt64 × UInt64)) (fun x w' => (x.1, x.2) = bp ∧ M = w') (fun x => [(4, vu x.1), (5, vu x.2), (14, Value.agg (List.toArray a)), (15, vi d)]) ?_ ?_
    ·refine WC.block ?_
     obtain ⟨aS, h, bf⟩ := flow1 h
     obtain ⟨aT, h⟩ := loop_some h
     refine WC.joinB 2 (σ := (UInt64 × UInt64)) (fun x w' => aS = .go (x.1, x.2) ∧ M = w') (fun x => [(4, vu x.1), (5, vu x.2), (14, Value.agg (List.toArray a)), (15, vi d)]) ?_ ?_
     ·refine WC.loop (σ := (UInt64 × UInt64 × Int)) (fun x k w' => loopN k (hist_Total_lp2 m) (x.1, x.2.1, x.2.2) = some aS ∧ M = w') (fun x => [(4, vu x.1), (5, vu x.2.1), (14, Value.agg (List.toArray a)), (15, vi d), (19, (Value.slice U V W)), (20, vi (m.Counts.length : Int)), (21, vi x.2.2)]) (o, l, 0) aT (.cons z (.cons z (.cons z (.cons z (.cons z (.cons z (.cons z .nil))))))) ⟨h, z⟩ ?_
      rintro ⟨Z, F, aU⟩ aT _ ⟨h, rfl⟩
      obtain ⟨bq, bB, rfl, h, aa⟩ := rnd1 h
      unfold hist_Total_lp2 at h
      try dsimp only at h
      refine (show WC _ _ _ _ [(4, vu Z), (5, vu F), (14, Value.agg (List.toArray a)), (15, vi d), (19, (Value.slice U V W)), (20, vi (m.Counts.length : Int)), (21, vi aU)] _ from ?_)
      refine sq (rg (wY (Y.lss_i z z) z (nl (th (sq ?_)))))
      rcases cnd h with ⟨t, h⟩ | ⟨t, h⟩
      ·refine WC.condT' z t (sk (th (sq (WC.block (sq (rg ?_))))))
       obtain ⟨bg, aI, h⟩ := bnd h
       obtain ⟨bC, br, bs, bu, aJ, aK, aL, C, aC, aM⟩ := Sl.at2 aA aI
       obtain rfl := aC
       replace C : CellsAt _ _ _ [vu bg] := C
       have aD := CAt.imm C aM
       refine wY (Y.indexAddr ty26 ty25 z aJ z aK aL) z (wY (yl ty25 z z aD.at_) z (wY (ya z) z (nl (th (sq (rg (wY (ya (v := vu 0) z) z (nl (th ?_)))))))))
       refine sq (rg (wY (ym z) z (wY (ym z) z (wY (Y.add64 (c := 0) x64_58 (by decide) z z z) z (wY (ym z) z (wY (yx z z) z (wY (yx z z) z ?_)))))))
       obtain ⟨aE, af, h⟩ := lt1 h
       refine WL.yE (ya z) (congrArg vu af.symm) z ?_
       obtain ⟨bh, G, h⟩ := lt1 h
       refine WL.yE (ya z) (congrArg vu G.symm) z (nl (th (rg (wY (ym z) z (wY (ym z) z (wY (Y.or_u z z) z ?_))))))
       obtain ⟨ah, P, h⟩ := lt1 h
       refine WL.yE (ya z) (congrArg vu P.symm) z (nl (At.inBlock (th (rg (wY (Y.add_i z z) z (wY (ym z) z (nl ?_)))))))
       exact At.round (aE, ah, w64 (aU + 1)) bq (Nat.lt_succ_self _) ⟨next1 h aa, z⟩ (.cons z (.cons z (.cons z (.cons z (.cons z (.cons z (.cons z .nil)))))))
      ·refine WC.condF' z t (WC.exit (At.thenX (At.loopX ?_)))
       exact At.hitB (σ := (UInt64 × UInt64)) (Z, F) ⟨brk1 h aa, z⟩ (.cons z (.cons z (.cons z (.cons z .nil))))
     ·rintro ⟨ab, H⟩ _ ⟨rfl, rfl⟩
      replace h := flowK_go bf
      try dsimp only at h
      refine (show At _ _ _ [(4, vu ab), (5, vu H), (14, Value.agg (List.toArray a)), (15, vi d)] _ from ?_)
      refine At.inBlockHit ?_
      exact At.join (σ := (UInt64 × UInt64)) (ab, H) ⟨some1 h, z⟩ (.cons z (.cons z (.cons z (.cons z .nil))))
    ·rintro ⟨ac, I⟩ _ ⟨rfl, rfl⟩
     replace h := bd
     try dsimp only at h
     refine (show At _ _ _ [(4, vu ac), (5, vu I), (14, Value.agg (List.toArray a)), (15, vi d)] _ from ?_)
     refine At.inBlock (th (rg (wY (Y.add_i z z) z (wY (ym z) z (nl ?_)))))
     exact At.round (ac, I, w64 (d + 1), bo) bm (Nat.lt_succ_self _) ⟨next1 h ax, (tr_ (su_ j z) (tr_ (su_ T z) (su_ X z)))⟩ (.cons z (.cons z (.cons z (.cons z .nil))))
   ·refine WC.condF' z L (WC.exit (At.thenX (At.loopX ?_)))
    exact At.hitB (σ := (UInt64 × UInt64 × Own)) (o, l, aw) ⟨brk1 h ax, (su_ j z)⟩ (.cons z (.cons z .nil))
  ·rintro ⟨ad, J, bt⟩ bD ⟨rfl, ae⟩
   replace h := flowK_go a6
   try dsimp only at h ae
   refine (show At _ _ _ [(4, vu ad), (5, vu J)] _ from ?_)
   refine At.inBlockHit ?_
   exact At.join (σ := (UInt64 × UInt64 × Own)) (ad, J, bt) ⟨some1 h, (su_ ae z)⟩ (.cons z (.cons z .nil))
 ·rintro ⟨aN, aF, aW⟩ aG ⟨rfl, D⟩
  replace h := a5
  try dsimp only at h D
  refine (show At _ _ _ [(4, vu aN), (5, vu aF)] _ from ?_)
  refine th (sq (sq (rg (wY (ym z) z (wY (Y.neq_u (b := 0) z z) z (nl (th ?_)))))))
  rcases cnd h with ⟨E, h⟩ | ⟨E, h⟩
  ·refine WC.condT' z E (sq (rg (wY (ya (v := vu 0) z) z (wY (ya z) z (nl (th (rt (At.thenR ?_))))))))
   obtain ⟨rfl, rfl⟩ := tup2 h
   have aO : Stp [12] (Lg.O0 A) w aW aG := (tr_ (su_ e z) (tr_ (su_ S z) (su_ D z)))
   exact At.res (.inl z) z (.tmp z (.tmp z .nil)) ⟨z, (se_ aO z z)⟩
  ·refine WC.condF' z E (sk (th (sq (rg (wY (ym z) z (wY (ya z) z (wY (ya z) z (nl (th ?_)))))))))
   refine rt ?_
   obtain ⟨rfl, rfl⟩ := tup2 h
   have aP : Stp [12] (Lg.O0 A) w aW aG := (tr_ (su_ e z) (tr_ (su_ S z) (su_ D z)))
   exact At.res (.inl z) z (.tmp z (.tmp z .nil)) ⟨z, (se_ aP z z)⟩
theorem c_hist_check {A : Nat → Prop} {v0_1 : Value} {a0 : api_Side} {w : World} (hs0_1 : Sl Rep.u w A v0_1 a0.Counts) {r0 : Int} (h : hist_check a0 = some r0) : Rets Try.prog 59 [ag [vi a0.Offset, v0_1]] w (fun v w' => v = vi r0 ∧ Ext w w') := by
 unfold hist_check at h
 refine Rets.enter Try.func59 z z ?_
 have K : Sl Rep.u w (imm (Lg.O0 A)) v0_1 a0.Counts := (Sl.start hs0_1)
 refine (show WC _ _ _ _ [(0, ag [vi a0.Offset, v0_1])] _ from ?_)
 refine sq (rg ?_)
 have U := h
 obtain ⟨au, av, aw, rfl⟩ := K.shape
 have h := U
 refine WL.box (O := (Lg.O0 A)) 11 [vi a0.Offset, (Value.slice au av aw)] z z z ?_
 intro J l d e j
 refine wY (ya z) z (nl (th (sq (rg (wY (yf fo28_1 z) z (wY (yl ty26 z z (j.cell 1 _ z)) z ?_))))))
 have m := K.i e z z
 refine wY (Y.len ty26 z m) z ?_
 obtain ⟨a, L, h⟩ := lt1 h
 refine WL.yE (ya z) (congrArg vi L.symm) z (nl (th (sq (WC.block (sq (rg (wY (ym z) z (wY (Y.gtr_i z z) z ?_))))))))
 obtain ⟨aH, V, h⟩ := lt1 h
 refine WL.yE (ya z) (congrArg vB V.symm) z (nl (th ?_))
 rcases cnd h with ⟨o, h⟩ | ⟨o, h⟩
 ·refine WC.condT' z o (sq (rg (wY (ya z) z (nl (th (rt (At.inBlockR (At.thenR ?_))))))))
  obtain rfl := some1 h
  have W : Stp [] (Lg.O0 A) w l d := (su_ e z)
  exact At.res (.inl z) z (.tmp z .nil) ⟨z, (se_ W z z)⟩
 ·refine WC.condF' z o (sq (rg (wY (ym z) z (wY (Y.eql_i z z) z (wY (ym z) z ?_)))))
  refine WL.cut 4 (σ := Unit) (fun _ w' => d = w') (fun _ => [(1, pt J 0), (3, vi a), (17, vB ((decide (a = 0)) && (!decide (a0.Offset = 0))))]) ?_ ?_
  ·refine WL.part 13 z (fun r => ?_) (fun r => ?_)
   ·refine ug z z (wY (yf fo28_0 z) z (ug z z (wY (yl ty3 z z (j.cell 0 _ z)) z (ug z z (wY (Y.neq_i z z) z (wY (Y.pick (b := true) z z) z (WL.ren (v' := vB ((decide (a = 0)) && (!decide (a0.Offset = 0)))) 17 z (congrArg vB (andT r)) ?_)))))))
    exact nl (At.join () z (.cons z (.cons z (.cons z .nil))))
   ·refine WL.gS z z z z (WL.gS z z z z (WL.gS z z z z (wY (Y.pick (b := false) z z) z (WL.ren (v' := vB ((decide (a = 0)) && (!decide (a0.Offset = 0)))) 17 z (congrArg vB (andF r)) ?_))))
    exact nl (At.join () z (.cons z (.cons z (.cons z .nil))))
  ·rintro _ _ rfl
   refine (show WL _ _ _ _ _ [(1, pt J 0), (3, vi a), (17, vB ((decide (a = 0)) && (!decide (a0.Offset = 0))))] _ from ?_)
   obtain ⟨aI, X, h⟩ := lt1 h
   refine WL.yE (ya z) (congrArg vB X.symm) z (nl (th ?_))
   rcases cnd h with ⟨t, h⟩ | ⟨t, h⟩
   ·refine WC.condT' z t (sq (rg (wY (ya z) z (nl (th (rt (At.inBlockR (At.thenR ?_))))))))
    obtain rfl := some1 h
    have Z : Stp [] (Lg.O0 A) w l d := (su_ e z)
    exact At.res (.inl z) z (.tmp z .nil) ⟨z, (se_ Z z z)⟩
   ·refine WC.condF' z t (sq (rg (wY (ym z) z (wY (Y.eql_i z z) z ?_))))
    obtain ⟨aJ, aa, h⟩ := lt1 h
    refine WL.yE (ya z) (congrArg vB aa.symm) z (nl (th ?_))
    rcases cnd h with ⟨C, h⟩ | ⟨C, h⟩
    ·refine WC.condT' z C (sq (rg (wY (ya z) z (nl (th (rt (At.inBlockR (At.thenR ?_))))))))
     obtain rfl := some1 h
     have ab : Stp [] (Lg.O0 A) w l d := (su_ e z)
     exact At.res (.inl z) z (.tmp z .nil) ⟨z, (se_ ab z z)⟩
    ·refine WC.condF' z C (sq (rg (wY (yf fo28_1 z) z (wY (yl ty26 z z (j.cell 1 _ z)) z ?_))))
     obtain ⟨ax, ac, h⟩ := bnd h
     obtain ⟨aK, aA, aC, aF, ad, ae, af, D, M, ah⟩ := Sl.at2 m ac
     obtain rfl := M
     replace D : CellsAt _ _ _ [vu ax] := D
     have P := CAt.imm D ah
     refine wY (Y.indexAddr ty26 ty25 z ad z ae af) z (wY (yl ty25 z z P.at_) z (wY (Y.eql_u (b := 0) z z) z (wY (ym z) z ?_)))
     obtain ⟨ay, h, ai⟩ := bnd h
     refine WL.cut 8 (σ := Bool) (fun x w' => x = ay ∧ d = w') (fun x => [(1, pt J 0), (3, vi a), (35, vB x)]) ?_ ?_
     ·rcases cnd h with ⟨E, h⟩ | ⟨E, h⟩
      ·refine WL.ren 27 z (congrArg vB E) (WL.gS z z z z (WL.gS z z z z (WL.gS z z z z (WL.gS z z z z (WL.gS z z z z (WL.gS z z z z (WL.gS z z z z (wY (Y.pick (b := true) z z) z ?_))))))))
       exact nl (At.join (σ := Bool) true ⟨some1 h, z⟩ (.cons z (.cons z (.cons z .nil))))
      ·refine WL.ren 27 z (congrArg vB E) (ug z z (wY (yf fo28_1 z) z (ug z z (wY (yl ty26 z z (j.cell 1 _ z)) z (ug z z (wY (ym z) z (ug z z (wY (Y.sub_i z z) z (ug z z ?_)))))))))
       obtain ⟨T, aj, h⟩ := bnd h
       obtain ⟨aL, aD, aE, aG, ak, al, am, F, Q, an⟩ := Sl.at2 m aj
       obtain rfl := Q
       replace F : CellsAt _ _ _ [vu T] := F
       have S := CAt.imm F an
       refine wY (Y.indexAddr ty26 ty25 z ak z al am) z (ug z z (wY (yl ty25 z z S.at_) z (ug z z (wY (Y.eql_u (b := 0) z z) z (wY (Y.pick (b := false) z z) z ?_)))))
       exact nl (At.join (σ := Bool) (decide (T = 0)) ⟨some1 h, z⟩ (.cons z (.cons z (.cons z .nil))))
     ·rintro az _ ⟨rfl, rfl⟩
      replace h := ai
      try dsimp only at h
      refine (show WL _ _ _ _ _ [(1, pt J 0), (3, vi a), (35, vB az)] _ from ?_)
      refine wY (ya z) z (nl (th ?_))
      rcases cnd h with ⟨G, h⟩ | ⟨G, h⟩
      ·refine WC.condT' z G (sq (rg (wY (ya z) z (nl (th (rt (At.inBlockR (At.thenR ?_))))))))
       obtain rfl := some1 h
       have ao : Stp [] (Lg.O0 A) w l d := (su_ e z)
       exact At.res (.inl z) z (.tmp z .nil) ⟨z, (se_ ao z z)⟩
      ·refine WC.condF' z G (sq (rg (wY (yf fo28_0 z) z (wY (yl ty3 z z (j.cell 0 _ z)) z (wY (Y.lss_i z z) z (wY (ym z) z ?_))))))
       refine WL.cut 7 (σ := Unit) (fun _ w' => d = w') (fun _ => [(47, vB ((decide (a0.Offset < (-1073741824))) || (decide (w64 (1073741824 - (w64 (a - 1))) < a0.Offset))))]) ?_ ?_
       ·refine WL.part 40 z (fun H => ?_) (fun H => ?_)
        ·refine WL.gS z z z z (WL.gS z z z z (WL.gS z z z z (WL.gS z z z z (WL.gS z z z z (WL.gS z z z z (wY (Y.pick (b := true) z z) z (WL.ren (v' := vB ((decide (a0.Offset < (-1073741824))) || (decide (w64 (1073741824 - (w64 (a - 1))) < a0.Offset)))) 47 z (congrArg vB (orT H)) ?_)))))))
         exact nl (At.join () z (.cons z .nil))
        ·refine ug z z (wY (yf fo28_0 z) z (ug z z (wY (yl ty3 z z (j.cell 0 _ z)) z (ug z z (wY (ym z) z (ug z z (wY (Y.sub_i z z) z (ug z z (wY (Y.sub_i z z) z ?_)))))))))
         refine ug z z (wY (Y.gtr_i z z) z (wY (Y.pick (b := false) z z) z (WL.ren (v' := vB ((decide (a0.Offset < (-1073741824))) || (decide (w64 (1073741824 - (w64 (a - 1))) < a0.Offset)))) 47 z (congrArg vB (orF H)) ?_)))
         exact nl (At.join () z (.cons z .nil))
       ·rintro _ _ rfl
        refine (show WL _ _ _ _ _ [(47, vB ((decide (a0.Offset < (-1073741824))) || (decide (w64 (1073741824 - (w64 (a - 1))) < a0.Offset))))] _ from ?_)
        obtain ⟨aM, ap, h⟩ := lt1 h
        refine WL.yE (ya z) (congrArg vB ap.symm) z (nl (th ?_))
        rcases cnd h with ⟨I, h⟩ | ⟨I, h⟩
        ·refine WC.condT' z I (sq (rg (wY (ya z) z (nl (th (rt (At.inBlockR (At.thenR ?_))))))))
         obtain rfl := some1 h
         have aq : Stp [] (Lg.O0 A) w l d := (su_ e z)
         exact At.res (.inl z) z (.tmp z .nil) ⟨z, (se_ aq z z)⟩
        ·refine WC.condF' z I (sk (At.inBlock (th (sq (rg (wY (ya z) z (nl (th (rt ?_)))))))))
         obtain rfl := some1 h
         have ar : Stp [] (Lg.O0 A) w l d := (su_ e z)
         exact At.res (.inl z) z (.tmp z .nil) ⟨z, (se_ ar z z)⟩
theorem c_hist_Check {A : Nat → Prop} {v0_3 : Value} {v0_5 : Value} {a0 : api_Hist} {w : World} (hs0_3 : Sl Rep.u w A v0_3 a0.Pos.Counts) (hs0_5 : Sl Rep.u w A v0_5 a0.Neg.Counts) {r0 : Int} (h : hist_Check a0 = some r0) : Rets Try.prog 28 [ag [vi a0.Scale, vu a0.Zero, vi a0.Pos.Offset, v0_3, vi a0.Neg.Offset, v0_5]] w (fun v w' => v = vi r0 ∧ Ext w w') := by
 unfold hist_Check at h
 refine Rets.enter Try.func28 z z ?_
 have ad : Sl Rep.u w (imm (Lg.O0 A)) v0_3 a0.Pos.Counts := (Sl.start hs0_3)
 have ae : Sl Rep.u w (imm (Lg.O0 A)) v0_5 a0.Neg.Counts := (Sl.start hs0_5)
 refine (show WC _ _ _ _ [(0, ag [vi a0.Scale, vu a0.Zero, vi a0.Pos.Offset, v0_3, vi a0.Neg.Offset, v0_5])] _ from ?_)
 refine sq (rg ?_)
 have aF := h
 obtain ⟨E, F, G, rfl⟩ := ad.shape
 have h := aF
 have aG := h
 obtain ⟨H, I, J, rfl⟩ := ae.shape
 have h := aG
 refine WL.box (O := (Lg.O0 A)) 11 [vi a0.Scale, vu a0.Zero, vi a0.Pos.Offset, (Value.slice E F G), vi a0.Neg.Offset, (Value.slice H I J)] z z z ?_
 intro l V af a o
 refine wY (ya z) z (nl (th (sq (sq (rg (wY (yf fo30_0 z) z (wY (yl ty3 z z (o.cell 0 _ z)) z (wY (Y.lss_i z z) z (wY (ym z) z ?_)))))))))
 refine WL.cut 4 (σ := Unit) (fun _ w' => af = w') (fun _ => [(1, pt l 0), (15, vB ((decide (a0.Scale < (-10))) || (decide (20 < a0.Scale))))]) ?_ ?_
 ·refine WL.part 11 z (fun L => ?_) (fun L => ?_)
  ·refine WL.gS z z z z (WL.gS z z z z (WL.gS z z z z (wY (Y.pick (b := true) z z) z (WL.ren (v' := vB ((decide (a0.Scale < (-10))) || (decide (20 < a0.Scale)))) 15 z (congrArg vB (orT L)) ?_))))
   exact nl (At.join () z (.cons z (.cons z .nil)))
  ·refine ug z z (wY (yf fo30_0 z) z (ug z z (wY (yl ty3 z z (o.cell 0 _ z)) z (ug z z (wY (Y.gtr_i z z) z (wY (Y.pick (b := false) z z) z (WL.ren (v' := vB ((decide (a0.Scale < (-10))) || (decide (20 < a0.Scale)))) 15 z (congrArg vB (orF L)) ?_)))))))
   exact nl (At.join () z (.cons z (.cons z .nil)))
 ·rintro _ _ rfl
  refine (show WL _ _ _ _ _ [(1, pt l 0), (15, vB ((decide (a0.Scale < (-10))) || (decide (20 < a0.Scale))))] _ from ?_)
  refine nl (th ?_)
  rcases cnd h with ⟨M, h⟩ | ⟨M, h⟩
  ·refine WC.condT' z M (sq (rg (wY (ya z) z (nl (th (rt (At.thenR ?_)))))))
   obtain rfl := some1 h
   have aH : Stp [] (Lg.O0 A) w V af := (su_ a z)
   exact At.res (.inl z) z (.tmp z .nil) ⟨z, (se_ aH z z)⟩
  ·refine WC.condF' z M (sk (th (sq (sq (rg (wY (yL ty30 z z (o.cells 0 [vi a0.Scale, vu a0.Zero, vi a0.Pos.Offset, (Value.slice E F G), vi a0.Neg.Offset, (Value.slice H I J)] z) z) z ?_))))))
   have ah := ad.i a z z
   have ai := ae.i a z z
   obtain ⟨a5, aI, h⟩ := bnd h
   refine WL.call (vals := [ag [vi a0.Scale, vu a0.Zero, vi a0.Pos.Offset, (Value.slice E F G), vi a0.Neg.Offset, (Value.slice H I J)]]) kok57 z z (c_hist_sides (A := imm V) (a0 := a0) ah ai aI) ?_
   rintro bi P ⟨Q, rfl, aJ, a6, a7⟩
   obtain ⟨W, aj, ak, d⟩ := adoptE V (fun k => 1) aJ
   have aK := Rows'.adoptI (O := V) a6 (fun _ hk => hk) (fun _ _ => Nat.le_refl _) aj ak
   refine wY (ym z) z (nl (th ?_))
   obtain ⟨a8, h, al⟩ := flow1 h
   refine WC.join (σ := Own) (fun x w' => a8 = .go () ∧ Stp [12] W P x w') (fun x => [(1, pt l 0)]) ?_ ?_
   ·refine WC.block ?_
    obtain ⟨aA, h, am⟩ := flow1 h
    obtain ⟨aC, h⟩ := loop_some h
    refine WC.joinB 0 (σ := Own) (fun x w' => aA = .go () ∧ Stp [12] W P x w') (fun x => [(1, pt l 0)]) ?_ ?_
    ·refine WC.loop (σ := (Int × Own)) (fun x k w' => loopN k (hist_Check_lp1 a5) x.1 = some aA ∧ Stp [12] W P x.2 w') (fun x => [(1, pt l 0), (17, Value.agg (List.toArray Q)), (18, vi x.1)]) (0, W) aC (.cons z (.cons z (.cons z .nil))) ⟨h, (sr_ _ _ _)⟩ ?_
     rintro ⟨aD, an⟩ aC aL ⟨h, e⟩
     obtain ⟨a9, br, rfl, h, S⟩ := rnd1 h
     unfold hist_Check_lp1 at h
     try dsimp only at h e
     refine (show WC _ _ _ _ [(1, pt l 0), (17, Value.agg (List.toArray Q)), (18, vi aD)] _ from ?_)
     refine sq (rg (wY (Y.lss_i z z) z (nl (th (sq ?_)))))
     rcases cnd h with ⟨T, h⟩ | ⟨T, h⟩
     ·refine WC.condT' z T (sk (th (sq (WC.block (sq (rg ?_))))))
      have aM := Rows'.i aK e z z
      obtain ⟨m, ao, h⟩ := bnd h
      obtain ⟨bj, r, ar⟩ := arrAt (R := rep_api_Side) (w := aL) (A := imm an) (cells := Q) aM ao
      obtain ⟨_, _, rfl, rfl, ⟨ba, rfl, aN⟩⟩ := ar
      replace r : _ = [vi m.Offset, ba] := r
      refine wY (Y.indexArrAg ty86 ty28 z z r ao a7) z (WL.alloc (O := an) 12 [vi 0, Value.slice none 0 0] ty28 z z ?_)
      intro bs bb bk t aO
      have ap := aN.i t z z
      have aP := h
      obtain ⟨X, Z, aa, rfl⟩ := ap.shape
      have h := aP
      refine WL.store (v := ag [vi m.Offset, (Value.slice X Z aa)]) (cells' := [vi m.Offset, (Value.slice X Z aa)]) ty28 z z aO z (le_ z) z z ?_
      intro bl C aQ
      refine nl (th (sq (rg (wY (yL ty28 z z (aQ.cells 0 [vi m.Offset, (Value.slice X Z aa)] z) z) z ?_))))
      have aR := ap.i C z z
      obtain ⟨bt, aS, h⟩ := bnd h
      refine WL.call (vals := [ag [vi m.Offset, (Value.slice X Z aa)]]) kok59 z z (c_hist_check (A := fun _ => True) (a0 := m) (Sl.all aR) aS) ?_
      rintro bm aT ⟨rfl, aU⟩
      obtain ⟨aE, bc, bd, ab⟩ := adoptE bb (fun k => 1) aU
      refine wY (ya z) z (nl (th (sq (rg (wY (ym z) z (wY (Y.neq_i z z) z (nl (th ?_))))))))
      rcases cnd h with ⟨U, h⟩ | ⟨U, h⟩
      ·refine WC.condT' z U (sq (rg (wY (ym z) z (wY (ya z) z (nl (th (rt (At.inBlockR (At.thenR ?_)))))))))
       refine At.loopR ?_
       have h := outr1 h S am
       refine At.joinBR (At.inBlockR ?_)
       have h := outs1 h al
       refine At.joinR (At.thenR ?_)
       obtain rfl := some1 h
       have aW : Stp [12] (Lg.O0 A) w aE aT := (tr_ (su_ a z) (tr_ (su_ d z) (tr_ (su_ e z) (tr_ (su_ t z) (tr_ (su_ C z) (su_ ab z))))))
       exact At.res (.inl z) z (.tmp z .nil) ⟨z, (se_ aW z z)⟩
      ·refine WC.condF' z U (sk (At.inBlock (th (rg (wY (Y.add_i z z) z (wY (ym z) z (nl ?_)))))))
       exact At.round (w64 (aD + 1), aE) a9 (Nat.lt_succ_self _) ⟨next1 h S, (tr_ (su_ e z) (tr_ (su_ t z) (tr_ (su_ C z) (su_ ab z))))⟩ (.cons z (.cons z (.cons z .nil)))
     ·refine WC.condF' z T (WC.exit (At.thenX (At.loopX ?_)))
      exact At.hitB (σ := Own) an ⟨brk1 h S, (su_ e z)⟩ (.cons z .nil)
    ·rintro bf bn ⟨rfl, au⟩
     replace h := flowK_go am
     refine (show At _ _ _ [(1, pt l 0)] _ from ?_)
     refine At.inBlockHit ?_
     exact At.join (σ := Own) bf ⟨go2 h, (su_ au z)⟩ (.cons z .nil)
   ·rintro bg bo ⟨rfl, j⟩
    replace h := flowK_go al
    refine (show At _ _ _ [(1, pt l 0)] _ from ?_)
    refine th (sq (sq (rg ?_)))
    have aX := o.st d z
    have aY := aX.st j z
    refine wY (yL ty30 z z (aY.cells 0 [vi a0.Scale, vu a0.Zero, vi a0.Pos.Offset, (Value.slice E F G), vi a0.Neg.Offset, (Value.slice H I J)] z) z) z ?_
    have aZ := ah.i d z z
    have a1 := aZ.i j z z
    have a2 := ai.i d z z
    have av := a2.i j z z
    obtain ⟨⟨bp, bq⟩, aw, h⟩ := bnd h
    refine WL.call (vals := [ag [vi a0.Scale, vu a0.Zero, vi a0.Pos.Offset, (Value.slice E F G), vi a0.Neg.Offset, (Value.slice H I J)]]) kok27 z z (c_hist_Total (A := fun _ => True) (a0 := a0) (Sl.all a1) (Sl.all av) aw) ?_
    rintro bh ac ⟨rfl, ax⟩
    obtain ⟨aq, a3, a4, K⟩ := adoptE bg (fun k => 1) ax
    refine wY (ym z) z (wY (yx z z) z (wY (yx z z) z (wY (ya z) z (wY (ya z) z (nl (th (sq (rg (wY (ym z) z ?_)))))))))
    refine wY (Y.not z) z (nl (th ?_))
    rcases cnd h with ⟨D, h⟩ | ⟨D, h⟩
    ·refine WC.condT' z D (sq (rg (wY (ya z) z (nl (th (rt (At.thenR ?_)))))))
     obtain rfl := some1 h
     have ay : Stp [12] (Lg.O0 A) w aq ac := (tr_ (su_ a z) (tr_ (su_ d z) (tr_ (su_ j z) (su_ K z))))
     exact At.res (.inl z) z (.tmp z .nil) ⟨z, (se_ ay z z)⟩
    ·refine WC.condF' z D (sk (th (sq (rg (wY (ya z) z (nl (th (rt ?_))))))))
     obtain rfl := some1 h
     have az : Stp [12] (Lg.O0 A) w aq ac := (tr_ (su_ a z) (tr_ (su_ d z) (tr_ (su_ j z) (su_ K z))))
     exact At.res (.inl z) z (.tmp z .nil) ⟨z, (se_ az z z)⟩
theorem c_label_small {a0 : UInt8} {w : World} {r0 : Bool} (h : label_small a0 = some r0) : Rets Try.prog 93 [vb a0] w (fun v w' => v = vB r0 ∧ Ext w w') := by
 unfold label_small at h
 refine Rets.enter Try.func93 z z ?_
 refine (show WC _ _ _ _ [(0, vb a0)] _ from ?_)
 refine sq (rg (wY (ya z) z (nl (th (sq (rg (wY (ym z) z (wY (Y.geq_b (b := 97) z z) z (wY (ym z) z ?_)))))))))
 refine WL.cut 3 (σ := Unit) (fun _ w' => w = w') (fun _ => [(8, vB ((decide (97 ≤ a0)) && (decide (a0 ≤ 122))))]) ?_ ?_
 ·refine WL.part 5 z (fun a => ?_) (fun a => ?_)
  ·refine ug z z (wY (ym z) z (ug z z (wY (Y.leq_b (b := 122) z z) z (wY (Y.pick (b := true) z z) z (WL.ren (v' := vB ((decide (97 ≤ a0)) && (decide (a0 ≤ 122)))) 8 z (congrArg vB (andT a)) ?_)))))
   exact nl (At.join () z (.cons z .nil))
  ·refine WL.gS z z z z (WL.gS z z z z (wY (Y.pick (b := false) z z) z (WL.ren (v' := vB ((decide (97 ≤ a0)) && (decide (a0 ≤ 122)))) 8 z (congrArg vB (andF a)) ?_)))
   exact nl (At.join () z (.cons z .nil))
 ·rintro _ _ rfl
  refine (show WL _ _ _ _ _ [(8, vB ((decide (97 ≤ a0)) && (decide (a0 ≤ 122))))] _ from ?_)
  obtain ⟨j, d, h⟩ := lt1 h
  refine WL.yE (ya z) (congrArg vB d.symm) z (nl (th (rt ?_)))
  obtain rfl := some1 h
  have e : Stp [] (Lg.O0 (fun _ => False)) w (Lg.O0 (fun _ => False)) w := (sr_ _ _ _)
  exact At.res (.inl z) z (.tmp z .nil) ⟨z, (se_ e z z)⟩
theorem c_label_isName {a0 : List UInt8} {w : World} {r0 : Bool} (h : label_isName a0 = some r0) : Rets Try.prog 67 [vs a0] w (fun v w' => v = vB r0 ∧ Ext w w') := by
 unfold label_isName at h
 refine Rets.enter Try.func67 z z ?_
 refine (show WC _ _ _ _ [(0, vs a0)] _ from ?_)
 refine sq (rg (wY (ya z) z (nl (th (sq (sq (rg (wY (ym z) z (wY (Y.eql_s (b := []) z z) z ?_)))))))))
 refine wY (ym z) z ?_
 refine WL.cut 4 (σ := Unit) (fun _ w' => w = w') (fun _ => [(0, vs a0), (11, vB ((decide (a0 = [])) || (decide (32 < (a0.length : Int)))))]) ?_ ?_
 ·refine WL.part 7 z (fun t => ?_) (fun t => ?_)
  ·refine WL.gS z z z z (WL.gS z z z z (WL.gS z z z z (wY (Y.pick (b := true) z z) z (WL.ren (v' := vB ((decide (a0 = [])) || (decide (32 < (a0.length : Int))))) 11 z (congrArg vB (orT t)) ?_))))
   exact nl (At.join () z (.cons z (.cons z .nil)))
  ·refine ug z z (wY (ym z) z (ug z z (wY (Y.len_s ty9 z) z (ug z z (wY (Y.gtr_i z z) z (wY (Y.pick (b := false) z z) z (WL.ren (v' := vB ((decide (a0 = [])) || (decide (32 < (a0.length : Int))))) 11 z (congrArg vB (orF t)) ?_)))))))
   exact nl (At.join () z (.cons z (.cons z .nil)))
 ·rintro _ _ rfl
  refine (show WL _ _ _ _ _ [(0, vs a0), (11, vB ((decide (a0 = [])) || (decide (32 < (a0.length : Int)))))] _ from ?_)
  refine wY (ym z) z ?_
  obtain ⟨ay, h, ae⟩ := bnd h
  refine WL.cut 5 (σ := (Bool × Own)) (fun x w' => x.1 = ay ∧ Stp [] (Lg.O0 (fun _ => False)) w x.2 w') (fun x => [(0, vs a0), (17, vB x.1)]) ?_ ?_
  ·rcases cnd h with ⟨C, h⟩ | ⟨C, h⟩
   ·refine WL.ren 12 z (congrArg vB C) (WL.gS z z z z (WL.gS z z z z (WL.gS z z z z (WL.gS z z z z (wY (Y.pick (b := true) z z) z ?_)))))
    exact nl (At.join (σ := (Bool × Own)) (true, (Lg.O0 (fun _ => False))) ⟨some1 h, (sr_ _ _ _)⟩ (.cons z (.cons z .nil)))
   ·refine WL.ren 12 z (congrArg vB C) (ug z z (wY (ym z) z (ug z z ?_)))
    obtain ⟨az, af, h⟩ := bnd h
    refine wY (Y.index_s ty9 z z af) z (ug z z ?_)
    obtain ⟨aA, ah, h⟩ := bnd h
    refine WL.call (vals := [vb az]) kok93 z z (c_label_small ah) ?_
    rintro aM aN ⟨rfl, ai⟩
    obtain ⟨aC, aD, aE, U⟩ := adoptE (Lg.O0 (fun _ => False)) (fun k => 1) ai
    refine ug z z (wY (Y.not z) z (wY (Y.pick (b := false) z z) z ?_))
    exact nl (At.join (σ := (Bool × Own)) ((!aA), aC) ⟨some1 h, (su_ U z)⟩ (.cons z (.cons z .nil)))
  ·rintro ⟨aF, Z⟩ aj ⟨rfl, m⟩
   replace h := ae
   try dsimp only at h m
   refine (show WL _ _ _ _ _ [(0, vs a0), (17, vB aF)] _ from ?_)
   refine nl (th ?_)
   rcases cnd h with ⟨D, h⟩ | ⟨D, h⟩
   ·refine WC.condT' z D (sq (rg (wY (ya z) z (nl (th (rt (At.thenR ?_)))))))
    obtain rfl := some1 h
    have ak : Stp [] (Lg.O0 (fun _ => False)) w Z aj := (su_ m z)
    exact At.res (.inl z) z (.tmp z .nil) ⟨z, (se_ ak z z)⟩
   ·refine WC.condF' z D (sk (th (sq (sq (rg (wY (ym z) z (WL.s2b (O := Z) ty9 ty124 ty5 z z ?_)))))))
    intro e P Q L S
    refine wY (Y.len ty124 z S) z (wY (ym z) z (nl (th (WC.block ?_))))
    obtain ⟨aa, h, T⟩ := flow1 h
    obtain ⟨ab, h⟩ := loop_some h
    refine WC.joinB 0 (σ := Own) (fun x w' => aa = .go () ∧ Stp [] P Q x w') (fun x => []) ?_ ?_
    ·refine WC.loop (σ := (Int × Own)) (fun x k w' => loopN k (label_isName_lp1 a0) x.1 = some aa ∧ Stp [] P Q x.2 w') (fun x => [(19, e), (20, vi (a0.length : Int)), (21, vi x.1)]) (0, P) ab (.cons z (.cons z (.cons z .nil))) ⟨h, (sr_ _ _ _)⟩ ?_
     rintro ⟨j, ac⟩ ab aO ⟨h, l⟩
     obtain ⟨aG, aR, rfl, h, E⟩ := rnd1 h
     unfold label_isName_lp1 at h
     try dsimp only at h l
     refine (show WC _ _ _ _ [(19, e), (20, vi (a0.length : Int)), (21, vi j)] _ from ?_)
     refine sq (rg (wY (Y.lss_i z z) z (nl (th (sq ?_)))))
     rcases cnd h with ⟨F, h⟩ | ⟨F, h⟩
     ·refine WC.condT' z F (sk (th (sq (WC.block (sq (rg ?_))))))
      obtain ⟨a, al, h⟩ := bnd h
      have am := S.f l z
      obtain ⟨aS, aK, aL, aP, an, ao, ap, G, V, aq⟩ := Sl.at2 am al
      obtain rfl := V
      replace G : CellsAt _ _ _ [vb a] := G
      have W := CAt.frs G aq
      refine wY (Y.indexAddr ty124 ty5 z an z ao ap) z (wY (yl ty5 z z W.at_) z (wY (ya z) z (nl (th (sq (rg (wY (ym z) z ?_)))))))
      obtain ⟨d, ar, h⟩ := bnd h
      refine WL.call (vals := [vb a]) kok93 z z (c_label_small ar) ?_
      rintro aQ o ⟨rfl, au⟩
      obtain ⟨ad, aH, aI, M⟩ := adoptE ac (fun k => 1) au
      refine wY (Y.not z) z (wY (ym z) z ?_)
      refine WL.cut 7 (σ := Unit) (fun _ w' => o = w') (fun _ => [(4, vb a), (19, e), (20, vi (a0.length : Int)), (21, vi j), (35, vB ((!d) && ((decide (a < 48)) || (decide (57 < a)))))]) ?_ ?_
      ·refine WL.part 28 z (fun H => ?_) (fun H => ?_)
       ·refine ug z z (wY (ym z) z (ug z z (wY (Y.lss_b (b := 48) z z) z (ug z z (wY (ym z) z ?_)))))
        refine WL.cut 3 (σ := Unit) (fun _ w' => o = w') (fun _ => [(4, vb a), (19, e), (20, vi (a0.length : Int)), (21, vi j), (28, vB true), (29, vb a), (30, vB (decide (a < 48))), (31, vB (decide (a < 48))), (34, vB ((decide (a < 48)) || (decide (57 < a))))]) ?_ ?_
        ·refine WL.part 31 z (fun r => ?_) (fun r => ?_)
         ·refine WL.gS z z z z (WL.gS z z z z (ug z z (wY (Y.pick (b := true) z z) z (WL.ren (v' := vB ((decide (a < 48)) || (decide (57 < a)))) 34 z (congrArg vB (orT r)) (WL.ren 31 z (congrArg vB r.symm) ?_)))))
          exact nl (At.join () z (.cons z (.cons z (.cons z (.cons z (.cons z (.cons z (.cons z (.cons z (.cons z .nil))))))))))
         ·refine ug z z (wY (ym z) z (ug z z (wY (Y.gtr_b (b := 57) z z) z (ug z z (wY (Y.pick (b := false) z z) z (WL.ren (v' := vB ((decide (a < 48)) || (decide (57 < a)))) 34 z (congrArg vB (orF r)) (WL.ren 31 z (congrArg vB r.symm) ?_)))))))
          exact nl (At.join () z (.cons z (.cons z (.cons z (.cons z (.cons z (.cons z (.cons z (.cons z (.cons z .nil))))))))))
        ·rintro _ _ rfl
         refine (show WL _ _ _ _ _ [(4, vb a), (19, e), (20, vi (a0.length : Int)), (21, vi j), (28, vB true), (29, vb a), (30, vB (decide (a < 48))), (31, vB (decide (a < 48))), (34, vB ((decide (a < 48)) || (decide (57 < a))))] _ from ?_)
         refine wY (Y.pick (b := true) z z) z (WL.ren (v' := vB ((!d) && ((decide (a < 48)) || (decide (57 < a))))) 35 z (congrArg vB (andT H)) ?_)
         exact nl (At.join () z (.cons z (.cons z (.cons z (.cons z (.cons z .nil))))))
       ·refine WL.gS z z z z (WL.gS z z z z (WL.gS z z z z (WL.gS z z z z (WL.gS z z z z (WL.gS z z z z (wY (Y.pick (b := false) z z) z (WL.ren (v' := vB ((!d) && ((decide (a < 48)) || (decide (57 < a))))) 35 z (congrArg vB (andF H)) ?_)))))))
        exact nl (At.join () z (.cons z (.cons z (.cons z (.cons z (.cons z .nil))))))
      ·rintro _ _ rfl
       refine (show WL _ _ _ _ _ [(4, vb a), (19, e), (20, vi (a0.length : Int)), (21, vi j), (35, vB ((!d) && ((decide (a < 48)) || (decide (57 < a)))))] _ from ?_)
       refine wY (ym z) z ?_
       refine WL.cut 3 (σ := Unit) (fun _ w' => o = w') (fun _ => [(4, vb a), (19, e), (20, vi (a0.length : Int)), (21, vi j), (39, vB (((!d) && ((decide (a < 48)) || (decide (57 < a)))) && (!decide (a = 95))))]) ?_ ?_
       ·refine WL.part 36 z (fun I => ?_) (fun I => ?_)
        ·refine ug z z (wY (ym z) z (ug z z (wY (Y.neq_b (b := 95) z z) z (wY (Y.pick (b := true) z z) z (WL.ren (v' := vB (((!d) && ((decide (a < 48)) || (decide (57 < a)))) && (!decide (a = 95)))) 39 z (congrArg vB (andT I)) ?_)))))
         exact nl (At.join () z (.cons z (.cons z (.cons z (.cons z (.cons z .nil))))))
        ·refine WL.gS z z z z (WL.gS z z z z (wY (Y.pick (b := false) z z) z (WL.ren (v' := vB (((!d) && ((decide (a < 48)) || (decide (57 < a)))) && (!decide (a = 95)))) 39 z (congrArg vB (andF I)) ?_)))
         exact nl (At.join () z (.cons z (.cons z (.cons z (.cons z (.cons z .nil))))))
       ·rintro _ _ rfl
        refine (show WL _ _ _ _ _ [(4, vb a), (19, e), (20, vi (a0.length : Int)), (21, vi j), (39, vB (((!d) && ((decide (a < 48)) || (decide (57 < a)))) && (!decide (a = 95))))] _ from ?_)
        refine wY (ym z) z ?_
        refine WL.cut 3 (σ := Unit) (fun _ w' => o = w') (fun _ => [(19, e), (20, vi (a0.length : Int)), (21, vi j), (43, vB ((((!d) && ((decide (a < 48)) || (decide (57 < a)))) && (!decide (a = 95))) && (!decide (a = 46))))]) ?_ ?_
        ·refine WL.part 40 z (fun J => ?_) (fun J => ?_)
         ·refine ug z z (wY (ym z) z (ug z z (wY (Y.neq_b (b := 46) z z) z (wY (Y.pick (b := true) z z) z (WL.ren (v' := vB ((((!d) && ((decide (a < 48)) || (decide (57 < a)))) && (!decide (a = 95))) && (!decide (a = 46)))) 43 z (congrArg vB (andT J)) ?_)))))
          exact nl (At.join () z (.cons z (.cons z (.cons z (.cons z .nil)))))
         ·refine WL.gS z z z z (WL.gS z z z z (wY (Y.pick (b := false) z z) z (WL.ren (v' := vB ((((!d) && ((decide (a < 48)) || (decide (57 < a)))) && (!decide (a = 95))) && (!decide (a = 46)))) 43 z (congrArg vB (andF J)) ?_)))
          exact nl (At.join () z (.cons z (.cons z (.cons z (.cons z .nil)))))
        ·rintro _ _ rfl
         refine (show WL _ _ _ _ _ [(19, e), (20, vi (a0.length : Int)), (21, vi j), (43, vB ((((!d) && ((decide (a < 48)) || (decide (57 < a)))) && (!decide (a = 95))) && (!decide (a = 46))))] _ from ?_)
         refine nl (th ?_)
         rcases cnd h with ⟨K, h⟩ | ⟨K, h⟩
         ·refine WC.condT' z K (sq (rg (wY (ya z) z (nl (th (rt (At.inBlockR (At.thenR (At.loopR ?_)))))))))
          have h := outr1 h E T
          refine At.joinBR (At.inBlockR (At.thenR ?_))
          obtain rfl := some1 h
          have av : Stp [] (Lg.O0 (fun _ => False)) w ad o := (tr_ (su_ m z) (tr_ (su_ L z) (tr_ (su_ l z) (su_ M z))))
          exact At.res (.inl z) z (.tmp z .nil) ⟨z, (se_ av z z)⟩
         ·refine WC.condF' z K (sk (At.inBlock (th (rg (wY (Y.add_i z z) z (wY (ym z) z (nl ?_)))))))
          exact At.round (w64 (j + 1), ad) aG (Nat.lt_succ_self _) ⟨next1 h E, (tr_ (su_ l z) (su_ M z))⟩ (.cons z (.cons z (.cons z .nil)))
     ·refine WC.condF' z F (WC.exit (At.thenX (At.loopX ?_)))
      exact At.hitB (σ := Own) ac ⟨brk1 h E, (su_ l z)⟩ .nil
    ·rintro aJ aw ⟨rfl, X⟩
     replace h := flowK_go T
     refine (show At _ _ _ [] _ from ?_)
     refine At.inBlockHit (th (sq (rg (wY (ya z) z (nl (th (rt ?_)))))))
     obtain rfl := some1 h
     have ax : Stp [] (Lg.O0 (fun _ => False)) w aJ aw := (tr_ (su_ m z) (tr_ (su_ L z) (su_ X z)))
     exact At.res (.inl z) z (.tmp z .nil) ⟨z, (se_ ax z z)⟩
theorem c_label_isValue {a0 : List UInt8} {w : World} {r0 : Bool} (h : label_isValue a0 = some r0) : Rets Try.prog 68 [vs a0] w (fun v w' => v = vB r0 ∧ Ext w w') := by
 unfold label_isValue at h
 refine Rets.enter Try.func68 z z ?_
 refine (show WC _ _ _ _ [(0, vs a0)] _ from ?_)
 refine sq (rg (wY (ya z) z (nl (th (sq (sq (rg (wY (ym z) z (wY (Y.eql_s (b := []) z z) z ?_)))))))))
 refine wY (ym z) z ?_
 refine WL.cut 4 (σ := Unit) (fun _ w' => w = w') (fun _ => [(0, vs a0), (11, vB ((decide (a0 = [])) || (decide (32 < (a0.length : Int)))))]) ?_ ?_
 ·refine WL.part 7 z (fun j => ?_) (fun j => ?_)
  ·refine WL.gS z z z z (WL.gS z z z z (WL.gS z z z z (wY (Y.pick (b := true) z z) z (WL.ren (v' := vB ((decide (a0 = [])) || (decide (32 < (a0.length : Int))))) 11 z (congrArg vB (orT j)) ?_))))
   exact nl (At.join () z (.cons z (.cons z .nil)))
  ·refine ug z z (wY (ym z) z (ug z z (wY (Y.len_s ty9 z) z (ug z z (wY (Y.gtr_i z z) z (wY (Y.pick (b := false) z z) z (WL.ren (v' := vB ((decide (a0 = [])) || (decide (32 < (a0.length : Int))))) 11 z (congrArg vB (orF j)) ?_)))))))
   exact nl (At.join () z (.cons z (.cons z .nil)))
 ·rintro _ _ rfl
  refine (show WL _ _ _ _ _ [(0, vs a0), (11, vB ((decide (a0 = [])) || (decide (32 < (a0.length : Int)))))] _ from ?_)
  refine nl (th ?_)
  rcases cnd h with ⟨l, h⟩ | ⟨l, h⟩
  ·refine WC.condT' z l (sq (rg (wY (ya z) z (nl (th (rt (At.thenR ?_)))))))
   obtain rfl := some1 h
   have S : Stp [] (Lg.O0 (fun _ => False)) w (Lg.O0 (fun _ => False)) w := (sr_ _ _ _)
   exact At.res (.inl z) z (.tmp z .nil) ⟨z, (se_ S z z)⟩
  ·refine WC.condF' z l (sk (th (sq (sq (rg (wY (ym z) z (WL.s2b (O := (Lg.O0 (fun _ => False))) ty9 ty124 ty5 z z ?_)))))))
   intro d M a G H
   refine wY (Y.len ty124 z H) z (wY (ym z) z (nl (th (WC.block ?_))))
   obtain ⟨P, h, I⟩ := flow1 h
   obtain ⟨Q, h⟩ := loop_some h
   refine WC.joinB 0 (σ := Unit) (fun x w' => P = .go () ∧ a = w') (fun x => []) ?_ ?_
   ·refine WC.loop (σ := Int) (fun x k w' => loopN k (label_isValue_lp1 a0) x = some P ∧ a = w') (fun x => [(13, d), (14, vi (a0.length : Int)), (15, vi x)]) 0 Q (.cons z (.cons z (.cons z .nil))) ⟨h, z⟩ ?_
    rintro e Q _ ⟨h, rfl⟩
    obtain ⟨ai, ax, rfl, h, m⟩ := rnd1 h
    unfold label_isValue_lp1 at h
    try dsimp only at h
    refine (show WC _ _ _ _ [(13, d), (14, vi (a0.length : Int)), (15, vi e)] _ from ?_)
    refine sq (rg (wY (Y.lss_i z z) z (nl (th (sq ?_)))))
    rcases cnd h with ⟨o, h⟩ | ⟨o, h⟩
    ·refine WC.condT' z o (sk (th (sq (WC.block (sq (rg ?_))))))
     obtain ⟨aj, T, h⟩ := bnd h
     obtain ⟨ay, au, av, aw, U, V, W, r, K, X⟩ := Sl.at2 H T
     obtain rfl := K
     replace r : CellsAt _ _ _ [vb aj] := r
     have L := CAt.frs r X
     refine wY (Y.indexAddr ty124 ty5 z U z V W) z (wY (yl ty5 z z L.at_) z (wY (ya z) z (nl (th ?_))))
     obtain ⟨ak, h, J⟩ := flow1 h
     refine WC.join (σ := Unit) (fun x w' => ak = .go () ∧ a = w') (fun x => [(13, d), (14, vi (a0.length : Int)), (15, vi e)]) ?_ ?_
     ·refine WC.block (sq ?_)
      obtain ⟨al, h, Z⟩ := bnd h
      refine WC.join (σ := Bool) (fun x w' => x = al ∧ a = w') (fun x => [(13, d), (14, vi (a0.length : Int)), (15, vi e), (19, vB x)]) ?_ ?_
      ·refine sq (rg (wY (ym z) z (wY (Y.lss_b (b := 33) z z) z ?_)))
       obtain ⟨am, aa, h⟩ := lt1 h
       refine WL.yE (ya z) (congrArg vB aa.symm) z (nl (th ?_))
       rcases cnd h with ⟨t, h⟩ | ⟨t, h⟩
       ·refine WC.condT' z t (sk ?_)
        exact At.join (σ := Bool) am ⟨some1 h, z⟩ (.cons z (.cons z (.cons z (.cons z .nil))))
       ·refine WC.condF' z t (sq (rg (wY (ym z) z (wY (Y.gtr_b (b := 126) z z) z ?_))))
        obtain ⟨an, ab, h⟩ := lt1 h
        refine WL.yE (ya z) (congrArg vB ab.symm) z (nl (th ?_))
        rcases cnd h with ⟨C, h⟩ | ⟨C, h⟩
        ·refine WC.condT' z C (sk ?_)
         exact At.join (σ := Bool) an ⟨some1 h, z⟩ (.cons z (.cons z (.cons z (.cons z .nil))))
        ·refine WC.condF' z C (sq (rg (wY (ym z) z (wY (Y.eql_b (b := 61) z z) z ?_))))
         obtain ⟨ao, ac, h⟩ := lt1 h
         refine WL.yE (ya z) (congrArg vB ac.symm) z (nl (th ?_))
         rcases cnd h with ⟨D, h⟩ | ⟨D, h⟩
         ·refine WC.condT' z D (sk ?_)
          exact At.join (σ := Bool) ao ⟨some1 h, z⟩ (.cons z (.cons z (.cons z (.cons z .nil))))
         ·refine WC.condF' z D (sq (rg (wY (ym z) z (wY (Y.eql_b (b := 59) z z) z ?_))))
          obtain ⟨ap, ad, h⟩ := lt1 h
          refine WL.yE (ya z) (congrArg vB ad.symm) z (nl (th ?_))
          rcases cnd h with ⟨E, h⟩ | ⟨E, h⟩
          ·refine WC.condT' z E (sk ?_)
           exact At.join (σ := Bool) ap ⟨some1 h, z⟩ (.cons z (.cons z (.cons z (.cons z .nil))))
          ·refine WC.condF' z E (rg (wY (ym z) z (wY (Y.eql_b (b := 44) z z) z ?_)))
           obtain ⟨aq, ae, h⟩ := lt1 h
           refine WL.yE (ya z) (congrArg vB ae.symm) z (nl ?_)
           exact At.join (σ := Bool) aq ⟨some1 h, z⟩ (.cons z (.cons z (.cons z (.cons z .nil))))
      ·rintro ar _ ⟨rfl, rfl⟩
       replace h := Z
       try dsimp only at h
       refine (show At _ _ _ [(13, d), (14, vi (a0.length : Int)), (15, vi e), (19, vB ar)] _ from ?_)
       refine th ?_
       rcases cnd h with ⟨F, h⟩ | ⟨F, h⟩
       ·refine WC.condT' z F (sq (rg (wY (ya z) z (nl (th (rt (At.inBlockR ?_)))))))
        have h := outs1 h J
        refine At.joinR (At.inBlockR (At.thenR (At.loopR ?_)))
        have h := outr1 h m I
        refine At.joinBR (At.inBlockR (At.thenR ?_))
        obtain rfl := some1 h
        have af : Stp [] (Lg.O0 (fun _ => False)) w M a := (su_ G z)
        exact At.res (.inl z) z (.tmp z .nil) ⟨z, (se_ af z z)⟩
       ·refine WC.condF' z F (sk (At.inBlock ?_))
        exact At.join (σ := Unit) () ⟨go2 h, z⟩ (.cons z (.cons z (.cons z .nil)))
     ·rintro _ _ ⟨rfl, rfl⟩
      replace h := flowK_go J
      refine (show At _ _ _ [(13, d), (14, vi (a0.length : Int)), (15, vi e)] _ from ?_)
      refine At.inBlock (th (rg (wY (Y.add_i z z) z (wY (ym z) z (nl ?_)))))
      exact At.round (w64 (e + 1)) ai (Nat.lt_succ_self _) ⟨next1 h m, z⟩ (.cons z (.cons z (.cons z .nil)))
    ·refine WC.condF' z o (WC.exit (At.thenX (At.loopX ?_)))
     exact At.hitB (σ := Unit) () ⟨brk1 h m, z⟩ .nil
   ·rintro _ _ ⟨rfl, rfl⟩
    replace h := flowK_go I
    refine (show At _ _ _ [] _ from ?_)
    refine At.inBlockHit (th (sq (rg (wY (ya z) z (nl (th (rt ?_)))))))
    obtain rfl := some1 h
    have ah : Stp [] (Lg.O0 (fun _ => False)) w M a := (su_ G z)
    exact At.res (.inl z) z (.tmp z .nil) ⟨z, (se_ ah z z)⟩
theorem c_label_Check {A : Nat → Prop} {a0 : List UInt8} {a1 : List api_Pair} {v1 : Value} {w : World} (hs1 : Sl rep_api_Pair w A v1 a1) {r0 : Int} (h : label_Check a0 a1 = some r0) : Rets Try.prog 35 [vs a0, v1] w (fun v w' => v = vi r0 ∧ Ext w w') := by
 unfold label_Check at h
 refine Rets.enter Try.func35 z z ?_
 have aZ : Sl rep_api_Pair w (imm (Lg.O0 A)) v1 a1 := (Sl.start hs1)
 refine (show WC _ _ _ _ [(0, vs a0), (1, v1)] _ from ?_)
 refine sq (rg (wY (ya z) z (nl (th (sq (sq (rg (wY (ym z) z ?_))))))))
 obtain ⟨cg, a2, h⟩ := bnd h
 refine WL.call (vals := [vs a0]) kok67 z z (c_label_isName a2) ?_
 rintro b5 J ⟨rfl, a3⟩
 obtain ⟨T, bG, bH, j⟩ := adoptE (Lg.O0 A) (fun k => 1) a3
 refine wY (Y.not z) z (nl (th ?_))
 rcases cnd h with ⟨W, h⟩ | ⟨W, h⟩
 ·refine WC.condT' z W (sq (rg (wY (ya z) z (nl (th (rt (At.thenR ?_)))))))
  obtain rfl := some1 h
  have a4 : Stp [] (Lg.O0 A) w T J := (su_ j z)
  exact At.res (.inl z) z (.tmp z .nil) ⟨z, (se_ a4 z z)⟩
 ·refine WC.condF' z W (sk (th (sq (sq (rg (wY (ym z) z ?_))))))
  have X := aZ.i j z z
  refine wY (Y.len ty35 z X) z (wY (Y.gtr_i z z) z (nl (th ?_)))
  rcases cnd h with ⟨Z, h⟩ | ⟨Z, h⟩
  ·refine WC.condT' z Z (sq (rg (wY (ya z) z (nl (th (rt (At.thenR ?_)))))))
   obtain rfl := some1 h
   have a5 : Stp [] (Lg.O0 A) w T J := (su_ j z)
   exact At.res (.inl z) z (.tmp z .nil) ⟨z, (se_ a5 z z)⟩
  ·refine WC.condF' z Z (sk (th (sq (sq (rg (wY (ym z) z (wY (Y.len ty35 z X) z (wY (ym z) z (nl ?_)))))))))
   refine th (WC.block ?_)
   obtain ⟨aU, h, aa⟩ := flow1 h
   obtain ⟨aW, h⟩ := loop_some h
   refine WC.joinB 0 (σ := Own) (fun x w' => aU = .go () ∧ Stp [11] T J x w') (fun x => []) ?_ ?_
   ·refine WC.loop (σ := (Int × Own)) (fun x k w' => loopN k (label_Check_lp1 a1) x.1 = some aU ∧ Stp [11] T J x.2 w') (fun x => [(1, v1), (13, v1), (14, vi (a1.length : Int)), (15, vi x.1)]) (0, T) aW (.cons z (.cons z (.cons z (.cons z .nil)))) ⟨h, (sr_ _ _ _)⟩ ?_
    rintro ⟨D, aX⟩ aW b6 ⟨h, l⟩
    obtain ⟨bI, ch, rfl, h, K⟩ := rnd1 h
    unfold label_Check_lp1 at h
    try dsimp only at h l
    refine (show WC _ _ _ _ [(1, v1), (13, v1), (14, vi (a1.length : Int)), (15, vi D)] _ from ?_)
    refine sq (rg (wY (Y.lss_i z z) z (nl (th (sq ?_)))))
    rcases cnd h with ⟨ab, h⟩ | ⟨ab, h⟩
    ·refine WC.condT' z ab (sk (th (sq (WC.block (sq (rg (wY (ym z) z ?_)))))))
     obtain ⟨r, a6, h⟩ := bnd h
     have ak := X.i l z z
     obtain ⟨ci, bY, bZ, b7, a7, a8, a9, ac, aw, ba⟩ := Sl.at2 ak a6
     obtain ⟨_, _, rfl, rfl, rfl⟩ := aw
     replace ac : CellsAt _ _ _ [vs r.Key, vs r.Val] := ac
     have ax := CAt.imm ac ba
     refine wY (Y.indexAddr ty35 ty107 z a7 z a8 a9) z (wY (yL ty107 z z ax.at_ z) z (WL.alloc (O := aX) 11 [vs [], vs []] ty107 z z ?_))
     intro d bJ b8 t bb
     refine wY (ya z) z (WL.store (v := ag [vs r.Key, vs r.Val]) (cells' := [vs r.Key, vs r.Val]) ty107 z z bb z (le_ z) z z ?_)
     intro b9 C ad
     refine nl (th (sq (sq (rg (wY (yf fo107_0 z) z (wY (yl ty9 z z (ad.cell 0 _ z)) z ?_))))))
     obtain ⟨cj, bc, h⟩ := bnd h
     refine WL.call (vals := [vs r.Key]) kok67 z z (c_label_isName bc) ?_
     rintro ca bd ⟨rfl, bf⟩
     obtain ⟨al, bK, bL, m⟩ := adoptE bJ (fun k => 1) bf
     refine wY (Y.not z) z (wY (ym z) z ?_)
     obtain ⟨bM, h, bg⟩ := bnd h
     refine WL.cut 5 (σ := (Bool × Own)) (fun x w' => x.1 = bM ∧ Stp [] al bd x.2 w') (fun x => [(1, v1), (5, vi D), (6, pt d 0), (13, v1), (14, vi (a1.length : Int)), (15, vi D), (29, vB x.1)]) ?_ ?_
     ·rcases cnd h with ⟨ae, h⟩ | ⟨ae, h⟩
      ·refine WL.ren 24 z (congrArg vB ae) (WL.gS z z z z (WL.gS z z z z (WL.gS z z z z (WL.gS z z z z (wY (Y.pick (b := true) z z) z ?_)))))
       exact nl (At.join (σ := (Bool × Own)) (true, al) ⟨some1 h, (sr_ _ _ _)⟩ (.cons z (.cons z (.cons z (.cons z (.cons z (.cons z (.cons z .nil))))))))
      ·refine WL.ren 24 z (congrArg vB ae) (ug z z (wY (yf fo107_1 z) z (ug z z ?_)))
       have bh := ad.st m z
       refine wY (yl ty9 z z (bh.cell 1 _ z)) z (ug z z ?_)
       obtain ⟨bO, bi, h⟩ := bnd h
       refine WL.call (vals := [vs r.Val]) kok68 z z (c_label_isValue bi) ?_
       rintro cb cc ⟨rfl, bj⟩
       obtain ⟨bP, bQ, bR, ay⟩ := adoptE al (fun k => 1) bj
       refine ug z z (wY (Y.not z) z (wY (Y.pick (b := false) z z) z ?_))
       exact nl (At.join (σ := (Bool × Own)) ((!bO), bP) ⟨some1 h, (su_ ay z)⟩ (.cons z (.cons z (.cons z (.cons z (.cons z (.cons z (.cons z .nil))))))))
     ·rintro ⟨bS, H⟩ E ⟨rfl, o⟩
      replace h := bg
      try dsimp only at h o
      refine (show WL _ _ _ _ _ [(1, v1), (5, vi D), (6, pt d 0), (13, v1), (14, vi (a1.length : Int)), (15, vi D), (29, vB bS)] _ from ?_)
      refine nl (th ?_)
      rcases cnd h with ⟨af, h⟩ | ⟨af, h⟩
      ·refine WC.condT' z af (sq (rg (wY (ya z) z (nl (th (rt (At.thenR (At.inBlockR (At.thenR ?_)))))))))
       refine At.loopR ?_
       have h := outr1 h K aa
       refine At.joinBR (At.inBlockR (At.thenR ?_))
       obtain rfl := some1 h
       have bk : Stp [11] (Lg.O0 A) w H E := (tr_ (su_ j z) (tr_ (su_ l z) (tr_ (su_ t z) (tr_ (su_ C z) (tr_ (su_ m z) (su_ o z))))))
       exact At.res (.inl z) z (.tmp z .nil) ⟨z, (se_ bk z z)⟩
      ·refine WC.condF' z af (sk (th (sq (rg (wY (ym z) z (wY (ym z) z ?_))))))
       obtain ⟨am, bl, h⟩ := bnd h
       have bm := ak.i t z z
       have bn := bm.i C z z
       have bo := bn.i m z z
       have bp := bo.i o z z
       obtain ⟨I, bq, an⟩ := Sl.slice (ρ := [(30, v1), (31, vi D)]) (x := (.tmp 30)) (lo := none) (hi := (some (.tmp 31))) ty35 ty107 rfl rfl rfl bp bl
       refine wY (Y.sub (.cons z (.cons z .nil)) (bq _ _)) z (wY (Y.mkfunc (fv := []) (cv := [pt d 0]) z z) z ?_)
       obtain ⟨br, h, az⟩ := bnd h
       refine WL.callJ (vals := [I, Value.func (.func 70) (List.toArray []) (List.toArray [pt d 0])]) (σ := (Bool × Own)) (fun x w' => x.1 = br ∧ Stp [] H E x.2 w') (fun x => vB x.1) kok69 z z ?_ ?_
       ·refine Rets.enter Try.func69 z z ?_
        refine (show WC _ _ _ _ [(0, I), (1, Value.func (.func 70) (List.toArray []) (List.toArray [pt d 0]))] _ from ?_)
        refine sq (rg (wY (ya z) z (nl (th (sq (rg (wY (ym z) z (wY (ym z) z ?_))))))))
        obtain ⟨bs, h, aA⟩ := bnd h
        refine WL.callJ (vals := [I, Value.func (.func 70) (List.toArray []) (List.toArray [pt d 0])]) (σ := (Int × Own)) (fun x w' => x.1 = bs ∧ Stp [] H E x.2 w') (fun x => vi x.1) kok94 z z ?_ ?_
        ·refine Rets.enter Try.func94 z z ?_
         refine (show WC _ _ _ _ [(0, I), (1, Value.func (.func 70) (List.toArray []) (List.toArray [pt d 0]))] _ from ?_)
         refine sq (rg (wY (ya z) z (nl (th (sq (sq (rg (wY (ym z) z (wY (Y.len ty35 z an) z ?_)))))))))
         refine wY (ym z) z (nl (th (WC.block ?_)))
         obtain ⟨ao, h, aj⟩ := flow1 h
         obtain ⟨ap, h⟩ := loop_some h
         refine WC.joinB 0 (σ := Own) (fun x w' => ao = .go () ∧ Stp [] H E x w') (fun x => []) ?_ ?_
         ·refine WC.loop (σ := (Int × Own)) (fun x k w' => loopN k (label_Check_lp2 r am) x.1 = some ao ∧ Stp [] H E x.2 w') (fun x => [(0, I), (1, Value.func (.func 70) (List.toArray []) (List.toArray [pt d 0])), (7, vi (am.length : Int)), (8, vi x.1)]) (0, H) ap (.cons z (.cons z (.cons z (.cons z .nil)))) ⟨h, (sr_ _ _ _)⟩ ?_
          rintro ⟨ah, ai⟩ ap aC ⟨h, a⟩
          obtain ⟨bt, cd, rfl, h, L⟩ := rnd1 h
          unfold label_Check_lp2 at h
          try dsimp only at h a
          refine (show WC _ _ _ _ [(0, I), (1, Value.func (.func 70) (List.toArray []) (List.toArray [pt d 0])), (7, vi (am.length : Int)), (8, vi ah)] _ from ?_)
          refine sq (rg (wY (Y.lss_i z z) z (nl (th (sq ?_)))))
          rcases cnd h with ⟨M, h⟩ | ⟨M, h⟩
          ·refine WC.condT' z M (sk (th (sq (WC.block (sq (rg (wY (ym z) z (wY (ya z) z (nl ?_)))))))))
           refine th (sq (rg (wY (ym z) z (wY (ym z) z (wY (ym z) z ?_)))))
           obtain ⟨e, aD, h⟩ := bnd h
           have aE := an.i a z z
           obtain ⟨ce, bT, bU, b0, aF, aG, aH, P, aq, aI⟩ := Sl.at2 aE aD
           obtain ⟨_, _, rfl, rfl, rfl⟩ := aq
           replace P : CellsAt _ _ _ [vs e.Key, vs e.Val] := P
           have ar := CAt.imm P aI
           refine wY (Y.indexAddr ty35 ty107 z aF z aG aH) z (wY (yL ty107 z z ar.at_ z) z ?_)
           obtain ⟨bu, h, aJ⟩ := bnd h
           refine WL.callV (fv := []) (cv := [pt d 0]) (vals := [ag [vs e.Key, vs e.Val]]) (σ := (Bool × Own)) (fun x w' => x.1 = bu ∧ Stp [] ai aC x.2 w') (fun x => vB x.1) kok70 z z z ?_ ?_
           ·refine Rets.enter Try.func70 z z ?_
            refine (show WC _ _ _ _ [(0, ag [vs e.Key, vs e.Val]), (1, pt d 0)] _ from ?_)
            refine sq (rg (WL.box (O := ai) 12 [vs e.Key, vs e.Val] z z z ?_))
            intro cf bw b1 U aK
            refine wY (ya z) z (nl (th (sq (rg (wY (yf fo107_0 z) z (wY (yl ty9 z z (aK.cell 0 _ z)) z (wY (yf fo107_0 z) z ?_)))))))
            have aL := ad.st m z
            have aM := aL.st o z
            have aN := aM.st a z
            have aO := aN.st U z
            refine wY (yl ty9 z z (aO.cell 0 _ z)) z (wY (Y.eql_s z z) z ?_)
            obtain ⟨bx, aP, h⟩ := lt1 h
            refine WL.yE (ya z) (congrArg vB aP.symm) z (nl (th (rt ?_)))
            exact At.res (.inl z) z (.tmp z .nil) ⟨(bx, bw), ⟨some1 h, (su_ U z)⟩, z⟩
           ·rintro ⟨bz, au⟩ b2 ⟨rfl, F⟩
            replace h := aJ
            try dsimp only at h F
            refine (show WL _ _ _ _ _ ((16, vB bz) :: _) _ from ?_)
            refine nl (th ?_)
            rcases cnd h with ⟨Q, h⟩ | ⟨Q, h⟩
            ·refine WC.condT' z Q (sq (rg (wY (ym z) z (wY (ya z) z (nl (th (rt (At.inBlockR (At.thenR ?_)))))))))
             refine At.loopR ?_
             have h := outr1 h L aj
             refine At.joinBR (At.inBlockR (At.thenR ?_))
             exact At.res (.inl z) z (.tmp z .nil) ⟨(ah, au), ⟨some1 h, (tr_ (su_ a z) (su_ F z))⟩, z⟩
            ·refine WC.condF' z Q (sk (At.inBlock (th (rg (wY (Y.add_i z z) z (wY (ym z) z (nl ?_)))))))
             exact At.round (w64 (ah + 1), au) bt (Nat.lt_succ_self _) ⟨next1 h L, (tr_ (su_ a z) (su_ F z))⟩ (.cons z (.cons z (.cons z (.cons z .nil))))
          ·refine WC.condF' z M (WC.exit (At.thenX (At.loopX ?_)))
           exact At.hitB (σ := Own) ai ⟨brk1 h L, (su_ a z)⟩ .nil
         ·rintro bA b3 ⟨rfl, av⟩
          replace h := flowK_go aj
          refine (show At _ _ _ [] _ from ?_)
          refine At.inBlockHit (th (sq (rg (wY (ya z) z (nl (th (rt ?_)))))))
          exact At.res (.inl z) z (.tmp z .nil) ⟨((-1), bA), ⟨some1 h, (su_ av z)⟩, z⟩
        ·rintro ⟨bB, bC⟩ b4 ⟨rfl, V⟩
         replace h := aA
         try dsimp only at h V
         refine (show WL _ _ _ _ _ ((7, vi bB) :: _) _ from ?_)
         refine wY (Y.geq_i z z) z ?_
         obtain ⟨bD, aQ, h⟩ := lt1 h
         refine WL.yE (ya z) (congrArg vB aQ.symm) z (nl (th (rt ?_)))
         exact At.res (.inl z) z (.tmp z .nil) ⟨(bD, bC), ⟨some1 h, (su_ V z)⟩, z⟩
       ·rintro ⟨bW, aY⟩ bE ⟨rfl, G⟩
        replace h := az
        try dsimp only at h G
        refine (show WL _ _ _ _ _ ((34, vB bW) :: _) _ from ?_)
        refine nl (th ?_)
        rcases cnd h with ⟨S, h⟩ | ⟨S, h⟩
        ·refine WC.condT' z S (sq (rg (wY (ya z) z (nl (th (rt (At.inBlockR (At.thenR (At.loopR ?_)))))))))
         have h := outr1 h K aa
         refine At.joinBR (At.inBlockR (At.thenR ?_))
         obtain rfl := some1 h
         have aR : Stp [11] (Lg.O0 A) w aY bE := (tr_ (su_ j z) (tr_ (su_ l z) (tr_ (su_ t z) (tr_ (su_ C z) (tr_ (su_ m z) (tr_ (su_ o z) (su_ G z)))))))
         exact At.res (.inl z) z (.tmp z .nil) ⟨z, (se_ aR z z)⟩
        ·refine WC.condF' z S (sk (At.inBlock (th (rg (wY (Y.add_i z z) z (wY (ym z) z (nl ?_)))))))
         exact At.round (w64 (D + 1), aY) bI (Nat.lt_succ_self _) ⟨next1 h K, (tr_ (su_ l z) (tr_ (su_ t z) (tr_ (su_ C z) (tr_ (su_ m z) (tr_ (su_ o z) (su_ G z))))))⟩ (.cons z (.cons z (.cons z (.cons z .nil))))
    ·refine WC.condF' z ab (WC.exit (At.thenX (At.loopX ?_)))
     exact At.hitB (σ := Own) aX ⟨brk1 h K, (su_ l z)⟩ .nil
   ·rintro bX bF ⟨rfl, aS⟩
    replace h := flowK_go aa
    refine (show At _ _ _ [] _ from ?_)
    refine At.inBlockHit (th (sq (rg (wY (ya z) z (nl (th (rt ?_)))))))
    obtain rfl := some1 h
    have aT : Stp [11] (Lg.O0 A) w bX bF := (tr_ (su_ j z) (su_ aS z))
    exact At.res (.inl z) z (.tmp z .nil) ⟨z, (se_ aT z z)⟩
theorem c_point_kinds {A : Nat → Prop} {v0_1 : Value} {v0_13 : Value} {v0_15 : Value} {a0 : api_Point} {w : World} (hs0_1 : Sl rep_api_Pair w A v0_1 a0.Attrs) (hs0_13 : Sl Rep.u w A v0_13 a0.Hist.Pos.Counts) (hs0_15 : Sl Rep.u w A v0_15 a0.Hist.Neg.Counts) {r0 : Bool} (h : point_kinds a0 = some r0) : Rets Try.prog 36 [ag [vs a0.Name, v0_1, vi a0.Kind, vi a0.Temp, vB a0.Mono, vi a0.Start, vi a0.Time, vi a0.Int_, vu a0.Re, vu a0.Im, vi a0.Hist.Scale, vu a0.Hist.Zero, vi a0.Hist.Pos.Offset, v0_13, vi a0.Hist.Neg.Offset, v0_15, vi a0.Flags]] w (fun v w' => v = vB r0 ∧ Ext w w') := by
 unfold point_kinds at h
 refine Rets.enter Try.func36 z z ?_
 have E : Sl rep_api_Pair w (imm (Lg.O0 A)) v0_1 a0.Attrs := (Sl.start hs0_1)
 have F : Sl Rep.u w (imm (Lg.O0 A)) v0_13 a0.Hist.Pos.Counts := (Sl.start hs0_13)
 have G : Sl Rep.u w (imm (Lg.O0 A)) v0_15 a0.Hist.Neg.Counts := (Sl.start hs0_15)
 refine (show WC _ _ _ _ [(0, ag [vs a0.Name, v0_1, vi a0.Kind, vi a0.Temp, vB a0.Mono, vi a0.Start, vi a0.Time, vi a0.Int_, vu a0.Re, vu a0.Im, vi a0.Hist.Scale, vu a0.Hist.Zero, vi a0.Hist.Pos.Offset, v0_13, vi a0.Hist.Neg.Offset, v0_15, vi a0.Flags])] _ from ?_)
 refine sq (rg ?_)
 have H := h
 obtain ⟨Z, aa, ab, rfl⟩ := E.shape
 have h := H
 have I := h
 obtain ⟨ac, ad, ae, rfl⟩ := F.shape
 have h := I
 have J := h
 obtain ⟨af, ah, ai, rfl⟩ := G.shape
 have h := J
 refine WL.box (O := (Lg.O0 A)) 11 [vs a0.Name, (Value.slice Z aa ab), vi a0.Kind, vi a0.Temp, vB a0.Mono, vi a0.Start, vi a0.Time, vi a0.Int_, vu a0.Re, vu a0.Im, vi a0.Hist.Scale, vu a0.Hist.Zero, vi a0.Hist.Pos.Offset, (Value.slice ac ad ae), vi a0.Hist.Neg.Offset, (Value.slice af ah ai), vi a0.Flags] z z z ?_
 intro D C a d e
 refine wY (ya z) z (nl (th (sq (sq (rg (wY (yf fo37_2 z) z (wY (yl ty3 z z (e.cell 2 _ z)) z (nl (th ?_)))))))))
 refine WC.block (sq (rg (wY (Y.eql_i z z) z ?_)))
 obtain ⟨ap, K, h⟩ := lt1 h
 refine WL.yE (ya z) (congrArg vB K.symm) z (nl (th ?_))
 rcases cnd h with ⟨j, h⟩ | ⟨j, h⟩
 ·refine WC.condT' z j (sq (rg (wY (yf fo37_3 z) z (wY (yl ty3 z z (e.cell 3 _ z)) z (wY (Y.eql_i z z) z ?_)))))
  obtain ⟨aq, L, h⟩ := lt1 h
  refine WL.yE (ya z) (congrArg vB L.symm) z (nl (th (rt (At.inBlockR (At.thenR ?_)))))
  obtain rfl := some1 h
  have M : Stp [] (Lg.O0 A) w C a := (su_ d z)
  exact At.res (.inl z) z (.tmp z .nil) ⟨z, (se_ M z z)⟩
 ·refine WC.condF' z j (sq ?_)
  obtain ⟨aj, h, P⟩ := bnd h
  refine WC.join (σ := Bool) (fun x w' => x = aj ∧ a = w') (fun x => [(1, pt D 0), (10, vB x)]) ?_ ?_
  ·refine sq (rg (wY (Y.eql_i z z) z ?_))
   obtain ⟨ak, Q, h⟩ := lt1 h
   refine WL.yE (ya z) (congrArg vB Q.symm) z (nl (th ?_))
   rcases cnd h with ⟨l, h⟩ | ⟨l, h⟩
   ·refine WC.condT' z l (sk ?_)
    exact At.join (σ := Bool) ak ⟨some1 h, z⟩ (.cons z (.cons z .nil))
   ·refine WC.condF' z l (sq (rg (wY (Y.eql_i z z) z ?_)))
    obtain ⟨al, S, h⟩ := lt1 h
    refine WL.yE (ya z) (congrArg vB S.symm) z (nl (th ?_))
    rcases cnd h with ⟨m, h⟩ | ⟨m, h⟩
    ·refine WC.condT' z m (sk ?_)
     exact At.join (σ := Bool) al ⟨some1 h, z⟩ (.cons z (.cons z .nil))
    ·refine WC.condF' z m (sq (rg (wY (Y.eql_i z z) z ?_)))
     obtain ⟨am, T, h⟩ := lt1 h
     refine WL.yE (ya z) (congrArg vB T.symm) z (nl (th ?_))
     rcases cnd h with ⟨o, h⟩ | ⟨o, h⟩
     ·refine WC.condT' z o (sk ?_)
      exact At.join (σ := Bool) am ⟨some1 h, z⟩ (.cons z (.cons z .nil))
     ·refine WC.condF' z o (rg (wY (Y.eql_i z z) z ?_))
      obtain ⟨an, U, h⟩ := lt1 h
      refine WL.yE (ya z) (congrArg vB U.symm) z (nl ?_)
      exact At.join (σ := Bool) an ⟨some1 h, z⟩ (.cons z (.cons z .nil))
  ·rintro ao _ ⟨rfl, rfl⟩
   replace h := P
   try dsimp only at h
   refine (show At _ _ _ [(1, pt D 0), (10, vB ao)] _ from ?_)
   refine th ?_
   rcases cnd h with ⟨r, h⟩ | ⟨r, h⟩
   ·refine WC.condT' z r (sq (rg (wY (yf fo37_3 z) z (wY (yl ty3 z z (e.cell 3 _ z)) z (wY (Y.eql_i z z) z (wY (ym z) z ?_))))))
    refine WL.cut 4 (σ := Unit) (fun _ w' => a = w') (fun _ => [(22, vB ((decide (a0.Temp = 1)) || (decide (a0.Temp = 2))))]) ?_ ?_
    ·refine WL.part 18 z (fun t => ?_) (fun t => ?_)
     ·refine WL.gS z z z z (WL.gS z z z z (WL.gS z z z z (wY (Y.pick (b := true) z z) z (WL.ren (v' := vB ((decide (a0.Temp = 1)) || (decide (a0.Temp = 2)))) 22 z (congrArg vB (orT t)) ?_))))
      exact nl (At.join () z (.cons z .nil))
     ·refine ug z z (wY (yf fo37_3 z) z (ug z z (wY (yl ty3 z z (e.cell 3 _ z)) z (ug z z (wY (Y.eql_i z z) z (wY (Y.pick (b := false) z z) z (WL.ren (v' := vB ((decide (a0.Temp = 1)) || (decide (a0.Temp = 2)))) 22 z (congrArg vB (orF t)) ?_)))))))
      exact nl (At.join () z (.cons z .nil))
    ·rintro _ _ rfl
     refine (show WL _ _ _ _ _ [(22, vB ((decide (a0.Temp = 1)) || (decide (a0.Temp = 2))))] _ from ?_)
     obtain ⟨ar, V, h⟩ := lt1 h
     refine WL.yE (ya z) (congrArg vB V.symm) z (nl (th (rt (At.inBlockR (At.thenR ?_)))))
     obtain rfl := some1 h
     have W : Stp [] (Lg.O0 A) w C a := (su_ d z)
     exact At.res (.inl z) z (.tmp z .nil) ⟨z, (se_ W z z)⟩
   ·refine WC.condF' z r (sk (At.inBlock (th (sq (rg (wY (ya z) z (nl (th (rt ?_)))))))))
    obtain rfl := some1 h
    have X : Stp [] (Lg.O0 A) w C a := (su_ d z)
    exact At.res (.inl z) z (.tmp z .nil) ⟨z, (se_ X z z)⟩
theorem c_point_sum {A : Nat → Prop} {v0_1 : Value} {v0_13 : Value} {v0_15 : Value} {a0 : api_Point} {w : World} (hs0_1 : Sl rep_api_Pair w A v0_1 a0.Attrs) (hs0_13 : Sl Rep.u w A v0_13 a0.Hist.Pos.Counts) (hs0_15 : Sl Rep.u w A v0_15 a0.Hist.Neg.Counts) {r0 : Bool} (h : point_sum a0 = some r0) : Rets Try.prog 37 [ag [vs a0.Name, v0_1, vi a0.Kind, vi a0.Temp, vB a0.Mono, vi a0.Start, vi a0.Time, vi a0.Int_, vu a0.Re, vu a0.Im, vi a0.Hist.Scale, vu a0.Hist.Zero, vi a0.Hist.Pos.Offset, v0_13, vi a0.Hist.Neg.Offset, v0_15, vi a0.Flags]] w (fun v w' => v = vB r0 ∧ Ext w w') := by
 unfold point_sum at h
 refine Rets.enter Try.func37 z z ?_
 have l : Sl rep_api_Pair w (imm (Lg.O0 A)) v0_1 a0.Attrs := (Sl.start hs0_1)
 have m : Sl Rep.u w (imm (Lg.O0 A)) v0_13 a0.Hist.Pos.Counts := (Sl.start hs0_13)
 have o : Sl Rep.u w (imm (Lg.O0 A)) v0_15 a0.Hist.Neg.Counts := (Sl.start hs0_15)
 refine (show WC _ _ _ _ [(0, ag [vs a0.Name, v0_1, vi a0.Kind, vi a0.Temp, vB a0.Mono, vi a0.Start, vi a0.Time, vi a0.Int_, vu a0.Re, vu a0.Im, vi a0.Hist.Scale, vu a0.Hist.Zero, vi a0.Hist.Pos.Offset, v0_13, vi a0.Hist.Neg.Offset, v0_15, vi a0.Flags])] _ from ?_)
 refine sq (rg ?_)
 have r := h
 obtain ⟨F, G, H, rfl⟩ := l.shape
 have h := r
 have t := h
 obtain ⟨I, J, K, rfl⟩ := m.shape
 have h := t
 have C := h
 obtain ⟨L, M, P, rfl⟩ := o.shape
 have h := C
 refine WL.box (O := (Lg.O0 A)) 11 [vs a0.Name, (Value.slice F G H), vi a0.Kind, vi a0.Temp, vB a0.Mono, vi a0.Start, vi a0.Time, vi a0.Int_, vu a0.Re, vu a0.Im, vi a0.Hist.Scale, vu a0.Hist.Zero, vi a0.Hist.Pos.Offset, (Value.slice I J K), vi a0.Hist.Neg.Offset, (Value.slice L M P), vi a0.Flags] z z z ?_
 intro S Q d j e
 refine wY (ya z) z (nl (th (sq (rg (wY (yf fo37_2 z) z (wY (yl ty3 z z (e.cell 2 _ z)) z (wY (Y.eql_i z z) z (wY (ym z) z ?_))))))))
 refine WL.cut 4 (σ := Unit) (fun _ w' => d = w') (fun _ => [(10, vB ((decide (a0.Kind = 1)) || (decide (a0.Kind = 2))))]) ?_ ?_
 ·refine WL.part 6 z (fun a => ?_) (fun a => ?_)
  ·refine WL.gS z z z z (WL.gS z z z z (WL.gS z z z z (wY (Y.pick (b := true) z z) z (WL.ren (v' := vB ((decide (a0.Kind = 1)) || (decide (a0.Kind = 2)))) 10 z (congrArg vB (orT a)) ?_))))
   exact nl (At.join () z (.cons z .nil))
  ·refine ug z z (wY (yf fo37_2 z) z (ug z z (wY (yl ty3 z z (e.cell 2 _ z)) z (ug z z (wY (Y.eql_i z z) z (wY (Y.pick (b := false) z z) z (WL.ren (v' := vB ((decide (a0.Kind = 1)) || (decide (a0.Kind = 2)))) 10 z (congrArg vB (orF a)) ?_)))))))
   exact nl (At.join () z (.cons z .nil))
 ·rintro _ _ rfl
  refine (show WL _ _ _ _ _ [(10, vB ((decide (a0.Kind = 1)) || (decide (a0.Kind = 2))))] _ from ?_)
  obtain ⟨T, D, h⟩ := lt1 h
  refine WL.yE (ya z) (congrArg vB D.symm) z (nl (th (rt ?_)))
  obtain rfl := some1 h
  have E : Stp [] (Lg.O0 A) w Q d := (su_ j z)
  exact At.res (.inl z) z (.tmp z .nil) ⟨z, (se_ E z z)⟩
theorem c_point_times {A : Nat → Prop} {v0_1 : Value} {v0_13 : Value} {v0_15 : Value} {a0 : api_Point} {w : World} (hs0_1 : Sl rep_api_Pair w A v0_1 a0.Attrs) (hs0_13 : Sl Rep.u w A v0_13 a0.Hist.Pos.Counts) (hs0_15 : Sl Rep.u w A v0_15 a0.Hist.Neg.Counts) {r0 : Bool} (h : point_times a0 = some r0) : Rets Try.prog 38 [ag [vs a0.Name, v0_1, vi a0.Kind, vi a0.Temp, vB a0.Mono, vi a0.Start, vi a0.Time, vi a0.Int_, vu a0.Re, vu a0.Im, vi a0.Hist.Scale, vu a0.Hist.Zero, vi a0.Hist.Pos.Offset, v0_13, vi a0.Hist.Neg.Offset, v0_15, vi a0.Flags]] w (fun v w' => v = vB r0 ∧ Ext w w') := by
 unfold point_times at h
 refine Rets.enter Try.func38 z z ?_
 have t : Sl rep_api_Pair w (imm (Lg.O0 A)) v0_1 a0.Attrs := (Sl.start hs0_1)
 have C : Sl Rep.u w (imm (Lg.O0 A)) v0_13 a0.Hist.Pos.Counts := (Sl.start hs0_13)
 have D : Sl Rep.u w (imm (Lg.O0 A)) v0_15 a0.Hist.Neg.Counts := (Sl.start hs0_15)
 refine (show WC _ _ _ _ [(0, ag [vs a0.Name, v0_1, vi a0.Kind, vi a0.Temp, vB a0.Mono, vi a0.Start, vi a0.Time, vi a0.Int_, vu a0.Re, vu a0.Im, vi a0.Hist.Scale, vu a0.Hist.Zero, vi a0.Hist.Pos.Offset, v0_13, vi a0.Hist.Neg.Offset, v0_15, vi a0.Flags])] _ from ?_)
 refine sq (rg ?_)
 have E := h
 obtain ⟨M, P, Q, rfl⟩ := t.shape
 have h := E
 have F := h
 obtain ⟨S, T, U, rfl⟩ := C.shape
 have h := F
 have G := h
 obtain ⟨V, W, X, rfl⟩ := D.shape
 have h := G
 refine WL.box (O := (Lg.O0 A)) 11 [vs a0.Name, (Value.slice M P Q), vi a0.Kind, vi a0.Temp, vB a0.Mono, vi a0.Start, vi a0.Time, vi a0.Int_, vu a0.Re, vu a0.Im, vi a0.Hist.Scale, vu a0.Hist.Zero, vi a0.Hist.Pos.Offset, (Value.slice S T U), vi a0.Hist.Neg.Offset, (Value.slice V W X), vi a0.Flags] z z z ?_
 intro r o d e a
 refine wY (ya z) z (nl (th (sq (sq (rg (wY (yf fo37_5 z) z (wY (yl ty3 z z (a.cell 5 _ z)) z (wY (Y.lss_i z z) z (wY (ym z) z ?_)))))))))
 refine WL.cut 4 (σ := Unit) (fun _ w' => d = w') (fun _ => [(1, pt r 0), (10, vB ((decide (a0.Start < 0)) || (decide (4503599627370496 < a0.Time))))]) ?_ ?_
 ·refine WL.part 6 z (fun j => ?_) (fun j => ?_)
  ·refine WL.gS z z z z (WL.gS z z z z (WL.gS z z z z (wY (Y.pick (b := true) z z) z (WL.ren (v' := vB ((decide (a0.Start < 0)) || (decide (4503599627370496 < a0.Time)))) 10 z (congrArg vB (orT j)) ?_))))
   exact nl (At.join () z (.cons z (.cons z .nil)))
  ·refine ug z z (wY (yf fo37_6 z) z (ug z z (wY (yl ty3 z z (a.cell 6 _ z)) z (ug z z (wY (Y.gtr_i z z) z (wY (Y.pick (b := false) z z) z (WL.ren (v' := vB ((decide (a0.Start < 0)) || (decide (4503599627370496 < a0.Time)))) 10 z (congrArg vB (orF j)) ?_)))))))
   exact nl (At.join () z (.cons z (.cons z .nil)))
 ·rintro _ _ rfl
  refine (show WL _ _ _ _ _ [(1, pt r 0), (10, vB ((decide (a0.Start < 0)) || (decide (4503599627370496 < a0.Time))))] _ from ?_)
  refine nl (th ?_)
  rcases cnd h with ⟨l, h⟩ | ⟨l, h⟩
  ·refine WC.condT' z l (sq (rg (wY (ya z) z (nl (th (rt (At.thenR ?_)))))))
   obtain rfl := some1 h
   have H : Stp [] (Lg.O0 A) w o d := (su_ e z)
   exact At.res (.inl z) z (.tmp z .nil) ⟨z, (se_ H z z)⟩
  ·refine WC.condF' z l (sk (th (sq (sq (rg (wY (yf fo37_2 z) z (wY (yl ty3 z z (a.cell 2 _ z)) z (wY (Y.eql_i z z) z (nl ?_)))))))))
   refine th ?_
   rcases cnd h with ⟨m, h⟩ | ⟨m, h⟩
   ·refine WC.condT' z m (sq (rg (wY (yf fo37_5 z) z (wY (yl ty3 z z (a.cell 5 _ z)) z (wY (yf fo37_6 z) z (wY (yl ty3 z z (a.cell 6 _ z)) z (wY (Y.eql_i z z) z ?_)))))))
    obtain ⟨Z, I, h⟩ := lt1 h
    refine WL.yE (ya z) (congrArg vB I.symm) z (nl (th (rt (At.thenR ?_))))
    obtain rfl := some1 h
    have J : Stp [] (Lg.O0 A) w o d := (su_ e z)
    exact At.res (.inl z) z (.tmp z .nil) ⟨z, (se_ J z z)⟩
   ·refine WC.condF' z m (sk (th (sq (rg (wY (yf fo37_5 z) z (wY (yl ty3 z z (a.cell 5 _ z)) z (wY (yf fo37_6 z) z (wY (yl ty3 z z (a.cell 6 _ z)) z (wY (Y.lss_i z z) z ?_)))))))))
    obtain ⟨aa, K, h⟩ := lt1 h
    refine WL.yE (ya z) (congrArg vB K.symm) z (nl (th (rt ?_)))
    obtain rfl := some1 h
    have L : Stp [] (Lg.O0 A) w o d := (su_ e z)
    exact At.res (.inl z) z (.tmp z .nil) ⟨z, (se_ L z z)⟩
theorem c_point_bare {A : Nat → Prop} {v0_3 : Value} {v0_5 : Value} {a0 : api_Hist} {w : World} (hs0_3 : Sl Rep.u w A v0_3 a0.Pos.Counts) (hs0_5 : Sl Rep.u w A v0_5 a0.Neg.Counts) {r0 : Bool} (h : point_bare a0 = some r0) : Rets Try.prog 71 [ag [vi a0.Scale, vu a0.Zero, vi a0.Pos.Offset, v0_3, vi a0.Neg.Offset, v0_5]] w (fun v w' => v = vB r0 ∧ Ext w w') := by
 unfold point_bare at h
 refine Rets.enter Try.func71 z z ?_
 have t : Sl Rep.u w (imm (Lg.O0 A)) v0_3 a0.Pos.Counts := (Sl.start hs0_3)
 have C : Sl Rep.u w (imm (Lg.O0 A)) v0_5 a0.Neg.Counts := (Sl.start hs0_5)
 refine (show WC _ _ _ _ [(0, ag [vi a0.Scale, vu a0.Zero, vi a0.Pos.Offset, v0_3, vi a0.Neg.Offset, v0_5])] _ from ?_)
 refine sq (rg ?_)
 have D := h
 obtain ⟨J, K, L, rfl⟩ := t.shape
 have h := D
 have E := h
 obtain ⟨M, P, Q, rfl⟩ := C.shape
 have h := E
 refine WL.box (O := (Lg.O0 A)) 11 [vi a0.Scale, vu a0.Zero, vi a0.Pos.Offset, (Value.slice J K L), vi a0.Neg.Offset, (Value.slice M P Q)] z z z ?_
 intro e S d j a
 refine wY (ya z) z (nl (th (sq (rg (wY (yf fo30_0 z) z (wY (yl ty3 z z (a.cell 0 _ z)) z (wY (Y.eql_i z z) z (wY (ym z) z ?_))))))))
 refine WL.cut 4 (σ := Unit) (fun _ w' => d = w') (fun _ => [(1, pt e 0), (10, vB ((decide (a0.Scale = 0)) && (decide (a0.Zero = 0))))]) ?_ ?_
 ·refine WL.part 6 z (fun l => ?_) (fun l => ?_)
  ·refine ug z z (wY (yf fo30_1 z) z (ug z z (wY (yl ty25 z z (a.cell 1 _ z)) z (ug z z (wY (Y.eql_u (b := 0) z z) z (wY (Y.pick (b := true) z z) z (WL.ren (v' := vB ((decide (a0.Scale = 0)) && (decide (a0.Zero = 0)))) 10 z (congrArg vB (andT l)) ?_)))))))
   exact nl (At.join () z (.cons z (.cons z .nil)))
  ·refine WL.gS z z z z (WL.gS z z z z (WL.gS z z z z (wY (Y.pick (b := false) z z) z (WL.ren (v' := vB ((decide (a0.Scale = 0)) && (decide (a0.Zero = 0)))) 10 z (congrArg vB (andF l)) ?_))))
   exact nl (At.join () z (.cons z (.cons z .nil)))
 ·rintro _ _ rfl
  refine (show WL _ _ _ _ _ [(1, pt e 0), (10, vB ((decide (a0.Scale = 0)) && (decide (a0.Zero = 0))))] _ from ?_)
  refine wY (ym z) z ?_
  refine WL.cut 5 (σ := Unit) (fun _ w' => d = w') (fun _ => [(1, pt e 0), (16, vB (((decide (a0.Scale = 0)) && (decide (a0.Zero = 0))) && (decide (a0.Pos.Offset = 0))))]) ?_ ?_
  ·refine WL.part 11 z (fun m => ?_) (fun m => ?_)
   ·refine ug z z (wY (yf fo30_2 z) z (ug z z (wY (yf fo28_0 z) z (ug z z (wY (yl ty3 z z (a.cell 2 _ z)) z (ug z z (wY (Y.eql_i z z) z (wY (Y.pick (b := true) z z) z (WL.ren (v' := vB (((decide (a0.Scale = 0)) && (decide (a0.Zero = 0))) && (decide (a0.Pos.Offset = 0)))) 16 z (congrArg vB (andT m)) ?_)))))))))
    exact nl (At.join () z (.cons z (.cons z .nil)))
   ·refine WL.gS z z z z (WL.gS z z z z (WL.gS z z z z (WL.gS z z z z (wY (Y.pick (b := false) z z) z (WL.ren (v' := vB (((decide (a0.Scale = 0)) && (decide (a0.Zero = 0))) && (decide (a0.Pos.Offset = 0)))) 16 z (congrArg vB (andF m)) ?_)))))
    exact nl (At.join () z (.cons z (.cons z .nil)))
  ·rintro _ _ rfl
   refine (show WL _ _ _ _ _ [(1, pt e 0), (16, vB (((decide (a0.Scale = 0)) && (decide (a0.Zero = 0))) && (decide (a0.Pos.Offset = 0))))] _ from ?_)
   refine wY (ym z) z ?_
   refine WL.cut 5 (σ := Unit) (fun _ w' => d = w') (fun _ => [(1, pt e 0), (22, vB ((((decide (a0.Scale = 0)) && (decide (a0.Zero = 0))) && (decide (a0.Pos.Offset = 0))) && (decide (a0.Neg.Offset = 0))))]) ?_ ?_
   ·refine WL.part 17 z (fun o => ?_) (fun o => ?_)
    ·refine ug z z (wY (yf fo30_3 z) z (ug z z (wY (yf fo28_0 z) z (ug z z (wY (yl ty3 z z (a.cell 4 _ z)) z (ug z z (wY (Y.eql_i z z) z (wY (Y.pick (b := true) z z) z (WL.ren (v' := vB ((((decide (a0.Scale = 0)) && (decide (a0.Zero = 0))) && (decide (a0.Pos.Offset = 0))) && (decide (a0.Neg.Offset = 0)))) 22 z (congrArg vB (andT o)) ?_)))))))))
     exact nl (At.join () z (.cons z (.cons z .nil)))
    ·refine WL.gS z z z z (WL.gS z z z z (WL.gS z z z z (WL.gS z z z z (wY (Y.pick (b := false) z z) z (WL.ren (v' := vB ((((decide (a0.Scale = 0)) && (decide (a0.Zero = 0))) && (decide (a0.Pos.Offset = 0))) && (decide (a0.Neg.Offset = 0)))) 22 z (congrArg vB (andF o)) ?_)))))
     exact nl (At.join () z (.cons z (.cons z .nil)))
   ·rintro _ _ rfl
    refine (show WL _ _ _ _ _ [(1, pt e 0), (22, vB ((((decide (a0.Scale = 0)) && (decide (a0.Zero = 0))) && (decide (a0.Pos.Offset = 0))) && (decide (a0.Neg.Offset = 0))))] _ from ?_)
    refine wY (ym z) z ?_
    refine WL.cut 11 (σ := Unit) (fun _ w' => d = w') (fun _ => [(34, vB (((((decide (a0.Scale = 0)) && (decide (a0.Zero = 0))) && (decide (a0.Pos.Offset = 0))) && (decide (a0.Neg.Offset = 0))) && (decide (w64 ((a0.Pos.Counts.length : Int) + (a0.Neg.Counts.length : Int)) = 0))))]) ?_ ?_
    ·refine WL.part 23 z (fun r => ?_) (fun r => ?_)
     ·refine ug z z (wY (yf fo30_2 z) z (ug z z (wY (yf fo28_1 z) z (ug z z (wY (yl ty26 z z (a.cell 3 _ z)) z (ug z z ?_))))))
      have F := t.i j z z
      refine wY (Y.len ty26 z F) z (ug z z (wY (yf fo30_3 z) z (ug z z (wY (yf fo28_1 z) z (ug z z (wY (yl ty26 z z (a.cell 5 _ z)) z (ug z z ?_)))))))
      have G := C.i j z z
      refine wY (Y.len ty26 z G) z (ug z z (wY (Y.add_i z z) z (ug z z (wY (Y.eql_i z z) z (wY (Y.pick (b := true) z z) z (WL.ren (v' := vB (((((decide (a0.Scale = 0)) && (decide (a0.Zero = 0))) && (decide (a0.Pos.Offset = 0))) && (decide (a0.Neg.Offset = 0))) && (decide (w64 ((a0.Pos.Counts.length : Int) + (a0.Neg.Counts.length : Int)) = 0)))) 34 z (congrArg vB (andT r)) ?_))))))
      exact nl (At.join () z (.cons z .nil))
     ·refine WL.gS z z z z (WL.gS z z z z (WL.gS z z z z (WL.gS z z z z (WL.gS z z z z (WL.gS z z z z (WL.gS z z z z (WL.gS z z z z (WL.gS z z z z (WL.gS z z z z ?_)))))))))
      refine wY (Y.pick (b := false) z z) z (WL.ren (v' := vB (((((decide (a0.Scale = 0)) && (decide (a0.Zero = 0))) && (decide (a0.Pos.Offset = 0))) && (decide (a0.Neg.Offset = 0))) && (decide (w64 ((a0.Pos.Counts.length : Int) + (a0.Neg.Counts.length : Int)) = 0)))) 34 z (congrArg vB (andF r)) ?_)
      exact nl (At.join () z (.cons z .nil))
    ·rintro _ _ rfl
     refine (show WL _ _ _ _ _ [(34, vB (((((decide (a0.Scale = 0)) && (decide (a0.Zero = 0))) && (decide (a0.Pos.Offset = 0))) && (decide (a0.Neg.Offset = 0))) && (decide (w64 ((a0.Pos.Counts.length : Int) + (a0.Neg.Counts.length : Int)) = 0))))] _ from ?_)
     obtain ⟨T, H, h⟩ := lt1 h
     refine WL.yE (ya z) (congrArg vB H.symm) z (nl (th (rt ?_)))
     obtain rfl := some1 h
     have I : Stp [] (Lg.O0 A) w S d := (su_ j z)
     exact At.res (.inl z) z (.tmp z .nil) ⟨z, (se_ I z z)⟩
theorem c_point_own {A : Nat → Prop} {v0_1 : Value} {v0_13 : Value} {v0_15 : Value} {a0 : api_Point} {w : World} (hs0_1 : Sl rep_api_Pair w A v0_1 a0.Attrs) (hs0_13 : Sl Rep.u w A v0_13 a0.Hist.Pos.Counts) (hs0_15 : Sl Rep.u w A v0_15 a0.Hist.Neg.Counts) {r0 : Bool} (h : point_own a0 = some r0) : Rets Try.prog 39 [ag [vs a0.Name, v0_1, vi a0.Kind, vi a0.Temp, vB a0.Mono, vi a0.Start, vi a0.Time, vi a0.Int_, vu a0.Re, vu a0.Im, vi a0.Hist.Scale, vu a0.Hist.Zero, vi a0.Hist.Pos.Offset, v0_13, vi a0.Hist.Neg.Offset, v0_15, vi a0.Flags]] w (fun v w' => v = vB r0 ∧ Ext w w') := by
 unfold point_own at h
 refine Rets.enter Try.func39 z z ?_
 have ai : Sl rep_api_Pair w (imm (Lg.O0 A)) v0_1 a0.Attrs := (Sl.start hs0_1)
 have W : Sl Rep.u w (imm (Lg.O0 A)) v0_13 a0.Hist.Pos.Counts := (Sl.start hs0_13)
 have X : Sl Rep.u w (imm (Lg.O0 A)) v0_15 a0.Hist.Neg.Counts := (Sl.start hs0_15)
 refine (show WC _ _ _ _ [(0, ag [vs a0.Name, v0_1, vi a0.Kind, vi a0.Temp, vB a0.Mono, vi a0.Start, vi a0.Time, vi a0.Int_, vu a0.Re, vu a0.Im, vi a0.Hist.Scale, vu a0.Hist.Zero, vi a0.Hist.Pos.Offset, v0_13, vi a0.Hist.Neg.Offset, v0_15, vi a0.Flags])] _ from ?_)
 refine sq (rg ?_)
 have aj := h
 obtain ⟨aI, aJ, aK, rfl⟩ := ai.shape
 have h := aj
 have ak := h
 obtain ⟨Z, aa, ab, rfl⟩ := W.shape
 have h := ak
 have al := h
 obtain ⟨ac, ad, ae, rfl⟩ := X.shape
 have h := al
 refine WL.box (O := (Lg.O0 A)) 11 [vs a0.Name, (Value.slice aI aJ aK), vi a0.Kind, vi a0.Temp, vB a0.Mono, vi a0.Start, vi a0.Time, vi a0.Int_, vu a0.Re, vu a0.Im, vi a0.Hist.Scale, vu a0.Hist.Zero, vi a0.Hist.Pos.Offset, (Value.slice Z aa ab), vi a0.Hist.Neg.Offset, (Value.slice ac ad ae), vi a0.Flags] z z z ?_
 intro l o d a j
 refine wY (ya z) z (nl (th (sq (rg (wY (yf fo37_2 z) z (wY (yl ty3 z z (j.cell 2 _ z)) z (wY (Y.eql_i z z) z (wY (ym z) z ?_))))))))
 refine WL.cut 4 (σ := Unit) (fun _ w' => d = w') (fun _ => [(1, pt l 0), (11, vB ((decide (a0.Kind = 2)) || (decide (a0.Kind = 3))))]) ?_ ?_
 ·refine WL.part 7 z (fun t => ?_) (fun t => ?_)
  ·refine WL.gS z z z z (WL.gS z z z z (WL.gS z z z z (wY (Y.pick (b := true) z z) z (WL.ren (v' := vB ((decide (a0.Kind = 2)) || (decide (a0.Kind = 3)))) 11 z (congrArg vB (orT t)) ?_))))
   exact nl (At.join () z (.cons z (.cons z .nil)))
  ·refine ug z z (wY (yf fo37_2 z) z (ug z z (wY (yl ty3 z z (j.cell 2 _ z)) z (ug z z (wY (Y.eql_i z z) z (wY (Y.pick (b := false) z z) z (WL.ren (v' := vB ((decide (a0.Kind = 2)) || (decide (a0.Kind = 3)))) 11 z (congrArg vB (orF t)) ?_)))))))
   exact nl (At.join () z (.cons z (.cons z .nil)))
 ·rintro _ _ rfl
  refine (show WL _ _ _ _ _ [(1, pt l 0), (11, vB ((decide (a0.Kind = 2)) || (decide (a0.Kind = 3))))] _ from ?_)
  refine wY (ym z) z ?_
  refine WL.cut 4 (σ := Unit) (fun _ w' => d = w') (fun _ => [(1, pt l 0), (16, vB (((decide (a0.Kind = 2)) || (decide (a0.Kind = 3))) || (decide (a0.Kind = 5))))]) ?_ ?_
  ·refine WL.part 12 z (fun C => ?_) (fun C => ?_)
   ·refine WL.gS z z z z (WL.gS z z z z (WL.gS z z z z (wY (Y.pick (b := true) z z) z (WL.ren (v' := vB (((decide (a0.Kind = 2)) || (decide (a0.Kind = 3))) || (decide (a0.Kind = 5)))) 16 z (congrArg vB (orT C)) ?_))))
    exact nl (At.join () z (.cons z (.cons z .nil)))
   ·refine ug z z (wY (yf fo37_2 z) z (ug z z (wY (yl ty3 z z (j.cell 2 _ z)) z (ug z z (wY (Y.eql_i z z) z (wY (Y.pick (b := false) z z) z (WL.ren (v' := vB (((decide (a0.Kind = 2)) || (decide (a0.Kind = 3))) || (decide (a0.Kind = 5)))) 16 z (congrArg vB (orF C)) ?_)))))))
    exact nl (At.join () z (.cons z (.cons z .nil)))
  ·rintro _ _ rfl
   refine (show WL _ _ _ _ _ [(1, pt l 0), (16, vB (((decide (a0.Kind = 2)) || (decide (a0.Kind = 3))) || (decide (a0.Kind = 5))))] _ from ?_)
   obtain ⟨e, D, h⟩ := lt1 h
   refine WL.yE (ya z) (congrArg vB D.symm) z (nl (th (sq (WC.block (sq (sq (rg (wY (yf fo37_2 z) z (wY (yl ty3 z z (j.cell 2 _ z)) z ?_)))))))))
   refine wY (Y.neq_i z z) z (wY (ym z) z ?_)
   refine WL.cut 4 (σ := Unit) (fun _ w' => d = w') (fun _ => [(1, pt l 0), (3, vB e), (25, vB ((!decide (a0.Kind = 1)) && (!decide (a0.Int_ = 0))))]) ?_ ?_
   ·refine WL.part 21 z (fun E => ?_) (fun E => ?_)
    ·refine ug z z (wY (yf fo37_7 z) z (ug z z (wY (yl ty3 z z (j.cell 7 _ z)) z (ug z z (wY (Y.neq_i z z) z (wY (Y.pick (b := true) z z) z (WL.ren (v' := vB ((!decide (a0.Kind = 1)) && (!decide (a0.Int_ = 0)))) 25 z (congrArg vB (andT E)) ?_)))))))
     exact nl (At.join () z (.cons z (.cons z (.cons z .nil))))
    ·refine WL.gS z z z z (WL.gS z z z z (WL.gS z z z z (wY (Y.pick (b := false) z z) z (WL.ren (v' := vB ((!decide (a0.Kind = 1)) && (!decide (a0.Int_ = 0)))) 25 z (congrArg vB (andF E)) ?_))))
     exact nl (At.join () z (.cons z (.cons z (.cons z .nil))))
   ·rintro _ _ rfl
    refine (show WL _ _ _ _ _ [(1, pt l 0), (3, vB e), (25, vB ((!decide (a0.Kind = 1)) && (!decide (a0.Int_ = 0))))] _ from ?_)
    obtain ⟨aT, am, h⟩ := lt1 h
    refine WL.yE (ya z) (congrArg vB am.symm) z (nl (th ?_))
    rcases cnd h with ⟨F, h⟩ | ⟨F, h⟩
    ·refine WC.condT' z F (sk (th ?_))
     rcases cnd h with ⟨G, h⟩ | ⟨G, h⟩
     ·refine WC.condT' z G (sq (rg (wY (ya z) z (nl (th (rt (At.inBlockR (At.thenR ?_))))))))
      obtain rfl := some1 h
      have an : Stp [] (Lg.O0 A) w o d := (su_ a z)
      exact At.res (.inl z) z (.tmp z .nil) ⟨z, (se_ an z z)⟩
     ·refine WC.condF' z G (sk (At.inBlock (th (sq (rg (wY (ya z) z (nl (th (rt ?_)))))))))
      obtain rfl := some1 h
      have ao : Stp [] (Lg.O0 A) w o d := (su_ a z)
      exact At.res (.inl z) z (.tmp z .nil) ⟨z, (se_ ao z z)⟩
    ·refine WC.condF' z F (sq (rg (wY (ym z) z (wY (Y.not z) z (wY (ym z) z ?_)))))
     refine WL.cut 4 (σ := Unit) (fun _ w' => d = w') (fun _ => [(1, pt l 0), (32, vB ((!e) && (!decide (a0.Re = 0))))]) ?_ ?_
     ·refine WL.part 28 z (fun H => ?_) (fun H => ?_)
      ·refine ug z z (wY (yf fo37_8 z) z (ug z z (wY (yl ty25 z z (j.cell 8 _ z)) z (ug z z (wY (Y.neq_u (b := 0) z z) z (wY (Y.pick (b := true) z z) z (WL.ren (v' := vB ((!e) && (!decide (a0.Re = 0)))) 32 z (congrArg vB (andT H)) ?_)))))))
       exact nl (At.join () z (.cons z (.cons z .nil)))
      ·refine WL.gS z z z z (WL.gS z z z z (WL.gS z z z z (wY (Y.pick (b := false) z z) z (WL.ren (v' := vB ((!e) && (!decide (a0.Re = 0)))) 32 z (congrArg vB (andF H)) ?_))))
       exact nl (At.join () z (.cons z (.cons z .nil)))
     ·rintro _ _ rfl
      refine (show WL _ _ _ _ _ [(1, pt l 0), (32, vB ((!e) && (!decide (a0.Re = 0))))] _ from ?_)
      obtain ⟨aU, ap, h⟩ := lt1 h
      refine WL.yE (ya z) (congrArg vB ap.symm) z (nl (th ?_))
      rcases cnd h with ⟨I, h⟩ | ⟨I, h⟩
      ·refine WC.condT' z I (sk (th ?_))
       rcases cnd h with ⟨J, h⟩ | ⟨J, h⟩
       ·refine WC.condT' z J (sq (rg (wY (ya z) z (nl (th (rt (At.inBlockR (At.thenR ?_))))))))
        obtain rfl := some1 h
        have aq : Stp [] (Lg.O0 A) w o d := (su_ a z)
        exact At.res (.inl z) z (.tmp z .nil) ⟨z, (se_ aq z z)⟩
       ·refine WC.condF' z J (sk (At.inBlock (th (sq (rg (wY (ya z) z (nl (th (rt ?_)))))))))
        obtain rfl := some1 h
        have ar : Stp [] (Lg.O0 A) w o d := (su_ a z)
        exact At.res (.inl z) z (.tmp z .nil) ⟨z, (se_ ar z z)⟩
      ·refine WC.condF' z I (sq (rg (wY (yf fo37_2 z) z (wY (yl ty3 z z (j.cell 2 _ z)) z (wY (Y.neq_i z z) z (wY (ym z) z ?_))))))
       refine WL.cut 4 (σ := Unit) (fun _ w' => d = w') (fun _ => [(1, pt l 0), (40, vB ((!decide (a0.Kind = 5)) && (!decide (a0.Im = 0))))]) ?_ ?_
       ·refine WL.part 36 z (fun K => ?_) (fun K => ?_)
        ·refine ug z z (wY (yf fo37_9 z) z (ug z z (wY (yl ty25 z z (j.cell 9 _ z)) z (ug z z (wY (Y.neq_u (b := 0) z z) z (wY (Y.pick (b := true) z z) z (WL.ren (v' := vB ((!decide (a0.Kind = 5)) && (!decide (a0.Im = 0)))) 40 z (congrArg vB (andT K)) ?_)))))))
         exact nl (At.join () z (.cons z (.cons z .nil)))
        ·refine WL.gS z z z z (WL.gS z z z z (WL.gS z z z z (wY (Y.pick (b := false) z z) z (WL.ren (v' := vB ((!decide (a0.Kind = 5)) && (!decide (a0.Im = 0)))) 40 z (congrArg vB (andF K)) ?_))))
         exact nl (At.join () z (.cons z (.cons z .nil)))
       ·rintro _ _ rfl
        refine (show WL _ _ _ _ _ [(1, pt l 0), (40, vB ((!decide (a0.Kind = 5)) && (!decide (a0.Im = 0))))] _ from ?_)
        obtain ⟨aW, au, h⟩ := lt1 h
        refine WL.yE (ya z) (congrArg vB au.symm) z (nl (th ?_))
        rcases cnd h with ⟨L, h⟩ | ⟨L, h⟩
        ·refine WC.condT' z L (sk (th ?_))
         rcases cnd h with ⟨M, h⟩ | ⟨M, h⟩
         ·refine WC.condT' z M (sq (rg (wY (ya z) z (nl (th (rt (At.inBlockR (At.thenR ?_))))))))
          obtain rfl := some1 h
          have av : Stp [] (Lg.O0 A) w o d := (su_ a z)
          exact At.res (.inl z) z (.tmp z .nil) ⟨z, (se_ av z z)⟩
         ·refine WC.condF' z M (sk (At.inBlock (th (sq (rg (wY (ya z) z (nl (th (rt ?_)))))))))
          obtain rfl := some1 h
          have aw : Stp [] (Lg.O0 A) w o d := (su_ a z)
          exact At.res (.inl z) z (.tmp z .nil) ⟨z, (se_ aw z z)⟩
        ·refine WC.condF' z L (sq (rg (wY (yf fo37_2 z) z (wY (yl ty3 z z (j.cell 2 _ z)) z (wY (Y.neq_i z z) z (wY (ym z) z ?_))))))
         obtain ⟨aL, h, ax⟩ := bnd h
         refine WL.cut 5 (σ := (Bool × Own)) (fun x w' => x.1 = aL ∧ Stp [] o d x.2 w') (fun x => [(1, pt l 0), (49, vB x.1)]) ?_ ?_
         ·rcases cnd h with ⟨P, h⟩ | ⟨P, h⟩
          ·refine WL.ren 44 z (congrArg vB P) (ug z z (wY (yf fo37_10 z) z (ug z z (wY (yL ty30 z z (j.cells 10 [vi a0.Hist.Scale, vu a0.Hist.Zero, vi a0.Hist.Pos.Offset, (Value.slice Z aa ab), vi a0.Hist.Neg.Offset, (Value.slice ac ad ae)] z) z) z (ug z z ?_)))))
           have ay := W.i a z z
           have az := X.i a z z
           obtain ⟨aM, aA, h⟩ := bnd h
           refine WL.call (vals := [ag [vi a0.Hist.Scale, vu a0.Hist.Zero, vi a0.Hist.Pos.Offset, (Value.slice Z aa ab), vi a0.Hist.Neg.Offset, (Value.slice ac ad ae)]]) kok71 z z (c_point_bare (A := fun _ => True) (a0 := a0.Hist) (Sl.all ay) (Sl.all az) aA) ?_
           rintro aR aS ⟨rfl, aC⟩
           obtain ⟨aN, aO, aP, ah⟩ := adoptE o (fun k => 1) aC
           refine ug z z (wY (Y.not z) z (wY (Y.pick (b := true) z z) z ?_))
           exact nl (At.join (σ := (Bool × Own)) ((!aM), aN) ⟨some1 h, (su_ ah z)⟩ (.cons z (.cons z .nil)))
          ·refine WL.ren 44 z (congrArg vB P) (WL.gS z z z z (WL.gS z z z z (WL.gS z z z z (WL.gS z z z z (wY (Y.pick (b := false) z z) z ?_)))))
           exact nl (At.join (σ := (Bool × Own)) (false, o) ⟨some1 h, (sr_ _ _ _)⟩ (.cons z (.cons z .nil)))
         ·rintro ⟨aQ, V⟩ r ⟨rfl, m⟩
          replace h := ax
          try dsimp only at h m
          refine (show WL _ _ _ _ _ [(1, pt l 0), (49, vB aQ)] _ from ?_)
          refine wY (ya z) z (nl (th ?_))
          rcases cnd h with ⟨Q, h⟩ | ⟨Q, h⟩
          ·refine WC.condT' z Q (sk (th ?_))
           rcases cnd h with ⟨S, h⟩ | ⟨S, h⟩
           ·refine WC.condT' z S (sq (rg (wY (ya z) z (nl (th (rt (At.inBlockR (At.thenR ?_))))))))
            obtain rfl := some1 h
            have aD : Stp [] (Lg.O0 A) w V r := (tr_ (su_ a z) (su_ m z))
            exact At.res (.inl z) z (.tmp z .nil) ⟨z, (se_ aD z z)⟩
           ·refine WC.condF' z S (sk (At.inBlock (th (sq (rg (wY (ya z) z (nl (th (rt ?_)))))))))
            obtain rfl := some1 h
            have aE : Stp [] (Lg.O0 A) w V r := (tr_ (su_ a z) (su_ m z))
            exact At.res (.inl z) z (.tmp z .nil) ⟨z, (se_ aE z z)⟩
          ·refine WC.condF' z Q (rg (wY (yf fo37_11 z) z ?_))
           have af := j.st m z
           refine wY (yl ty3 z z (af.cell 16 _ z)) z (wY (Y.lss_i z z) z (wY (ym z) z ?_))
           refine WL.cut 4 (σ := Unit) (fun _ w' => r = w') (fun _ => [(57, vB ((decide (a0.Flags < 0)) || (decide (31 < a0.Flags))))]) ?_ ?_
           ·refine WL.part 53 z (fun T => ?_) (fun T => ?_)
            ·refine WL.gS z z z z (WL.gS z z z z (WL.gS z z z z (wY (Y.pick (b := true) z z) z (WL.ren (v' := vB ((decide (a0.Flags < 0)) || (decide (31 < a0.Flags)))) 57 z (congrArg vB (orT T)) ?_))))
             exact nl (At.join () z (.cons z .nil))
            ·refine ug z z (wY (yf fo37_11 z) z (ug z z (wY (yl ty3 z z (af.cell 16 _ z)) z (ug z z (wY (Y.gtr_i z z) z (wY (Y.pick (b := false) z z) z (WL.ren (v' := vB ((decide (a0.Flags < 0)) || (decide (31 < a0.Flags)))) 57 z (congrArg vB (orF T)) ?_)))))))
             exact nl (At.join () z (.cons z .nil))
           ·rintro _ _ rfl
            refine (show WL _ _ _ _ _ [(57, vB ((decide (a0.Flags < 0)) || (decide (31 < a0.Flags))))] _ from ?_)
            obtain ⟨aX, aF, h⟩ := lt1 h
            refine WL.yE (ya z) (congrArg vB aF.symm) z (nl (th ?_))
            rcases cnd h with ⟨U, h⟩ | ⟨U, h⟩
            ·refine WC.condT' z U (sq (rg (wY (ya z) z (nl (th (rt (At.inBlockR (At.thenR ?_))))))))
             obtain rfl := some1 h
             have aG : Stp [] (Lg.O0 A) w V r := (tr_ (su_ a z) (su_ m z))
             exact At.res (.inl z) z (.tmp z .nil) ⟨z, (se_ aG z z)⟩
            ·refine WC.condF' z U (sk (At.inBlock (th (sq (rg (wY (ya z) z (nl (th (rt ?_)))))))))
             obtain rfl := some1 h
             have aH : Stp [] (Lg.O0 A) w V r := (tr_ (su_ a z) (su_ m z))
             exact At.res (.inl z) z (.tmp z .nil) ⟨z, (se_ aH z z)⟩
theorem c_num_Finite {a0 : UInt64} {w : World} {r0 : Bool} (h : num_Finite a0 = some r0) : Rets Try.prog 40 [vu a0] w (fun v w' => v = vB r0 ∧ Ext w w') := by
 unfold num_Finite at h
 refine Rets.enter Try.func40 z z ?_
 refine (show WC _ _ _ _ [(0, vu a0)] _ from ?_)
 refine sq (rg (wY (ya z) z (nl (th (sq (rg (wY (ym z) z (wY (Y.and_u (b := 9218868437227405312) z z) z (wY (Y.neq_u (b := 9218868437227405312) z z) z ?_)))))))))
 obtain ⟨e, a, h⟩ := lt1 h
 refine WL.yE (ya z) (congrArg vB a.symm) z (nl (th (rt ?_)))
 obtain rfl := some1 h
 have d : Stp [] (Lg.O0 (fun _ => False)) w (Lg.O0 (fun _ => False)) w := (sr_ _ _ _)
 exact At.res (.inl z) z (.tmp z .nil) ⟨z, (se_ d z z)⟩
theorem c_num_of {a0 : UInt64} {w : World} : Rets Try.prog 72 [vu a0] w (fun v w' => v = .float .f64 a0.toNat ∧ Ext w w') := by
  refine Rets.enter Try.func72 z z ?_
  refine (show WC _ _ _ _ [(0, vu a0)] _ from ?_)
  refine sq (rg (wY (ya (v := .float .f64 0) z) z (nl (th ?_))))
  refine sq (rg ?_)
  refine wY (ym z) z (wY (Y.ffrom xfrom_95 z) z ?_)
  refine wY (ya z) z (nl (th (rt ?_)))
  exact At.res (.inl z) z (.tmp z .nil) ⟨z, Ext.refl w⟩
theorem c_num_Less {a0 : UInt64} {a1 : UInt64} {w : World} {r0 : Bool} (h : num_Less a0 a1 = some r0) : Rets Try.prog 41 [vu a0, vu a1] w (fun v w' => v = vB r0 ∧ Ext w w') := by
  unfold num_Less at h
  obtain rfl := some1 h
  refine Rets.enter Try.func41 z z ?_
  refine (show WC _ _ _ _ [(0, vu a0), (1, vu a1)] _ from ?_)
  refine sq (rg (wY (ya (v := .bool false) z) z (nl (th ?_))))
  refine sq (rg ?_)
  refine wY (ym z) z (WL.call (vals := [vu a0]) kok72 z z (c_num_of) ?_)
  rintro E F ⟨rfl, e⟩
  obtain ⟨C, m, o, a⟩ := adoptE (Lg.O0 (fun _ => False)) (fun k => 1) e
  refine wY (ym z) z (WL.call (vals := [vu a1]) kok72 z z (c_num_of) ?_)
  rintro G j ⟨rfl, l⟩
  obtain ⟨D, r, t, d⟩ := adoptE C (fun k => 1) l
  refine wY (Y.fless z z) z ?_
  refine wY (ya z) z (nl (th (rt ?_)))
  have hs : Stp [] (Lg.O0 (fun _ => False)) w D j := (tr_ (su_ a z) (su_ d z))
  exact At.res (.inl z) z (.tmp z .nil) ⟨z, se_ hs z z⟩
theorem c_point_Check {A : Nat → Prop} {v0_1 : Value} {v0_13 : Value} {v0_15 : Value} {a0 : api_Point} {w : World} (hs0_1 : Sl rep_api_Pair w A v0_1 a0.Attrs) (hs0_13 : Sl Rep.u w A v0_13 a0.Hist.Pos.Counts) (hs0_15 : Sl Rep.u w A v0_15 a0.Hist.Neg.Counts) {r0 : Int} (h : point_Check a0 = some r0) : Rets Try.prog 14 [ag [vs a0.Name, v0_1, vi a0.Kind, vi a0.Temp, vB a0.Mono, vi a0.Start, vi a0.Time, vi a0.Int_, vu a0.Re, vu a0.Im, vi a0.Hist.Scale, vu a0.Hist.Zero, vi a0.Hist.Pos.Offset, v0_13, vi a0.Hist.Neg.Offset, v0_15, vi a0.Flags]] w (fun v w' => v = vi r0 ∧ Ext w w') := by
 unfold point_Check at h
 refine Rets.enter Try.func14 z z ?_
 have aA : Sl rep_api_Pair w (imm (Lg.O0 A)) v0_1 a0.Attrs := (Sl.start hs0_1)
 have aC : Sl Rep.u w (imm (Lg.O0 A)) v0_13 a0.Hist.Pos.Counts := (Sl.start hs0_13)
 have aD : Sl Rep.u w (imm (Lg.O0 A)) v0_15 a0.Hist.Neg.Counts := (Sl.start hs0_15)
 refine (show WC _ _ _ _ [(0, ag [vs a0.Name, v0_1, vi a0.Kind, vi a0.Temp, vB a0.Mono, vi a0.Start, vi a0.Time, vi a0.Int_, vu a0.Re, vu a0.Im, vi a0.Hist.Scale, vu a0.Hist.Zero, vi a0.Hist.Pos.Offset, v0_13, vi a0.Hist.Neg.Offset, v0_15, vi a0.Flags])] _ from ?_)
 refine sq (rg ?_)
 have bo := h
 obtain ⟨I, J, K, rfl⟩ := aA.shape
 have h := bo
 have bp := h
 obtain ⟨C, D, E, rfl⟩ := aC.shape
 have h := bp
 have bq := h
 obtain ⟨F, G, H, rfl⟩ := aD.shape
 have h := bq
 refine WL.box (O := (Lg.O0 A)) 11 [vs a0.Name, (Value.slice I J K), vi a0.Kind, vi a0.Temp, vB a0.Mono, vi a0.Start, vi a0.Time, vi a0.Int_, vu a0.Re, vu a0.Im, vi a0.Hist.Scale, vu a0.Hist.Zero, vi a0.Hist.Pos.Offset, (Value.slice C D E), vi a0.Hist.Neg.Offset, (Value.slice F G H), vi a0.Flags] z z z ?_
 intro t cj cE e ak
 refine wY (ya z) z (nl (th (sq (sq (rg (wY (yf fo37_0 z) z (wY (yl ty9 z z (ak.cell 0 _ z)) z (wY (yf fo37_1 z) z (wY (yl ty35 z z (ak.cell 1 _ z)) z ?_)))))))))
 have aE := aA.i e z z
 obtain ⟨cQ, br, h⟩ := bnd h
 refine WL.call (vals := [vs a0.Name, (Value.slice I J K)]) kok35 z z (c_label_Check (A := fun _ => True) (Sl.all aE) br) ?_
 rintro cF bs ⟨rfl, bt⟩
 obtain ⟨bk, ck, cl, d⟩ := adoptE cj (fun k => 1) bt
 refine wY (ya z) z (nl (th (sq (rg (wY (ym z) z (wY (Y.neq_i z z) z (nl (th ?_))))))))
 rcases cnd h with ⟨al, h⟩ | ⟨al, h⟩
 ·refine WC.condT' z al (sq (rg (wY (ym z) z (wY (ya z) z (nl (th (rt (At.thenR ?_))))))))
  obtain rfl := some1 h
  have bu : Stp [] (Lg.O0 A) w bk bs := (tr_ (su_ e z) (su_ d z))
  exact At.res (.inl z) z (.tmp z .nil) ⟨z, (se_ bu z z)⟩
 ·refine WC.condF' z al (sk (th (sq (WC.block (sq (rg ?_))))))
  have am := ak.st d z
  refine wY (yL ty37 z z (am.cells 0 [vs a0.Name, (Value.slice I J K), vi a0.Kind, vi a0.Temp, vB a0.Mono, vi a0.Start, vi a0.Time, vi a0.Int_, vu a0.Re, vu a0.Im, vi a0.Hist.Scale, vu a0.Hist.Zero, vi a0.Hist.Pos.Offset, (Value.slice C D E), vi a0.Hist.Neg.Offset, (Value.slice F G H), vi a0.Flags] z) z) z ?_
  have Q := aE.i d z z
  have bw := aC.i e z z
  have S := bw.i d z z
  have bx := aD.i e z z
  have T := bx.i d z z
  obtain ⟨cR, bz, h⟩ := bnd h
  refine WL.call (vals := [ag [vs a0.Name, (Value.slice I J K), vi a0.Kind, vi a0.Temp, vB a0.Mono, vi a0.Start, vi a0.Time, vi a0.Int_, vu a0.Re, vu a0.Im, vi a0.Hist.Scale, vu a0.Hist.Zero, vi a0.Hist.Pos.Offset, (Value.slice C D E), vi a0.Hist.Neg.Offset, (Value.slice F G H), vi a0.Flags]]) kok36 z z (c_point_kinds (A := fun _ => True) (a0 := a0) (Sl.all Q) (Sl.all S) (Sl.all T) bz) ?_
  rintro cG an ⟨rfl, bA⟩
  obtain ⟨ai, cm, cn, a⟩ := adoptE bk (fun k => 1) bA
  refine wY (Y.not z) z ?_
  obtain ⟨cS, bB, h⟩ := lt1 h
  refine WL.yE (ya z) (congrArg vB bB.symm) z (nl (th ?_))
  rcases cnd h with ⟨ao, h⟩ | ⟨ao, h⟩
  ·refine WC.condT' z ao (sq (rg (wY (ya z) z (nl (th (rt (At.inBlockR (At.thenR ?_))))))))
   obtain rfl := some1 h
   have bC : Stp [] (Lg.O0 A) w ai an := (tr_ (su_ e z) (tr_ (su_ d z) (su_ a z)))
   exact At.res (.inl z) z (.tmp z .nil) ⟨z, (se_ bC z z)⟩
  ·refine WC.condF' z ao (sq ?_)
   obtain ⟨co, h, bD⟩ := bnd h
   refine WC.join (σ := (Bool × Own)) (fun x w' => x.1 = co ∧ Stp [] ai an x.2 w') (fun x => [(1, pt t 0), (16, vB x.1)]) ?_ ?_
   ·refine sq (rg (wY (yf fo37_4 z) z ?_))
    have ap := am.st a z
    refine wY (yl ty4 z z (ap.cell 4 _ z)) z (wY (ym z) z ?_)
    obtain ⟨cp, h, bE⟩ := bnd h
    refine WL.cut 4 (σ := (Bool × Own)) (fun x w' => x.1 = cp ∧ Stp [] ai an x.2 w') (fun x => [(1, pt t 0), (23, vB x.1)]) ?_ ?_
    ·rcases cnd h with ⟨aq, h⟩ | ⟨aq, h⟩
     ·refine WL.ren 19 z (congrArg vB aq) (ug z z (wY (yL ty37 z z (ap.cells 0 [vs a0.Name, (Value.slice I J K), vi a0.Kind, vi a0.Temp, vB a0.Mono, vi a0.Start, vi a0.Time, vi a0.Int_, vu a0.Re, vu a0.Im, vi a0.Hist.Scale, vu a0.Hist.Zero, vi a0.Hist.Pos.Offset, (Value.slice C D E), vi a0.Hist.Neg.Offset, (Value.slice F G H), vi a0.Flags] z) z) z (ug z z ?_)))
      have bF := Q.i a z z
      have bG := S.i a z z
      have bH := T.i a z z
      obtain ⟨cq, bI, h⟩ := bnd h
      refine WL.call (vals := [ag [vs a0.Name, (Value.slice I J K), vi a0.Kind, vi a0.Temp, vB a0.Mono, vi a0.Start, vi a0.Time, vi a0.Int_, vu a0.Re, vu a0.Im, vi a0.Hist.Scale, vu a0.Hist.Zero, vi a0.Hist.Pos.Offset, (Value.slice C D E), vi a0.Hist.Neg.Offset, (Value.slice F G H), vi a0.Flags]]) kok37 z z (c_point_sum (A := fun _ => True) (a0 := a0) (Sl.all bF) (Sl.all bG) (Sl.all bH) bI) ?_
      rintro cH cI ⟨rfl, bJ⟩
      obtain ⟨cr, cs, ct, aK⟩ := adoptE ai (fun k => 1) bJ
      refine ug z z (wY (Y.not z) z (wY (Y.pick (b := true) z z) z ?_))
      exact nl (At.join (σ := (Bool × Own)) ((!cq), cr) ⟨some1 h, (su_ aK z)⟩ (.cons z (.cons z .nil)))
     ·refine WL.ren 19 z (congrArg vB aq) (WL.gS z z z z (WL.gS z z z z (WL.gS z z z z (wY (Y.pick (b := false) z z) z ?_))))
      exact nl (At.join (σ := (Bool × Own)) (false, ai) ⟨some1 h, (sr_ _ _ _)⟩ (.cons z (.cons z .nil)))
    ·rintro ⟨bl, bm⟩ cJ ⟨rfl, r⟩
     replace h := bE
     try dsimp only at h r
     refine (show WL _ _ _ _ _ [(1, pt t 0), (23, vB bl)] _ from ?_)
     refine wY (ya z) z (nl (th ?_))
     rcases cnd h with ⟨ar, h⟩ | ⟨ar, h⟩
     ·refine WC.condT' z ar (sk ?_)
      exact At.join (σ := (Bool × Own)) (bl, bm) ⟨some1 h, (su_ r z)⟩ (.cons z (.cons z .nil))
     ·refine WC.condF' z ar (rg ?_)
      have bK := ap.st r z
      refine wY (yL ty37 z z (bK.cells 0 [vs a0.Name, (Value.slice I J K), vi a0.Kind, vi a0.Temp, vB a0.Mono, vi a0.Start, vi a0.Time, vi a0.Int_, vu a0.Re, vu a0.Im, vi a0.Hist.Scale, vu a0.Hist.Zero, vi a0.Hist.Pos.Offset, (Value.slice C D E), vi a0.Hist.Neg.Offset, (Value.slice F G H), vi a0.Flags] z) z) z ?_
      have bL := Q.i a z z
      have bM := bL.i r z z
      have bO := S.i a z z
      have bP := bO.i r z z
      have bQ := T.i a z z
      have bR := bQ.i r z z
      obtain ⟨cT, bS, h⟩ := bnd h
      refine WL.call (vals := [ag [vs a0.Name, (Value.slice I J K), vi a0.Kind, vi a0.Temp, vB a0.Mono, vi a0.Start, vi a0.Time, vi a0.Int_, vu a0.Re, vu a0.Im, vi a0.Hist.Scale, vu a0.Hist.Zero, vi a0.Hist.Pos.Offset, (Value.slice C D E), vi a0.Hist.Neg.Offset, (Value.slice F G H), vi a0.Flags]]) kok38 z z (c_point_times (A := fun _ => True) (a0 := a0) (Sl.all bM) (Sl.all bP) (Sl.all bR) bS) ?_
      rintro cK cL ⟨rfl, bT⟩
      obtain ⟨bU, b9, ca, aF⟩ := adoptE bm (fun k => 1) bT
      refine wY (Y.not z) z ?_
      obtain ⟨bW, aL, h⟩ := lt1 h
      refine WL.yE (ya z) (congrArg vB aL.symm) z (nl ?_)
      exact At.join (σ := (Bool × Own)) (bW, bU) ⟨some1 h, (tr_ (su_ r z) (su_ aF z))⟩ (.cons z (.cons z .nil))
   ·rintro ⟨cu, bn⟩ bX ⟨rfl, j⟩
    replace h := bD
    try dsimp only at h j
    refine (show At _ _ _ [(1, pt t 0), (16, vB cu)] _ from ?_)
    refine th ?_
    rcases cnd h with ⟨U, h⟩ | ⟨U, h⟩
    ·refine WC.condT' z U (sq (rg (wY (ya z) z (nl (th (rt (At.inBlockR (At.thenR ?_))))))))
     obtain rfl := some1 h
     have aM : Stp [] (Lg.O0 A) w bn bX := (tr_ (su_ e z) (tr_ (su_ d z) (tr_ (su_ a z) (su_ j z))))
     exact At.res (.inl z) z (.tmp z .nil) ⟨z, (se_ aM z z)⟩
    ·refine WC.condF' z U (sq (rg ?_))
     have aN := am.st a z
     have av := aN.st j z
     refine wY (yL ty37 z z (av.cells 0 [vs a0.Name, (Value.slice I J K), vi a0.Kind, vi a0.Temp, vB a0.Mono, vi a0.Start, vi a0.Time, vi a0.Int_, vu a0.Re, vu a0.Im, vi a0.Hist.Scale, vu a0.Hist.Zero, vi a0.Hist.Pos.Offset, (Value.slice C D E), vi a0.Hist.Neg.Offset, (Value.slice F G H), vi a0.Flags] z) z) z ?_
     have aO := Q.i a z z
     have aP := aO.i j z z
     have aQ := S.i a z z
     have aw := aQ.i j z z
     have aR := T.i a z z
     have ax := aR.i j z z
     obtain ⟨cM, aS, h⟩ := bnd h
     refine WL.call (vals := [ag [vs a0.Name, (Value.slice I J K), vi a0.Kind, vi a0.Temp, vB a0.Mono, vi a0.Start, vi a0.Time, vi a0.Int_, vu a0.Re, vu a0.Im, vi a0.Hist.Scale, vu a0.Hist.Zero, vi a0.Hist.Pos.Offset, (Value.slice C D E), vi a0.Hist.Neg.Offset, (Value.slice F G H), vi a0.Flags]]) kok39 z z (c_point_own (A := fun _ => True) (a0 := a0) (Sl.all aP) (Sl.all aw) (Sl.all ax) aS) ?_
     rintro cw V ⟨rfl, aT⟩
     obtain ⟨W, cb, cc, l⟩ := adoptE bn (fun k => 1) aT
     refine wY (Y.not z) z ?_
     obtain ⟨cN, aU, h⟩ := lt1 h
     refine WL.yE (ya z) (congrArg vB aU.symm) z (nl (th ?_))
     rcases cnd h with ⟨X, h⟩ | ⟨X, h⟩
     ·refine WC.condT' z X (sq (rg (wY (ya z) z (nl (th (rt (At.inBlockR (At.thenR ?_))))))))
      obtain rfl := some1 h
      have aW : Stp [] (Lg.O0 A) w W V := (tr_ (su_ e z) (tr_ (su_ d z) (tr_ (su_ a z) (tr_ (su_ j z) (su_ l z)))))
      exact At.res (.inl z) z (.tmp z .nil) ⟨z, (se_ aW z z)⟩
     ·refine WC.condF' z X (sq (rg (wY (yf fo37_4 z) z ?_)))
      have M := av.st l z
      refine wY (yl ty4 z z (M.cell 4 _ z)) z (wY (ym z) z ?_)
      refine WL.cut 4 (σ := Unit) (fun _ w' => V = w') (fun _ => [(1, pt t 0), (38, vB (a0.Mono && (decide (a0.Kind = 2))))]) ?_ ?_
      ·refine WL.part 34 z (fun Z => ?_) (fun Z => ?_)
       ·refine ug z z (wY (yf fo37_2 z) z (ug z z (wY (yl ty3 z z (M.cell 2 _ z)) z (ug z z (wY (Y.eql_i z z) z (wY (Y.pick (b := true) z z) z (WL.ren (v' := vB (a0.Mono && (decide (a0.Kind = 2)))) 38 z (congrArg vB (andT Z)) ?_)))))))
        exact nl (At.join () z (.cons z (.cons z .nil)))
       ·refine WL.gS z z z z (WL.gS z z z z (WL.gS z z z z (wY (Y.pick (b := false) z z) z (WL.ren (v' := vB (a0.Mono && (decide (a0.Kind = 2)))) 38 z (congrArg vB (andF Z)) ?_))))
        exact nl (At.join () z (.cons z (.cons z .nil)))
      ·rintro _ _ rfl
       refine (show WL _ _ _ _ _ [(1, pt t 0), (38, vB (a0.Mono && (decide (a0.Kind = 2))))] _ from ?_)
       refine wY (ym z) z ?_
       obtain ⟨bY, h, aX⟩ := bnd h
       refine WL.cut 5 (σ := (Bool × Own)) (fun x w' => x.1 = bY ∧ Stp [] W V x.2 w') (fun x => [(1, pt t 0), (44, vB x.1)]) ?_ ?_
       ·rcases cnd h with ⟨aa, h⟩ | ⟨aa, h⟩
        ·refine WL.ren 39 z (congrArg vB aa) (ug z z (wY (yf fo37_8 z) z (ug z z (wY (yl ty25 z z (M.cell 8 _ z)) z (ug z z ?_)))))
         obtain ⟨bZ, aY, h⟩ := bnd h
         refine WL.call (vals := [vu a0.Re]) kok40 z z (c_num_Finite aY) ?_
         rintro cx cy ⟨rfl, aZ⟩
         obtain ⟨b0, cd, ce, aG⟩ := adoptE W (fun k => 1) aZ
         refine ug z z (wY (Y.not z) z (wY (Y.pick (b := true) z z) z ?_))
         exact nl (At.join (σ := (Bool × Own)) ((!bZ), b0) ⟨some1 h, (su_ aG z)⟩ (.cons z (.cons z .nil)))
        ·refine WL.ren 39 z (congrArg vB aa) (WL.gS z z z z (WL.gS z z z z (WL.gS z z z z (WL.gS z z z z (wY (Y.pick (b := false) z z) z ?_)))))
         exact nl (At.join (σ := (Bool × Own)) (false, W) ⟨some1 h, (sr_ _ _ _)⟩ (.cons z (.cons z .nil)))
       ·rintro ⟨b1, L⟩ ab ⟨rfl, m⟩
        replace h := aX
        try dsimp only at h m
        refine (show WL _ _ _ _ _ [(1, pt t 0), (44, vB b1)] _ from ?_)
        refine wY (ya z) z (nl (th ?_))
        rcases cnd h with ⟨ac, h⟩ | ⟨ac, h⟩
        ·refine WC.condT' z ac (sq (rg (wY (ya z) z (nl (th (rt (At.inBlockR (At.thenR ?_))))))))
         obtain rfl := some1 h
         have a1 : Stp [] (Lg.O0 A) w L ab := (tr_ (su_ e z) (tr_ (su_ d z) (tr_ (su_ a z) (tr_ (su_ j z) (tr_ (su_ l z) (su_ m z))))))
         exact At.res (.inl z) z (.tmp z .nil) ⟨z, (se_ a1 z z)⟩
        ·refine WC.condF' z ac (sq (rg (wY (yf fo37_4 z) z ?_)))
         have P := M.st m z
         refine wY (yl ty4 z z (P.cell 4 _ z)) z (wY (ym z) z ?_)
         obtain ⟨b2, h, a2⟩ := bnd h
         refine WL.cut 9 (σ := (Bool × Own)) (fun x w' => x.1 = b2 ∧ Stp [] L ab x.2 w') (fun x => [(1, pt t 0), (57, vB x.1)]) ?_ ?_
         ·rcases cnd h with ⟨ad, h⟩ | ⟨ad, h⟩
          ·refine WL.ren 48 z (congrArg vB ad) (ug z z (wY (yf fo37_7 z) z (ug z z (wY (yl ty3 z z (P.cell 7 _ z)) z (ug z z (wY (Y.lss_i z z) z (ug z z (wY (ym z) z ?_))))))))
           obtain ⟨b3, h, a3⟩ := bnd h
           refine WL.cut 4 (σ := (Bool × Own)) (fun x w' => x.1 = b3 ∧ Stp [] L ab x.2 w') (fun x => [(1, pt t 0), (48, vB true), (56, vB x.1)]) ?_ ?_
           ·rcases cnd h with ⟨ae, h⟩ | ⟨ae, h⟩
            ·refine WL.ren 52 z (congrArg vB ae) (WL.gS z z z z (WL.gS z z z z (WL.gS z z z z (ug z z (wY (Y.pick (b := true) z z) z ?_)))))
             exact nl (At.join (σ := (Bool × Own)) (true, L) ⟨some1 h, (sr_ _ _ _)⟩ (.cons z (.cons z (.cons z .nil))))
            ·refine WL.ren 52 z (congrArg vB ae) (ug z z (wY (yf fo37_8 z) z (ug z z (wY (yl ty25 z z (P.cell 8 _ z)) z (ug z z ?_)))))
             obtain ⟨b4, a4, h⟩ := bnd h
             refine WL.call (vals := [vu a0.Re, vu 0]) kok41 z z (c_num_Less a4) ?_
             rintro cz cA ⟨rfl, a5⟩
             obtain ⟨b5, cf, cg, aH⟩ := adoptE L (fun k => 1) a5
             refine ug z z (wY (Y.pick (b := false) z z) z ?_)
             exact nl (At.join (σ := (Bool × Own)) (b4, b5) ⟨some1 h, (su_ aH z)⟩ (.cons z (.cons z (.cons z .nil))))
           ·rintro ⟨aI, b6⟩ cC ⟨rfl, aj⟩
            replace h := a3
            try dsimp only at h aj
            refine (show WL _ _ _ _ _ [(1, pt t 0), (48, vB true), (56, vB aI)] _ from ?_)
            refine wY (Y.pick (b := true) z z) z ?_
            exact nl (At.join (σ := (Bool × Own)) (aI, b6) ⟨some1 h, (su_ aj z)⟩ (.cons z (.cons z .nil)))
          ·refine WL.ren 48 z (congrArg vB ad) (WL.gS z z z z (WL.gS z z z z (WL.gS z z z z (WL.gS z z z z (WL.gS z z z z (WL.gS z z z z (WL.gS z z z z (WL.gS z z z z (wY (Y.pick (b := false) z z) z ?_)))))))))
           exact nl (At.join (σ := (Bool × Own)) (false, L) ⟨some1 h, (sr_ _ _ _)⟩ (.cons z (.cons z .nil)))
         ·rintro ⟨b7, au⟩ ay ⟨rfl, o⟩
          replace h := a2
          try dsimp only at h o
          refine (show WL _ _ _ _ _ [(1, pt t 0), (57, vB b7)] _ from ?_)
          refine wY (ya z) z (nl (th ?_))
          rcases cnd h with ⟨af, h⟩ | ⟨af, h⟩
          ·refine WC.condT' z af (sq (rg (wY (ya z) z (nl (th (rt (At.inBlockR (At.thenR ?_))))))))
           obtain rfl := some1 h
           have a6 : Stp [] (Lg.O0 A) w au ay := (tr_ (su_ e z) (tr_ (su_ d z) (tr_ (su_ a z) (tr_ (su_ j z) (tr_ (su_ l z) (tr_ (su_ m z) (su_ o z)))))))
           exact At.res (.inl z) z (.tmp z .nil) ⟨z, (se_ a6 z z)⟩
          ·refine WC.condF' z af (sq (rg (wY (yf fo37_2 z) z ?_)))
           have az := P.st o z
           refine wY (yl ty3 z z (az.cell 2 _ z)) z (wY (Y.eql_i z z) z ?_)
           obtain ⟨cO, a7, h⟩ := lt1 h
           refine WL.yE (ya z) (congrArg vB a7.symm) z (nl (th ?_))
           rcases cnd h with ⟨ah, h⟩ | ⟨ah, h⟩
           ·refine WC.condT' z ah (sq (rg (wY (yf fo37_10 z) z (wY (yL ty30 z z (az.cells 10 [vi a0.Hist.Scale, vu a0.Hist.Zero, vi a0.Hist.Pos.Offset, (Value.slice C D E), vi a0.Hist.Neg.Offset, (Value.slice F G H)] z) z) z ?_))))
            have a8 := aw.i l z z
            have a9 := a8.i m z z
            have ba := a9.i o z z
            have bb := ax.i l z z
            have bc := bb.i m z z
            have bd := bc.i o z z
            obtain ⟨cP, bf, h⟩ := bnd h
            refine WL.call (vals := [ag [vi a0.Hist.Scale, vu a0.Hist.Zero, vi a0.Hist.Pos.Offset, (Value.slice C D E), vi a0.Hist.Neg.Offset, (Value.slice F G H)]]) kok28 z z (c_hist_Check (A := fun _ => True) (a0 := a0.Hist) (Sl.all ba) (Sl.all bd) bf) ?_
            rintro cD bg ⟨rfl, bh⟩
            obtain ⟨b8, ch, ci, aJ⟩ := adoptE au (fun k => 1) bh
            refine wY (ya z) z (nl (th (rt (At.inBlockR (At.thenR ?_)))))
            obtain rfl := some1 h
            have bi : Stp [] (Lg.O0 A) w b8 bg := (tr_ (su_ e z) (tr_ (su_ d z) (tr_ (su_ a z) (tr_ (su_ j z) (tr_ (su_ l z) (tr_ (su_ m z) (tr_ (su_ o z) (su_ aJ z))))))))
            exact At.res (.inl z) z (.tmp z .nil) ⟨z, (se_ bi z z)⟩
           ·refine WC.condF' z ah (sk (At.inBlock (th (sq (rg (wY (ya z) z (nl (th (rt ?_)))))))))
            obtain rfl := some1 h
            have bj : Stp [] (Lg.O0 A) w au ay := (tr_ (su_ e z) (tr_ (su_ d z) (tr_ (su_ a z) (tr_ (su_ j z) (tr_ (su_ l z) (tr_ (su_ m z) (su_ o z)))))))
            exact At.res (.inl z) z (.tmp z .nil) ⟨z, (se_ bj z z)⟩
theorem c_hist_span {A : Nat → Prop} {v0_1 : Value} {a0 : api_Side} {a1 : UInt64} {w : World} (hs0_1 : Sl Rep.u w A v0_1 a0.Counts) {r0 : Int} (h : hist_span a0 a1 = some r0) : Rets Try.prog 73 [ag [vi a0.Offset, v0_1], vu a1] w (fun v w' => v = vi r0 ∧ Ext w w') := by
 unfold hist_span at h
 refine Rets.enter Try.func73 z z ?_
 have j : Sl Rep.u w (imm (Lg.O0 A)) v0_1 a0.Counts := (Sl.start hs0_1)
 refine (show WC _ _ _ _ [(0, ag [vi a0.Offset, v0_1]), (1, vu a1)] _ from ?_)
 refine sq (rg ?_)
 have r := h
 obtain ⟨F, G, H, rfl⟩ := j.shape
 have h := r
 refine WL.box (O := (Lg.O0 A)) 11 [vi a0.Offset, (Value.slice F G H)] z z z ?_
 intro J o l a d
 refine wY (ya z) z (nl (th (sq (rg (wY (yf fo28_1 z) z (wY (yl ty26 z z (d.cell 1 _ z)) z ?_))))))
 have t := j.i a z z
 refine wY (Y.len ty26 z t) z ?_
 obtain ⟨I, m, h⟩ := lt1 h
 refine WL.yE (ya z) (congrArg vi m.symm) z (nl (th (sq (sq (rg (wY (ym z) z (wY (Y.eql_i z z) z (nl (th ?_)))))))))
 rcases cnd h with ⟨e, h⟩ | ⟨e, h⟩
 ·refine WC.condT' z e (sq (rg (wY (ya z) z (nl (th (rt (At.thenR ?_)))))))
  obtain rfl := some1 h
  have C : Stp [] (Lg.O0 A) w o l := (su_ a z)
  exact At.res (.inl z) z (.tmp z .nil) ⟨z, (se_ C z z)⟩
 ·refine WC.condF' z e (sk (th (sq (rg (wY (yf fo28_0 z) z (wY (yl ty3 z z (d.cell 0 _ z)) z (wY (ym z) z (wY (Y.add_i z z) z (wY (Y.sub_i z z) z ?_)))))))))
  refine wY (ym z) z (wY (Y.shr_iu z z) z (wY (yf fo28_0 z) z (wY (yl ty3 z z (d.cell 0 _ z)) z (wY (ym z) z (wY (Y.shr_iu z z) z (wY (Y.sub_i z z) z (wY (Y.add_i z z) z ?_)))))))
  obtain ⟨K, D, h⟩ := lt1 h
  refine WL.yE (ya z) (congrArg vi D.symm) z (nl (th (rt ?_)))
  obtain rfl := some1 h
  have E : Stp [] (Lg.O0 A) w o l := (su_ a z)
  exact At.res (.inl z) z (.tmp z .nil) ⟨z, (se_ E z z)⟩
theorem c_hist_down {A : Nat → Prop} {v0_1 : Value} {a0 : api_Side} {a1 : UInt64} {w : World} (hs0_1 : Sl Rep.u w A v0_1 a0.Counts) {r0 : api_Side} (h : hist_down a0 a1 = some r0) : Rets Try.prog 60 [ag [vi a0.Offset, v0_1], vu a1] w (fun v w' => ∃ (aM : Value), v = ag [vi r0.Offset, aM] ∧ Ext w w' ∧ Sl Rep.u w' (fun k => w.heap.size ≤ k) aM r0.Counts) := by
 unfold hist_down at h
 refine Rets.enter Try.func60 z z ?_
 have aN : Sl Rep.u w (imm (Lg.O0 A)) v0_1 a0.Counts := (Sl.start hs0_1)
 refine (show WC _ _ _ _ [(0, ag [vi a0.Offset, v0_1]), (1, vu a1)] _ from ?_)
 refine sq (rg ?_)
 have ct := h
 obtain ⟨U, V, W, rfl⟩ := aN.shape
 have h := ct
 refine WL.box (O := (Lg.O0 A)) 11 [vi a0.Offset, (Value.slice U V W)] z z z ?_
 intro X db dG Z cu
 refine WL.alloc (O := db) 12 [vi 0, Value.slice none 0 0] ty28 z z ?_
 intro C ai dH D aO
 refine nl (th (sq (sq (rg (wY (yf fo28_1 z) z ?_)))))
 have aa := cu.st D z
 refine wY (yl ty26 z z (aa.cell 1 _ z)) z ?_
 have cw := aN.i Z z z
 have ab := cw.i D z z
 refine wY (Y.len ty26 z ab) z (wY (Y.eql_i z z) z (nl (th ?_)))
 rcases cnd h with ⟨an, h⟩ | ⟨an, h⟩
 ·refine WC.condT' z an (sq (rg (wY (yb (vals := []) (cells := [vi 0, Value.slice none 0 0]) (fe_ z) (by kernel_rfl)) z (WL.store (v := ag [vi 0, Value.slice none 0 0]) (cells' := [vi 0, Value.slice none 0 0]) ty28 z z aO z (le_ z) z z ?_))))
  intro cx bf cy
  refine nl (th (rt (At.thenR ?_)))
  obtain rfl := some1 h
  have cz : Stp [12] (Lg.O0 A) w ai cx := (tr_ (su_ Z z) (tr_ (su_ D z) (su_ bf z)))
  exact At.res (.inl z) z (.cell z (cy.runAg 0 [vi 0, Value.slice none 0 0] ty28 z z z) .nil) ⟨Value.slice none 0 0, z, (se_ cz z z), (Or.inl ⟨z, z⟩)⟩
 ·refine WC.condF' z an (sk (th (sq (WC.drawH [13, 14, 15, 16, 17, 18, 1001, 1002] [0, 1, 2, 3, 4, 5, 6, 7, 8, 9] ai 11 fmix z (by kernel_rfl) ?_))))
  intro cA a
  refine WD.y 0 z (by kernel_rfl) (fun _ _ _ => yf fo28_0 z) z (WD.y 1 z (by kernel_rfl) (fun dI d5 bg => have cC := aa.st a z; have cD := cC.st bg z; yl ty3 z z (cD.cell 0 _ z)) z (WD.y 2 z (by kernel_rfl) (fun _ _ _ => ym z) z (WD.y 3 z (by kernel_rfl) (fun _ _ _ => Y.shr_iu z z) z (WD.y 4 z (by kernel_rfl) (fun dJ d6 bh => have cE := aa.st a z; have cF := cE.st bh z; yL ty28 z z (cF.cells 0 [vi a0.Offset, (Value.slice U V W)] z) z) z (WD.y 5 z (by kernel_rfl) (fun _ _ _ => ym z) z ?_)))))
  obtain ⟨dc, h, cG⟩ := bnd h
  refine WD.join (σ := (List UInt64 × Own × Nat × Value)) (f' := 1) [9, 8, 7, 6, 5, 4, 3, 2, 1, 0] (fun x O' w' => x.1 = dc ∧ Stp [13, 14, 15, 16, 17, 18, 1001, 1002] ai cA x.2.1 w' ∧ Blk 1003 x.2.1 w' x.2.2.1 28 [vi 0, Value.slice none 0 0] ∧ OwnSl 1004 Rep.u 25 x.2.1 w' x.2.2.2 x.1 ∧ x.2.1 = O') (fun x => [(1, vu a1), (2, pt X 0), (4, pt C 0), (5, Value.pointer (some ⟨x.2.2.1, 0, none⟩)), (21, ag [vi (shrI a0.Offset a1.toNat), x.2.2.2])]) (fun aP => ?_) ?_
  ·refine WD.heavy2 6 9 z z (by kernel_rfl) ?_ ?_
   ·have cH := ab.i a z z
    obtain ⟨d7, cI, h⟩ := bnd h
    refine WL.call (vals := [ag [vi a0.Offset, (Value.slice U V W)], vu a1]) kok73 z z (c_hist_span (A := fun _ => True) (a0 := a0) (Sl.all cH) cI) ?_
    rintro dK cJ ⟨rfl, cK⟩
    obtain ⟨aQ, dd, de, ax⟩ := adoptE ai (fun k => 1) cK
    refine nl (At.dq (su_ ax z) ?_)
    obtain ⟨df, h, cL⟩ := bnd h
    refine WD.join (σ := (List UInt64 × Own × Nat × Value)) (f' := 1) [9, 8, 7, 6, 5, 4, 3, 2, 1, 0] (fun x O' w' => x.1 = df ∧ Stp [13, 14, 15, 16] aQ cJ x.2.1 w' ∧ Blk 1001 x.2.1 w' x.2.2.1 28 [vi 0, Value.slice none 0 0] ∧ OwnSl 1002 Rep.u 25 x.2.1 w' x.2.2.2 x.1 ∧ x.2.1 = O') (fun x => [(1, vu a1), (2, pt X 0), (4, pt C 0), (5, Value.pointer (some ⟨x.2.2.1, 0, none⟩)), (21, ag [vi (shrI a0.Offset a1.toNat), x.2.2.2])]) (fun aR => ?_) ?_
    ·refine WD.heavy2 7 9 z z (by kernel_rfl) ?_ ?_
     ·obtain ⟨dg, cM, h⟩ := bnd h
      refine WL.make (O := aQ) (R := Rep.u) (zx := (0 : UInt64)) 13 (by decide) ty26 ty25 z (by decide) (by decide) z z (fun _ _ => z) cM z ?_
      intro d8 dh dL ay aS
      refine nl (At.dq (su_ ay z) ?_)
      have cN := h
      obtain ⟨aT, aU, aW, rfl⟩ := aS.shape
      have h := cN
      refine WD.y 8 z (by kernel_rfl) (fun _ _ _ => yb (vals := [(0, vi (shrI a0.Offset a1.toNat)), (1, (Value.slice aT aU aW))]) (cells := [vi (shrI a0.Offset a1.toNat), (Value.slice aT aU aW)]) (fe_ z) (by kernel_rfl)) z (WD.heavy 9 z (by kernel_rfl) (WL.alloc (O := dh) 14 [vi 0, Value.slice none 0 0] ty28 z z ?_))
      intro cO dM ds E bi
      refine nl (At.dq (su_ E z) ?_)
      obtain ⟨dN, F, bj⟩ := Blk.rlb 1001 rfl bi
      have bk := aS.st E z z z
      have bl := bk.st F z z z
      obtain ⟨cP, G, bm⟩ := OwnSl.rlb 1002 rfl bl
      have bn := bj.st G z
      refine WD.own (tr_ (su_ F z) (su_ G z)) (WD.perm _ [9, 8, 7, 6, 5, 4, 3, 2, 1, 0] (by kernel_rfl) ?_)
      exact aR (dg, cP, cO, (Value.slice aT aU aW)) _ _ _ ⟨some1 h, (tr_ (su_ ay z) (tr_ (su_ E z) (tr_ (su_ F z) (su_ G z)))), bn, bm, z⟩ (.cons z (.cons z (.cons z (.cons z (.cons z .nil)))))
     ·try simp only [Option.bind_assoc] at h
      try simp only [Option.bind_some] at h
      refine WL.alloc (O := aQ) 15 [vi 0, Value.slice none 0 0] ty28 z z ?_
      intro cQ cR dt aj bo
      refine nl (At.dq (su_ aj z) (WD.heavy 7 z (by kernel_rfl) ?_))
      obtain ⟨cS, bp, h⟩ := bnd h
      refine WL.make (O := cR) (R := Rep.u) (zx := (0 : UInt64)) 16 (by decide) ty26 ty25 z (by decide) (by decide) z z (fun _ _ => z) bp z ?_
      intro dO dP du H az
      refine nl (At.dq (su_ H z) ?_)
      have bq := h
      obtain ⟨ao, ap, aq, rfl⟩ := az.shape
      have h := bq
      refine WD.y 8 z (by kernel_rfl) (fun _ _ _ => yb (vals := [(0, vi (shrI a0.Offset a1.toNat)), (1, (Value.slice ao ap aq))]) (cells := [vi (shrI a0.Offset a1.toNat), (Value.slice ao ap aq)]) (fe_ z) (by kernel_rfl)) z ?_
      have br := bo.st H z
      obtain ⟨dQ, I, bs⟩ := Blk.rlb 1001 rfl br
      have bt := az.st I z z z
      obtain ⟨cT, J, bu⟩ := OwnSl.rlb 1002 rfl bt
      have bw := bs.st J z
      refine WD.own (tr_ (su_ I z) (su_ J z)) (WD.perm _ [9, 8, 7, 6, 5, 4, 3, 2, 1, 0] (by kernel_rfl) ?_)
      exact aR (cS, cT, cQ, (Value.slice ao ap aq)) _ _ _ ⟨some1 h, (tr_ (su_ aj z) (tr_ (su_ H z) (tr_ (su_ I z) (su_ J z)))), bw, bu, z⟩ (.cons z (.cons z (.cons z (.cons z (.cons z .nil)))))
    ·rintro ⟨di, d9, cq, cr⟩ _ dR ⟨rfl, aA, aX, aY, rfl⟩
     replace h := cL
     try dsimp only at h aA aX aY
     refine (show WD _ _ _ _ _ _ _ _ [(1, vu a1), (2, pt X 0), (4, pt C 0), (5, pt cq 0), (21, ag [vi (shrI a0.Offset a1.toNat), cr])] _ _ from ?_)
     obtain ⟨dS, K, bx⟩ := Blk.rlb 1003 rfl aX
     have bz := aY.st K z z z
     obtain ⟨cU, L, bA⟩ := OwnSl.rlb 1004 rfl bz
     have bB := bx.st L z
     refine WD.own (tr_ (su_ K z) (su_ L z)) (WD.perm _ [9, 8, 7, 6, 5, 4, 3, 2, 1, 0] (by kernel_rfl) ?_)
     exact aP (di, cU, cq, cr) _ _ _ ⟨some1 h, (tr_ (su_ ax z) (tr_ (su_ aA z) (tr_ (su_ K z) (su_ L z)))), bB, bA, z⟩ (.cons z (.cons z (.cons z (.cons z (.cons z .nil)))))
   ·try simp only [Option.bind_assoc] at h
    try simp only [Option.bind_some] at h
    refine WL.alloc (O := ai) 17 [vi 0, Value.slice none 0 0] ty28 z z ?_
    intro cV cW dw M bC
    refine nl (At.dq (su_ M z) (WD.heavy 6 z (by kernel_rfl) ?_))
    have bD := ab.i a z z
    have bE := bD.i M z z
    obtain ⟨dT, bF, h⟩ := bnd h
    refine WL.call (vals := [ag [vi a0.Offset, (Value.slice U V W)], vu a1]) kok73 z z (c_hist_span (A := fun _ => True) (a0 := a0) (Sl.all bE) bF) ?_
    rintro dx dy ⟨rfl, bG⟩
    obtain ⟨cX, c9, da, P⟩ := adoptE cW (fun k => 1) bG
    refine nl (At.dq (su_ P z) (WD.heavy 7 z (by kernel_rfl) ?_))
    obtain ⟨cY, bH, h⟩ := bnd h
    refine WL.make (O := cX) (R := Rep.u) (zx := (0 : UInt64)) 18 (by decide) ty26 ty25 z (by decide) (by decide) z z (fun _ _ => z) bH z ?_
    intro dU dV dz Q aC
    refine nl (At.dq (su_ Q z) ?_)
    have bI := h
    obtain ⟨ar, au, av, rfl⟩ := aC.shape
    have h := bI
    refine WD.y 8 z (by kernel_rfl) (fun _ _ _ => yb (vals := [(0, vi (shrI a0.Offset a1.toNat)), (1, (Value.slice ar au av))]) (cells := [vi (shrI a0.Offset a1.toNat), (Value.slice ar au av)]) (fe_ z) (by kernel_rfl)) z ?_
    have bJ := bC.st P z
    have bK := bJ.st Q z
    obtain ⟨dW, S, bL⟩ := Blk.rlb 1003 rfl bK
    have bM := aC.st S z z z
    obtain ⟨cZ, T, bO⟩ := OwnSl.rlb 1004 rfl bM
    have bP := bL.st T z
    refine WD.own (tr_ (su_ S z) (su_ T z)) (WD.perm _ [9, 8, 7, 6, 5, 4, 3, 2, 1, 0] (by kernel_rfl) ?_)
    exact aP (cY, cZ, cV, (Value.slice ar au av)) _ _ _ ⟨some1 h, (tr_ (su_ M z) (tr_ (su_ P z) (tr_ (su_ Q z) (tr_ (su_ S z) (su_ T z))))), bP, bO, z⟩ (.cons z (.cons z (.cons z (.cons z (.cons z .nil)))))
  ·rintro ⟨dj, cs, ak, dk⟩ _ dX ⟨rfl, r, aZ, aw, rfl⟩
   replace h := cG
   try dsimp only at h r aZ aw
   refine (show WD _ _ _ _ _ _ _ _ [(1, vu a1), (2, pt X 0), (4, pt C 0), (5, pt ak 0), (21, ag [vi (shrI a0.Offset a1.toNat), dk])] _ _ from ?_)
   refine WD.phase [1003] [0, 1, 2, 3, 4, 5, 6, 7, 8, 9, 10] (by kernel_rfl) (by kernel_rfl) (WD.heavy 10 z (by kernel_rfl) ?_)
   have bQ := h
   obtain ⟨j, l, m, rfl⟩ := aw.shape
   have h := bQ
   refine WL.store (v := ag [vi (shrI a0.Offset a1.toNat), (Value.slice j l m)]) (cells' := [vi (shrI a0.Offset a1.toNat), (Value.slice j l m)]) ty28 z z aZ z (le_ z) z z ?_
   intro aD d aE
   refine nl (At.dq (su_ d z) (WD.done_ (by kernel_rfl) (th (sq (sq (rg (wY (yf fo28_1 z) z ?_)))))))
   have bR := aa.st a z
   have bS := bR.st r z
   have aF := bS.st d z
   refine wY (yl ty26 z z (aF.cell 1 _ z)) z ?_
   have bT := ab.i a z z
   have bU := bT.i r z z
   have aG := bU.i d z z
   refine wY (Y.len ty26 z aG) z (wY (ym z) z (nl (th (WC.block ?_))))
   obtain ⟨a2, h, bW⟩ := flow1 h
   obtain ⟨a3, h⟩ := loop_some h
   refine WC.joinB 0 (σ := (List UInt64 × Own)) (fun x w' => a2 = .go x.1 ∧ Stp [1004, 1005] cs aD x.2 w' ∧ OwnSl 1006 Rep.u 25 x.2 w' (Value.slice j l m) x.1) (fun x => [(4, pt C 0), (5, pt ak 0)]) ?_ ?_
   ·have bX := aw.st d z z z
    obtain ⟨c0, a4, bY⟩ := OwnSl.rlb 1005 rfl bX
    refine WC.loop (σ := (List UInt64 × Int × Own)) (fun x k w' => loopN k (hist_down_lp1 a0 a1) (x.1, x.2.1) = some a2 ∧ Stp [1004, 1005] cs aD x.2.2 w' ∧ OwnSl 1005 Rep.u 25 x.2.2 w' (Value.slice j l m) x.1) (fun x => [(1, vu a1), (2, pt X 0), (4, pt C 0), (5, pt ak 0), (23, (Value.slice U V W)), (24, vi (a0.Counts.length : Int)), (25, vi x.2.1)]) (dj, 0, c0) a3 (.cons z (.cons z (.cons z (.cons z (.cons z (.cons z (.cons z .nil))))))) ⟨h, (su_ a4 z), bY⟩ ?_
    rintro ⟨c1, a5, c2⟩ a3 dA ⟨h, e, o⟩
    obtain ⟨c3, dY, rfl, h, aH⟩ := rnd1 h
    unfold hist_down_lp1 at h
    try dsimp only at h e o
    refine (show WC _ _ _ _ [(1, vu a1), (2, pt X 0), (4, pt C 0), (5, pt ak 0), (23, (Value.slice U V W)), (24, vi (a0.Counts.length : Int)), (25, vi a5)] _ from ?_)
    refine sq (rg (wY (Y.lss_i z z) z (nl (th (sq ?_)))))
    rcases cnd h with ⟨ac, h⟩ | ⟨ac, h⟩
    ·refine WC.condT' z ac (sk (th (sq (WC.block (sq (rg (wY (ym z) z ?_)))))))
     obtain ⟨c4, bZ, h⟩ := bnd h
     have b0 := aG.i e z z
     obtain ⟨dZ, dl, dm, dB, b1, b2, b3, ad, a6, b4⟩ := Sl.at2 b0 bZ
     obtain rfl := a6
     replace ad : CellsAt _ _ _ [vu c4] := ad
     have a7 := CAt.imm ad b4
     refine wY (Y.indexAddr ty26 ty25 z b1 z b2 b3) z (wY (yl ty25 z z a7.at_) z (wY (ya z) z (wY (ya z) z (nl (th (rg (wY (yf fo28_1 z) z ?_)))))))
     have aI := aE.st e z
     refine wY (yl ty26 z z (aI.cell 1 _ z)) z (wY (yf fo28_0 z) z ?_)
     have b5 := aF.st e z
     refine wY (yl ty3 z z (b5.cell 0 _ z)) z (wY (ym z) z (wY (Y.add_i z z) z (wY (ym z) z (wY (Y.shr_iu z z) z (wY (yf fo28_0 z) z (wY (yl ty3 z z (aI.cell 0 _ z)) z (wY (Y.sub_i z z) z ?_)))))))
     obtain ⟨c5, b6, h⟩ := bnd h
     obtain ⟨d0, dn, dC, aJ, b7, b8, ae, a8⟩ := OwnSl.at o b6
     obtain rfl := a8
     replace ae : CellsAt _ _ _ [vu c5] := ae
     have a9 := CAt.own o aJ ae
     refine wY (Y.indexAddr ty26 ty25 z aJ z b7 b8) z (wY (yl ty25 z z a9.at_) z (wY (ym z) z (wY (Y.add_u z z) z ?_)))
     obtain ⟨c6, b9, h⟩ := bnd h
     obtain ⟨d1, dp, dD, af, ca, cb, ah, ba⟩ := OwnSl.at o b9
     obtain rfl := ba
     replace ah : CellsAt _ _ _ [vu c6] := ah
     have dr := CAt.own o af ah
     refine wY (Y.indexAddr ty26 ty25 z af z ca cb) z ?_
     obtain ⟨d2, cc, h⟩ := lt1 h
     refine WL.ren 44 z (congrArg vu cc.symm) ?_
     obtain ⟨cd, bb, h⟩ := bnd h
     refine WL.storeOwn (by decide) ty25 z z z o af bb ?_
     intro dE bc ce
     refine nl (At.inBlock (th (rg (wY (Y.add_i z z) z (wY (ym z) z (nl ?_))))))
     exact At.round (cd, w64 (a5 + 1), c2) c3 (Nat.lt_succ_self _) ⟨next1 h aH, (tr_ (su_ e z) (su_ bc z)), ce⟩ (.cons z (.cons z (.cons z (.cons z (.cons z (.cons z (.cons z .nil)))))))
    ·refine WC.condF' z ac (WC.exit (At.thenX (At.loopX ?_)))
     obtain ⟨c7, bd, cf⟩ := OwnSl.rlb 1006 rfl o
     exact At.hitB (σ := (List UInt64 × Own)) (c1, c7) ⟨brk1 h aH, (tr_ (su_ e z) (su_ bd z)), cf⟩ (.cons z (.cons z .nil))
   ·rintro ⟨d3, d4⟩ dF ⟨rfl, t, aK⟩
    replace h := flowK_go bW
    try dsimp only at h t aK
    refine (show At _ _ _ [(4, pt C 0), (5, pt ak 0)] _ from ?_)
    refine At.inBlockHit (th (sq (rg ?_)))
    have cg := aE.st t z
    refine wY (yL ty28 z z (cg.cells 0 [vi (shrI a0.Offset a1.toNat), (Value.slice j l m)] z) z) z ?_
    have ch := aO.st a z
    have ci := ch.st r z
    have cj := ci.st d z
    have ck := cj.st t z
    refine WL.store (v := ag [vi (shrI a0.Offset a1.toNat), (Value.slice j l m)]) (cells' := [vi (shrI a0.Offset a1.toNat), (Value.slice j l m)]) ty28 z z ck z (le_ z) z z ?_
    intro cl al cm
    refine nl (th (rt ?_))
    obtain rfl := some1 h
    have cn := aK.st al z z z
    obtain ⟨c8, am, co⟩ := OwnSl.giveF rfl Flat.u cn
    have aL : Stp [12, 13, 14, 15, 16, 17, 18, 1001, 1002, 1003, 1004, 1005, 1006] (Lg.O0 A) w c8 cl := (tr_ (su_ Z z) (tr_ (su_ D z) (tr_ (su_ a z) (tr_ (su_ r z) (tr_ (su_ d z) (tr_ (su_ t z) (tr_ (su_ al z) (su_ am z))))))))
    have cp := cm.st am z
    exact At.res (.inl z) z (.cell z (cp.runAg 0 [vi (shrI a0.Offset a1.toNat), (Value.slice j l m)] ty28 z z z) .nil) ⟨(Value.slice j l m), z, (se_ aL z z), (Sl.outF co aL low0)⟩
theorem c_hist_Down {A : Nat → Prop} {v0_3 : Value} {v0_5 : Value} {a0 : api_Hist} {a1 : Int} {w : World} (hs0_3 : Sl Rep.u w A v0_3 a0.Pos.Counts) (hs0_5 : Sl Rep.u w A v0_5 a0.Neg.Counts) {r0 : api_Hist} {r1 : Int} (h : hist_Down a0 a1 = some (r0, r1)) : Rets Try.prog 31 [ag [vi a0.Scale, vu a0.Zero, vi a0.Pos.Offset, v0_3, vi a0.Neg.Offset, v0_5], vi a1] w (fun v w' => ∃ (ad : Value) (ae : Value), v = Value.tuple (List.toArray [ag [vi r0.Scale, vu r0.Zero, vi r0.Pos.Offset, ad, vi r0.Neg.Offset, ae], vi r1]) ∧ Ext w w' ∧ Sl Rep.u w' (fun k => w.heap.size ≤ k) ad r0.Pos.Counts ∧ Sl Rep.u w' (fun k => w.heap.size ≤ k) ae r0.Neg.Counts) := by
 unfold hist_Down at h
 refine Rets.enter Try.func31 z z ?_
 have af : Sl Rep.u w (imm (Lg.O0 A)) v0_3 a0.Pos.Counts := (Sl.start hs0_3)
 have ah : Sl Rep.u w (imm (Lg.O0 A)) v0_5 a0.Neg.Counts := (Sl.start hs0_5)
 refine (show WC _ _ _ _ [(0, ag [vi a0.Scale, vu a0.Zero, vi a0.Pos.Offset, v0_3, vi a0.Neg.Offset, v0_5]), (1, vi a1)] _ from ?_)
 refine sq (rg ?_)
 have aX := h
 obtain ⟨K, L, M, rfl⟩ := af.shape
 have h := aX
 have aY := h
 obtain ⟨P, Q, S, rfl⟩ := ah.shape
 have h := aY
 refine WL.box (O := (Lg.O0 A)) 11 [vi a0.Scale, vu a0.Zero, vi a0.Pos.Offset, (Value.slice K L M), vi a0.Neg.Offset, (Value.slice P Q S)] z z z ?_
 intro aU bx bF j aZ
 refine WL.alloc (O := bx) 12 [vi 0, vu 0, vi 0, Value.slice none 0 0, vi 0, Value.slice none 0 0] ty30 z z ?_
 intro aW bz bG e T
 refine wY (ya z) z (nl (th (sq (sq (rg ?_)))))
 have r := aZ.st e z
 refine wY (yL ty30 z z (r.cells 0 [vi a0.Scale, vu a0.Zero, vi a0.Pos.Offset, (Value.slice K L M), vi a0.Neg.Offset, (Value.slice P Q S)] z) z) z ?_
 have a2 := af.i j z z
 have ai := a2.i e z z
 have a3 := ah.i j z z
 have aj := a3.i e z z
 obtain ⟨bO, a4, h⟩ := bnd h
 refine WL.call (vals := [ag [vi a0.Scale, vu a0.Zero, vi a0.Pos.Offset, (Value.slice K L M), vi a0.Neg.Offset, (Value.slice P Q S)]]) kok28 z z (c_hist_Check (A := fun _ => True) (a0 := a0) (Sl.all ai) (Sl.all aj) a4) ?_
 rintro bH a5 ⟨rfl, a6⟩
 obtain ⟨X, bA, bB, a⟩ := adoptE bz (fun k => 1) a6
 refine wY (ya z) z (nl (th (sq (rg (wY (ym z) z (wY (Y.neq_i z z) z (nl (th ?_))))))))
 rcases cnd h with ⟨U, h⟩ | ⟨U, h⟩
 ·refine WC.condT' z U (sq (rg (wY (yb (vals := []) (cells := [vi 0, vu 0, vi 0, Value.slice none 0 0, vi 0, Value.slice none 0 0]) (fe_ z) (by kernel_rfl)) z (wY (ym z) z ?_))))
  have a7 := T.st a z
  refine WL.store (v := ag [vi 0, vu 0, vi 0, Value.slice none 0 0, vi 0, Value.slice none 0 0]) (cells' := [vi 0, vu 0, vi 0, Value.slice none 0 0, vi 0, Value.slice none 0 0]) ty30 z z a7 z (le_ z) z z ?_
  intro a8 an a9
  refine wY (ya z) z (nl (th (rt (At.thenR ?_))))
  obtain ⟨rfl, rfl⟩ := tup2 h
  have ba : Stp [12] (Lg.O0 A) w X a8 := (tr_ (su_ j z) (tr_ (su_ e z) (tr_ (su_ a z) (su_ an z))))
  exact At.res (.inl z) z (.cell z (a9.runAg 0 [vi 0, vu 0, vi 0, Value.slice none 0 0, vi 0, Value.slice none 0 0] ty30 z z z) (.tmp z .nil)) ⟨Value.slice none 0 0, Value.slice none 0 0, z, (se_ ba z z), (Or.inl ⟨z, z⟩), (Or.inl ⟨z, z⟩)⟩
 ·refine WC.condF' z U (sk (th (sq (sq (rg (wY (ym z) z (wY (Y.lss_i z z) z (wY (ym z) z ?_))))))))
  refine WL.cut 6 (σ := Unit) (fun _ w' => a5 = w') (fun _ => [(1, vi a1), (2, pt aU 0), (4, pt aW 0), (21, vB ((decide (a1 < 0)) || (decide (w64 (a0.Scale - (-10)) < a1))))]) ?_ ?_
  ·refine WL.part 15 z (fun V => ?_) (fun V => ?_)
   ·refine WL.gS z z z z (WL.gS z z z z (WL.gS z z z z (WL.gS z z z z (WL.gS z z z z (wY (Y.pick (b := true) z z) z (WL.ren (v' := vB ((decide (a1 < 0)) || (decide (w64 (a0.Scale - (-10)) < a1)))) 21 z (congrArg vB (orT V)) ?_))))))
    exact nl (At.join () z (.cons z (.cons z (.cons z (.cons z .nil)))))
   ·refine ug z z (wY (ym z) z (ug z z (wY (yf fo30_0 z) z (ug z z ?_))))
    have bb := r.st a z
    refine wY (yl ty3 z z (bb.cell 0 _ z)) z (ug z z (wY (Y.sub_i z z) z (ug z z (wY (Y.gtr_i z z) z (wY (Y.pick (b := false) z z) z (WL.ren (v' := vB ((decide (a1 < 0)) || (decide (w64 (a0.Scale - (-10)) < a1)))) 21 z (congrArg vB (orF V)) ?_))))))
    exact nl (At.join () z (.cons z (.cons z (.cons z (.cons z .nil)))))
  ·rintro _ _ rfl
   refine (show WL _ _ _ _ _ [(1, vi a1), (2, pt aU 0), (4, pt aW 0), (21, vB ((decide (a1 < 0)) || (decide (w64 (a0.Scale - (-10)) < a1))))] _ from ?_)
   refine nl (th ?_)
   rcases cnd h with ⟨W, h⟩ | ⟨W, h⟩
   ·refine WC.condT' z W (sq (rg (wY (yb (vals := []) (cells := [vi 0, vu 0, vi 0, Value.slice none 0 0, vi 0, Value.slice none 0 0]) (fe_ z) (by kernel_rfl)) z ?_)))
    have bc := T.st a z
    refine WL.store (v := ag [vi 0, vu 0, vi 0, Value.slice none 0 0, vi 0, Value.slice none 0 0]) (cells' := [vi 0, vu 0, vi 0, Value.slice none 0 0, vi 0, Value.slice none 0 0]) ty30 z z bc z (le_ z) z z ?_
    intro bd ao bf
    refine wY (ya z) z (nl (th (rt (At.thenR ?_))))
    obtain ⟨rfl, rfl⟩ := tup2 h
    have bg : Stp [12] (Lg.O0 A) w X bd := (tr_ (su_ j z) (tr_ (su_ e z) (tr_ (su_ a z) (su_ ao z))))
    exact At.res (.inl z) z (.cell z (bf.runAg 0 [vi 0, vu 0, vi 0, Value.slice none 0 0, vi 0, Value.slice none 0 0] ty30 z z z) (.tmp z .nil)) ⟨Value.slice none 0 0, Value.slice none 0 0, z, (se_ bg z z), (Or.inl ⟨z, z⟩), (Or.inl ⟨z, z⟩)⟩
   ·refine WC.condF' z W (sk (th (sq (WC.drawH [] [0, 1, 2, 3, 4, 5, 6, 7, 8, 9, 10, 11, 12, 13, 14, 15, 16] X 19 fmix z (by kernel_rfl) ?_))))
    intro bI d
    refine WD.y 0 z (by kernel_rfl) (fun _ _ _ => yf fo30_0 z) z (WD.y 1 z (by kernel_rfl) (fun bJ bP ap => have bh := r.st a z; have bi := bh.st d z; have bj := bi.st ap z; yl ty3 z z (bj.cell 0 _ z)) z (WD.y 2 z (by kernel_rfl) (fun _ _ _ => ym z) z (WD.y 3 z (by kernel_rfl) (fun _ _ _ => Y.sub_i z z) z (WD.y 4 z (by kernel_rfl) (fun _ _ _ => yf fo30_1 z) z (WD.y 5 z (by kernel_rfl) (fun bK bQ aq => have bk := r.st a z; have bl := bk.st d z; have bm := bl.st aq z; yl ty25 z z (bm.cell 1 _ z)) z (WD.y 6 z (by kernel_rfl) (fun _ _ _ => yf fo30_2 z) z (WD.y 7 z (by kernel_rfl) (fun bL bR ar => have bn := r.st a z; have bo := bn.st d z; have bp := bo.st ar z; yL ty28 z z (bp.cells 2 [vi a0.Pos.Offset, (Value.slice K L M)] z) z) z (WD.y 8 z (by kernel_rfl) (fun _ _ _ => ym z) z (WD.y 9 z (by kernel_rfl) (fun _ _ _ => Y.conv_iu ty3.u ty92.u z) z ?_)))))))))
    refine WD.y 11 z (by kernel_rfl) (fun _ _ _ => yf fo30_3 z) z (WD.y 12 z (by kernel_rfl) (fun bC bM ak => have au := r.st a z; have av := au.st d z; have aw := av.st ak z; yL ty28 z z (aw.cells 4 [vi a0.Neg.Offset, (Value.slice P Q S)] z) z) z (WD.y 13 z (by kernel_rfl) (fun _ _ _ => ym z) z (WD.y 14 z (by kernel_rfl) (fun _ _ _ => Y.conv_iu ty3.u ty92.u z) z (WD.heavy 10 z (by kernel_rfl) ?_))))
    have ax := ai.i a z z
    have ay := ax.i d z z
    obtain ⟨t, az, h⟩ := bnd h
    refine WL.call (vals := [ag [vi a0.Pos.Offset, (Value.slice K L M)], vu (toU64 a1)]) kok60 z z (c_hist_down (A := fun _ => True) (a0 := a0.Pos) (Sl.all ay) az) ?_
    rintro bD aA ⟨bq, rfl, aC, br⟩
    obtain ⟨al, bu, ab, l⟩ := adoptE X (fun k => 1) aC
    have aD : Sl Rep.u aA (frs al) bq t.Counts := Sl.adoptF br (fun k hk => ⟨hk, z⟩) ab
    refine nl (At.dq (su_ l z) (WD.heavy 15 z (by kernel_rfl) ?_))
    have aE := aj.i a z z
    have aF := aE.i d z z
    have aG := aF.i l z z
    obtain ⟨C, aH, h⟩ := bnd h
    refine WL.call (vals := [ag [vi a0.Neg.Offset, (Value.slice P Q S)], vu (toU64 a1)]) kok60 z z (c_hist_down (A := fun _ => True) (a0 := a0.Neg) (Sl.all aG) aH) ?_
    rintro bE aI ⟨bs, rfl, aJ, bt⟩
    obtain ⟨am, bw, ac, m⟩ := adoptE al (fun k => 1) aJ
    have Z : Sl Rep.u aI (frs am) bs C.Counts := Sl.adoptF bt (fun k hk => ⟨hk, z⟩) ac
    refine nl (At.dq (su_ m z) ?_)
    have aa := aD.f m z
    have aK := h
    obtain ⟨D, E, F, rfl⟩ := aa.shape
    have h := aK
    have aL := h
    obtain ⟨G, H, I, rfl⟩ := Z.shape
    have h := aL
    refine WD.y 16 z (by kernel_rfl) (fun _ _ _ => yb (vals := [(0, vi (w64 (a0.Scale - a1))), (1, vu a0.Zero), (2, ag [vi t.Offset, (Value.slice D E F)]), (3, ag [vi C.Offset, (Value.slice G H I)])]) (cells := [vi (w64 (a0.Scale - a1)), vu a0.Zero, vi t.Offset, (Value.slice D E F), vi C.Offset, (Value.slice G H I)]) (fe_ z) (by kernel_rfl)) z (WD.phase [12] [0, 1, 2, 3, 4, 5, 6, 7, 8, 9, 10, 11, 12, 13, 14, 15, 16, 17, 18] (by kernel_rfl) (by kernel_rfl) (WD.heavy 17 z (by kernel_rfl) ?_))
    have aM := T.st a z
    have aN := aM.st d z
    have aO := aN.st l z
    have aP := aO.st m z
    refine WL.store (v := ag [vi (w64 (a0.Scale - a1)), vu a0.Zero, vi t.Offset, (Value.slice D E F), vi C.Offset, (Value.slice G H I)]) (cells' := [vi (w64 (a0.Scale - a1)), vu a0.Zero, vi t.Offset, (Value.slice D E F), vi C.Offset, (Value.slice G H I)]) ty30 z z aP z (le_ z) z z ?_
    intro aQ o aR
    refine nl (At.dq (su_ o z) (WD.y 18 z (by kernel_rfl) (fun _ _ _ => ya z) z (WD.done_ (by kernel_rfl) (th (rt ?_)))))
    obtain ⟨rfl, rfl⟩ := tup2 h
    have J : Stp [12] (Lg.O0 A) w am aQ := (tr_ (su_ j z) (tr_ (su_ e z) (tr_ (su_ a z) (tr_ (su_ d z) (tr_ (su_ l z) (tr_ (su_ m z) (su_ o z)))))))
    have aS := aa.f o z
    have aT := Z.f o z
    exact At.res (.inl z) z (.cell z (aR.runAg 0 [vi (w64 (a0.Scale - a1)), vu a0.Zero, vi t.Offset, (Value.slice D E F), vi C.Offset, (Value.slice G H I)] ty30 z z z) (.tmp z .nil)) ⟨(Value.slice D E F), (Value.slice G H I), z, (se_ J z z), (Sl.outF aS J low0), (Sl.outF aT J low0)⟩
theorem c_hist_Fit {A : Nat → Prop} {v0_3 : Value} {v0_5 : Value} {a0 : api_Hist} {a1 : Int} {w : World} (hs0_3 : Sl Rep.u w A v0_3 a0.Pos.Counts) (hs0_5 : Sl Rep.u w A v0_5 a0.Neg.Counts) {r0 : api_Hist} {r1 : Int} (h : hist_Fit a0 a1 = some (r0, r1)) : Rets Try.prog 43 [ag [vi a0.Scale, vu a0.Zero, vi a0.Pos.Offset, v0_3, vi a0.Neg.Offset, v0_5], vi a1] w (fun v w' => ∃ (am : Value) (an : Value), v = Value.tuple (List.toArray [ag [vi r0.Scale, vu r0.Zero, vi r0.Pos.Offset, am, vi r0.Neg.Offset, an], vi r1]) ∧ Ext w w' ∧ Sl Rep.u w' (fun k => w.heap.size ≤ k) am r0.Pos.Counts ∧ Sl Rep.u w' (fun k => w.heap.size ≤ k) an r0.Neg.Counts) := by
 unfold hist_Fit at h
 refine Rets.enter Try.func43 z z ?_
 have ao : Sl Rep.u w (imm (Lg.O0 A)) v0_3 a0.Pos.Counts := (Sl.start hs0_3)
 have ap : Sl Rep.u w (imm (Lg.O0 A)) v0_5 a0.Neg.Counts := (Sl.start hs0_5)
 refine (show WC _ _ _ _ [(0, ag [vi a0.Scale, vu a0.Zero, vi a0.Pos.Offset, v0_3, vi a0.Neg.Offset, v0_5]), (1, vi a1)] _ from ?_)
 refine sq (rg ?_)
 have bl := h
 obtain ⟨t, C, D, rfl⟩ := ao.shape
 have h := bl
 have bm := h
 obtain ⟨E, F, G, rfl⟩ := ap.shape
 have h := bm
 refine WL.box (O := (Lg.O0 A)) 11 [vi a0.Scale, vu a0.Zero, vi a0.Pos.Offset, (Value.slice t C D), vi a0.Neg.Offset, (Value.slice E F G)] z z z ?_
 intro bi bO b0 r bn
 refine WL.alloc (O := bO) 12 [vi 0, vu 0, vi 0, Value.slice none 0 0, vi 0, Value.slice none 0 0] ty30 z z ?_
 intro ad bP b1 o X
 refine wY (ya z) z (nl (th (sq (sq (rg ?_)))))
 have aq := bn.st o z
 refine wY (yL ty30 z z (aq.cells 0 [vi a0.Scale, vu a0.Zero, vi a0.Pos.Offset, (Value.slice t C D), vi a0.Neg.Offset, (Value.slice E F G)] z) z) z ?_
 have bo := ao.i r z z
 have ar := bo.i o z z
 have bp := ap.i r z z
 have au := bp.i o z z
 obtain ⟨cb, bq, h⟩ := bnd h
 refine WL.call (vals := [ag [vi a0.Scale, vu a0.Zero, vi a0.Pos.Offset, (Value.slice t C D), vi a0.Neg.Offset, (Value.slice E F G)]]) kok28 z z (c_hist_Check (A := fun _ => True) (a0 := a0) (Sl.all ar) (Sl.all au) bq) ?_
 rintro b2 av ⟨rfl, br⟩
 obtain ⟨ae, bQ, bR, d⟩ := adoptE bP (fun k => 1) br
 refine wY (ya z) z (nl (th (sq (rg (wY (ym z) z (wY (Y.neq_i z z) z (nl (th ?_))))))))
 rcases cnd h with ⟨Z, h⟩ | ⟨Z, h⟩
 ·refine WC.condT' z Z (sq (rg (wY (yb (vals := []) (cells := [vi 0, vu 0, vi 0, Value.slice none 0 0, vi 0, Value.slice none 0 0]) (fe_ z) (by kernel_rfl)) z (wY (ym z) z ?_))))
  have bs := X.st d z
  refine WL.store (v := ag [vi 0, vu 0, vi 0, Value.slice none 0 0, vi 0, Value.slice none 0 0]) (cells' := [vi 0, vu 0, vi 0, Value.slice none 0 0, vi 0, Value.slice none 0 0]) ty30 z z bs z (le_ z) z z ?_
  intro bt aC bu
  refine wY (ya z) z (nl (th (rt (At.thenR ?_))))
  obtain ⟨rfl, rfl⟩ := tup2 h
  have bw : Stp [12] (Lg.O0 A) w ae bt := (tr_ (su_ r z) (tr_ (su_ o z) (tr_ (su_ d z) (su_ aC z))))
  exact At.res (.inl z) z (.cell z (bu.runAg 0 [vi 0, vu 0, vi 0, Value.slice none 0 0, vi 0, Value.slice none 0 0] ty30 z z z) (.tmp z .nil)) ⟨Value.slice none 0 0, Value.slice none 0 0, z, (se_ bw z z), (Or.inl ⟨z, z⟩), (Or.inl ⟨z, z⟩)⟩
 ·refine WC.condF' z Z (sk (th (sq (sq (rg (wY (ya z) z (nl (th (WC.block ?_)))))))))
  obtain ⟨bj, h, aw⟩ := flow1 h
  obtain ⟨bk, h⟩ := loop_some h
  refine WC.joinB 0 (σ := Own) (fun x w' => bj = .go () ∧ Stp [] ae av x w') (fun x => [(4, pt ad 0)]) ?_ ?_
  ·refine WC.loop (σ := (Int × Own)) (fun x k w' => loopN k (hist_Fit_lp1 a0 a1) x.1 = some bj ∧ Stp [] ae av x.2 w') (fun x => [(1, vi a1), (2, pt bi 0), (4, pt ad 0), (7, vi x.1)]) (0, ae) bk (.cons z (.cons z (.cons z (.cons z .nil)))) ⟨h, (sr_ _ _ _)⟩ ?_
   rintro ⟨J, ax⟩ bk b3 ⟨h, l⟩
   obtain ⟨bS, cc, rfl, h, aa⟩ := rnd1 h
   unfold hist_Fit_lp1 at h
   try dsimp only at h l
   refine (show WC _ _ _ _ [(1, vi a1), (2, pt bi 0), (4, pt ad 0), (7, vi J)] _ from ?_)
   refine sq (sq (rg (wY (ym z) z (wY (yf fo30_0 z) z ?_))))
   have bx := aq.st d z
   have K := bx.st l z
   refine wY (yl ty3 z z (K.cell 0 _ z)) z (wY (Y.sub_i z z) z (wY (Y.leq_i z z) z (nl (th ?_))))
   rcases cnd h with ⟨ab, h⟩ | ⟨ab, h⟩
   ·refine WC.condT' z ab (sk (th (sq (WC.block (sq (WC.drawH [] [0, 1, 2, 3, 4, 5, 6, 7, 8, 9, 10, 11, 12] ax 13 fmix z (by kernel_rfl) ?_))))))
    intro b4 m
    refine WD.y 0 z (by kernel_rfl) (fun _ _ _ => yf fo30_2 z) z (WD.y 1 z (by kernel_rfl) (fun b5 cd aD => have bz := K.st m z; have bA := bz.st aD z; yL ty28 z z (bA.cells 2 [vi a0.Pos.Offset, (Value.slice t C D)] z) z) z (WD.y 2 z (by kernel_rfl) (fun _ _ _ => ym z) z (WD.y 3 z (by kernel_rfl) (fun _ _ _ => Y.conv_iu ty3.u ty92.u z) z (WD.y 5 z (by kernel_rfl) (fun _ _ _ => yf fo30_3 z) z (WD.y 6 z (by kernel_rfl) (fun b6 ce aE => have bB := K.st m z; have bC := bB.st aE z; yL ty28 z z (bC.cells 4 [vi a0.Neg.Offset, (Value.slice E F G)] z) z) z (WD.y 7 z (by kernel_rfl) (fun _ _ _ => ym z) z (WD.y 8 z (by kernel_rfl) (fun _ _ _ => Y.conv_iu ty3.u ty92.u z) z (WD.y 11 z (by kernel_rfl) (fun _ _ _ => ym z) z (WD.heavy 4 z (by kernel_rfl) ?_)))))))))
    have aF := ar.i d z z
    have aG := aF.i l z z
    have af := aG.i m z z
    obtain ⟨b7, aH, h⟩ := bnd h
    refine WL.call (vals := [ag [vi a0.Pos.Offset, (Value.slice t C D)], vu (toU64 J)]) kok73 z z (c_hist_span (A := fun _ => True) (a0 := a0.Pos) (Sl.all af) aH) ?_
    rintro bU bW ⟨rfl, aI⟩
    obtain ⟨bD, bI, bJ, e⟩ := adoptE ax (fun k => 1) aI
    refine nl (At.dq (su_ e z) (WD.heavy 9 z (by kernel_rfl) ?_))
    have aJ := au.i d z z
    have aK := aJ.i l z z
    have aL := aK.i m z z
    have ah := aL.i e z z
    obtain ⟨b8, aM, h⟩ := bnd h
    refine WL.call (vals := [ag [vi a0.Neg.Offset, (Value.slice E F G)], vu (toU64 J)]) kok73 z z (c_hist_span (A := fun _ => True) (a0 := a0.Neg) (Sl.all ah) aM) ?_
    rintro bX bY ⟨rfl, aN⟩
    obtain ⟨ay, bK, bL, j⟩ := adoptE bD (fun k => 1) aN
    refine nl (At.dq (su_ j z) (WD.y 10 z (by kernel_rfl) (fun _ _ _ => Y.max_i z z) z (WD.y 12 z (by kernel_rfl) (fun _ _ _ => Y.leq_i z z) z (WD.done_ (by kernel_rfl) (th ?_)))))
    rcases cnd h with ⟨L, h⟩ | ⟨L, h⟩
    ·refine WC.condT' z L (sq (rg ?_))
     have aO := K.st m z
     have aP := aO.st e z
     have aQ := aP.st j z
     refine wY (yL ty30 z z (aQ.cells 0 [vi a0.Scale, vu a0.Zero, vi a0.Pos.Offset, (Value.slice t C D), vi a0.Neg.Offset, (Value.slice E F G)] z) z) z (wY (ym z) z ?_)
     have aR := af.i e z z
     have aS := aR.i j z z
     have aT := ah.i j z z
     obtain ⟨⟨a, b9⟩, aU, h⟩ := bnd h
     refine WL.call (vals := [ag [vi a0.Scale, vu a0.Zero, vi a0.Pos.Offset, (Value.slice t C D), vi a0.Neg.Offset, (Value.slice E F G)], vi J]) kok31 z z (c_hist_Down (A := fun _ => True) (a0 := a0) (Sl.all aS) (Sl.all aT) aU) ?_
     rintro bZ ai ⟨bE, bF, rfl, aW, bG, bH⟩
     obtain ⟨ac, bM, I, W⟩ := adoptE ay (fun k => 1) aW
     have aj : Sl Rep.u ai (frs ac) bE a.Pos.Counts := Sl.adoptF bG (fun k hk => ⟨hk, z⟩) I
     have ak : Sl Rep.u ai (frs ac) bF a.Neg.Counts := Sl.adoptF bH (fun k hk => ⟨hk, z⟩) I
     refine wY (yx z z) z (wY (yx z z) z ?_)
     have aX := h
     obtain ⟨M, P, Q, rfl⟩ := aj.shape
     have h := aX
     have aY := h
     obtain ⟨S, T, U, rfl⟩ := ak.shape
     have h := aY
     have aZ := X.st d z
     have a2 := aZ.st l z
     have a3 := a2.st m z
     have a4 := a3.st e z
     have a5 := a4.st j z
     have a6 := a5.st W z
     refine WL.store (v := ag [vi a.Scale, vu a.Zero, vi a.Pos.Offset, (Value.slice M P Q), vi a.Neg.Offset, (Value.slice S T U)]) (cells' := [vi a.Scale, vu a.Zero, vi a.Pos.Offset, (Value.slice M P Q), vi a.Neg.Offset, (Value.slice S T U)]) ty30 z z a6 z (le_ z) z z ?_
     intro a7 H a8
     refine wY (ya z) z (nl (th (rt (At.inBlockR (At.thenR (At.loopR ?_))))))
     have h := outr1 h aa aw
     refine At.joinBR (At.inBlockR (At.thenR ?_))
     obtain ⟨rfl, rfl⟩ := tup2 h
     have V : Stp [12] (Lg.O0 A) w ac a7 := (tr_ (su_ r z) (tr_ (su_ o z) (tr_ (su_ d z) (tr_ (su_ l z) (tr_ (su_ m z) (tr_ (su_ e z) (tr_ (su_ j z) (tr_ (su_ W z) (su_ H z)))))))))
     have a9 := aj.f H z
     have ba := ak.f H z
     exact At.res (.inl z) z (.cell z (a8.runAg 0 [vi a.Scale, vu a.Zero, vi a.Pos.Offset, (Value.slice M P Q), vi a.Neg.Offset, (Value.slice S T U)] ty30 z z z) (.tmp z .nil)) ⟨(Value.slice M P Q), (Value.slice S T U), z, (se_ V z z), (Sl.outF a9 V low0), (Sl.outF ba V low0)⟩
    ·refine WC.condF' z L (sk (At.inBlock (th (rg (wY (ym z) z (wY (Y.add_i z z) z ?_))))))
     obtain ⟨bb, az, h⟩ := lt1 h
     refine WL.yE (ya z) (congrArg vi az.symm) z (nl ?_)
     exact At.round (bb, ay) bS (Nat.lt_succ_self _) ⟨next1 h aa, (tr_ (su_ l z) (tr_ (su_ m z) (tr_ (su_ e z) (su_ j z))))⟩ (.cons z (.cons z (.cons z (.cons z .nil))))
   ·refine WC.condF' z ab (WC.exit (At.thenX (At.loopX ?_)))
    exact At.hitB (σ := Own) ax ⟨brk1 h aa, (su_ l z)⟩ (.cons z .nil)
  ·rintro bT ca ⟨rfl, al⟩
   replace h := flowK_go aw
   refine (show At _ _ _ [(4, pt ad 0)] _ from ?_)
   refine At.inBlockHit (th (sq (rg (wY (yb (vals := []) (cells := [vi 0, vu 0, vi 0, Value.slice none 0 0, vi 0, Value.slice none 0 0]) (fe_ z) (by kernel_rfl)) z ?_))))
   have bc := X.st d z
   have bd := bc.st al z
   refine WL.store (v := ag [vi 0, vu 0, vi 0, Value.slice none 0 0, vi 0, Value.slice none 0 0]) (cells' := [vi 0, vu 0, vi 0, Value.slice none 0 0, vi 0, Value.slice none 0 0]) ty30 z z bd z (le_ z) z z ?_
   intro bf aA bg
   refine wY (ya z) z (nl (th (rt ?_)))
   obtain ⟨rfl, rfl⟩ := tup2 h
   have bh : Stp [12] (Lg.O0 A) w bT bf := (tr_ (su_ r z) (tr_ (su_ o z) (tr_ (su_ d z) (tr_ (su_ al z) (su_ aA z)))))
   exact At.res (.inl z) z (.cell z (bg.runAg 0 [vi 0, vu 0, vi 0, Value.slice none 0 0, vi 0, Value.slice none 0 0] ty30 z z z) (.tmp z .nil)) ⟨Value.slice none 0 0, Value.slice none 0 0, z, (se_ bh z z), (Or.inl ⟨z, z⟩), (Or.inl ⟨z, z⟩)⟩
theorem c_slices_Clone_uint64_uint64 {A : Nat → Prop} {a0 : List UInt64} {v0 : Value} {w : World} (hs0 : Sl Rep.u w A v0 a0) {r0 : List UInt64} (h : slices_Clone_uint64_uint64 a0 = some r0) : Rets Try.prog 76 [v0] w (fun v w' => ∃ (j : Value), v = j ∧ Ext w w' ∧ RowF Rep.u 25 w w' j r0) := by
  unfold slices_Clone_uint64_uint64 at h
  refine Rets.enter Try.func76 z z ?_
  refine (show WC _ _ _ _ [(0, v0)] _ from ?_)
  refine sq (rg (wY (ya z) z (nl (th ?_))))
  refine sq (sq (rg ?_))
  refine wY (ym z) z ?_
  rcases hs0.nilOr with ⟨rfl, rfl⟩ | ⟨q, n, c, rfl⟩
  · refine wY (Y.slnil (p := none) (n := 0) (c := 0) ty26.u z z) z (nl (th ?_))
    refine WC.condT z (sq (rg (wY (ya z) z (nl (th (rt (At.thenR ?_)))))))
    have : r0 = [] := by simpa [app] using h.symm
    subst this
    exact At.res (.inl z) z (.tmp z .nil) ⟨_, z, Ext.refl w, RowF.nil⟩
  · refine wY (Y.slnil (p := some _) ty26.u z z) z (nl (th ?_))
    refine WC.condF z (sk (th ?_))
    refine sq (rg ?_)
    have hs := hs0
    refine WL.buildSlice (O := Lg.O0 A) (R := Rep.u) (vals := []) 11 [] (xs := []) (by decide) ty26 ty25 (by decide) (by decide) (fe_ z) (by kernel_rfl) z z z ?_
    intro v C D a l
    refine wY (ym z) z ?_
    have m := (Sl.start hs).i a z z
    refine WL.append (by decide) ty26 ty25 z (by decide) z z l m.src h z ?_
    intro E r t e o
    refine wY (ya z) z (nl (th (rt ?_)))
    have d : Stp [11] (Lg.O0 A) w r t := (tr_ (su_ a z) e)
    exact At.res (.inl z) z (.tmp z .nil) ⟨_, z, se_ d z z, OwnSl.outF o d low0 z⟩
theorem c_hist_Clone {A : Nat → Prop} {v0_3 : Value} {v0_5 : Value} {a0 : api_Hist} {w : World} (hs0_3 : Sl Rep.u w A v0_3 a0.Pos.Counts) (hs0_5 : Sl Rep.u w A v0_5 a0.Neg.Counts) {r0 : api_Hist} (h : hist_Clone a0 = some r0) : Rets Try.prog 46 [ag [vi a0.Scale, vu a0.Zero, vi a0.Pos.Offset, v0_3, vi a0.Neg.Offset, v0_5]] w (fun v w' => ∃ (M : Value) (P : Value), v = ag [vi r0.Scale, vu r0.Zero, vi r0.Pos.Offset, M, vi r0.Neg.Offset, P] ∧ Ext w w' ∧ Sl Rep.u w' (fun k => w.heap.size ≤ k) M r0.Pos.Counts ∧ Sl Rep.u w' (fun k => w.heap.size ≤ k) P r0.Neg.Counts) := by
 unfold hist_Clone at h
 refine Rets.enter Try.func46 z z ?_
 have Q : Sl Rep.u w (imm (Lg.O0 A)) v0_3 a0.Pos.Counts := (Sl.start hs0_3)
 have S : Sl Rep.u w (imm (Lg.O0 A)) v0_5 a0.Neg.Counts := (Sl.start hs0_5)
 refine (show WC _ _ _ _ [(0, ag [vi a0.Scale, vu a0.Zero, vi a0.Pos.Offset, v0_3, vi a0.Neg.Offset, v0_5])] _ from ?_)
 refine sq (rg ?_)
 have aL := h
 obtain ⟨aG, aH, aI, rfl⟩ := Q.shape
 have h := aL
 have aM := h
 obtain ⟨T, U, V, rfl⟩ := S.shape
 have h := aM
 refine WL.box (O := (Lg.O0 A)) 11 [vi a0.Scale, vu a0.Zero, vi a0.Pos.Offset, (Value.slice aG aH aI), vi a0.Neg.Offset, (Value.slice T U V)] z z z ?_
 intro bw bf bp I K
 refine WL.alloc (O := bf) 12 [vi 0, vu 0, vi 0, Value.slice none 0 0, vi 0, Value.slice none 0 0] ty30 z z ?_
 intro bx aJ bq j aN
 refine nl (th (sq (WC.drawH [] [0, 1, 2, 3, 4, 5, 6, 7, 8, 9] aJ 14 fmix z (by kernel_rfl) ?_)))
 intro br a
 refine WD.y 0 z (by kernel_rfl) (fun _ _ _ => yf fo30_2 z) z (WD.y 1 z (by kernel_rfl) (fun _ _ _ => yf fo28_1 z) z (WD.y 2 z (by kernel_rfl) (fun bs bz ac => have aO := K.st j z; have aP := aO.st a z; have aQ := aP.st ac z; yl ty26 z z (aQ.cell 3 _ z)) z (WD.y 4 z (by kernel_rfl) (fun _ _ _ => yf fo30_3 z) z (WD.y 5 z (by kernel_rfl) (fun _ _ _ => yf fo28_1 z) z (WD.y 6 z (by kernel_rfl) (fun bt bA ad => have aR := K.st j z; have aS := aR.st a z; have aT := aS.st ad z; yl ty26 z z (aT.cell 5 _ z)) z (WD.heavy 3 z (by kernel_rfl) ?_))))))
 have aU := Q.i I z z
 have aW := aU.i j z z
 have aX := aW.i a z z
 obtain ⟨bg, aY, h⟩ := bnd h
 refine WL.call (vals := [(Value.slice aG aH aI)]) kok76 z z (c_slices_Clone_uint64_uint64 (A := fun _ => True) (Sl.all aX) aY) ?_
 rintro W aZ ⟨_, rfl, a1, bh⟩
 obtain ⟨aK, bi, X, r⟩ := adoptE aJ (fun k => if ob W = some k then 13 else 1) a1
 have a2 : OwnSl 13 Rep.u 25 aK aZ W bg := RowF.adopt 13 Flat.u bh X (fun k hk => if_pos hk)
 refine nl (At.dq (su_ r z) (WD.y 8 z (by kernel_rfl) (fun _ _ _ => yf fo30_2 z) z (WD.y 9 z (by kernel_rfl) (fun _ _ _ => yf fo28_1 z) z (WD.heavy 7 z (by kernel_rfl) ?_))))
 have a3 := S.i I z z
 have a4 := a3.i j z z
 have a5 := a4.i a z z
 have a6 := a5.i r z z
 obtain ⟨bj, a7, h⟩ := bnd h
 refine WL.call (vals := [(Value.slice T U V)]) kok76 z z (c_slices_Clone_uint64_uint64 (A := fun _ => True) (Sl.all a6) a7) ?_
 rintro Z a8 ⟨_, rfl, a9, bk⟩
 obtain ⟨bl, bm, aa, t⟩ := adoptE aK (fun k => if ob Z = some k then 14 else 1) a9
 have ba : OwnSl 14 Rep.u 25 bl a8 Z bj := RowF.adopt 14 Flat.u bk aa (fun k hk => if_pos hk)
 refine nl (At.dq (su_ t z) (WD.phase [11] [0, 1, 2, 3, 4, 5, 6, 7, 8, 9, 10, 11, 12] (by kernel_rfl) (by kernel_rfl) (WD.heavy 10 z (by kernel_rfl) ?_)))
 have ab := a2.st t z z z
 have bb := h
 obtain ⟨C, D, E, rfl⟩ := ab.shape
 have h := bb
 have bc := K.st j z
 have ae := bc.st a z
 have af := ae.st r z
 have ah := af.st t z
 refine WL.store (v := (Value.slice C D E)) (cells' := [vi a0.Scale, vu a0.Zero, vi a0.Pos.Offset, (Value.slice C D E), vi a0.Neg.Offset, (Value.slice T U V)]) ty26 z z ah z (le_ z) z z ?_
 intro bn d ai
 refine nl (At.dq (su_ d z) (WD.y 11 z (by kernel_rfl) (fun _ _ _ => yf fo30_3 z) z (WD.y 12 z (by kernel_rfl) (fun _ _ _ => yf fo28_1 z) z (WD.phase [11] [0, 1, 2, 3, 4, 5, 6, 7, 8, 9, 10, 11, 12, 13] (by kernel_rfl) (by kernel_rfl) (WD.heavy 13 z (by kernel_rfl) ?_)))))
 have L := ba.st d z z z
 have aj := h
 obtain ⟨l, m, o, rfl⟩ := L.shape
 have h := aj
 refine WL.store (v := (Value.slice l m o)) (cells' := [vi a0.Scale, vu a0.Zero, vi a0.Pos.Offset, (Value.slice C D E), vi a0.Neg.Offset, (Value.slice l m o)]) ty26 z z ai z (le_ z) z z ?_
 intro bo e ak
 refine nl (At.dq (su_ e z) (WD.done_ (by kernel_rfl) (th (sq (rg (wY (yL ty30 z z (ak.cells 0 [vi a0.Scale, vu a0.Zero, vi a0.Pos.Offset, (Value.slice C D E), vi a0.Neg.Offset, (Value.slice l m o)] z) z) z ?_))))))
 have al := aN.st a z
 have am := al.st r z
 have an := am.st t z
 have ao := an.st d z
 have ap := ao.st e z
 refine WL.store (v := ag [vi a0.Scale, vu a0.Zero, vi a0.Pos.Offset, (Value.slice C D E), vi a0.Neg.Offset, (Value.slice l m o)]) (cells' := [vi a0.Scale, vu a0.Zero, vi a0.Pos.Offset, (Value.slice C D E), vi a0.Neg.Offset, (Value.slice l m o)]) ty30 z z ap z (le_ z) z z ?_
 intro aq F ar
 refine nl (th (rt ?_))
 obtain rfl := some1 h
 have au := ab.st d z z z
 have av := au.st e z z z
 have aw := av.st F z z z
 obtain ⟨bu, G, ax⟩ := OwnSl.giveF rfl Flat.u aw
 have ay := L.st e z z z
 have az := ay.st F z z z
 have aA := az.st G z z z
 obtain ⟨bd, H, aC⟩ := OwnSl.giveF rfl Flat.u aA
 have J : Stp [11, 12, 13, 14] (Lg.O0 A) w bd aq := (tr_ (su_ I z) (tr_ (su_ j z) (tr_ (su_ a z) (tr_ (su_ r z) (tr_ (su_ t z) (tr_ (su_ d z) (tr_ (su_ e z) (tr_ (su_ F z) (tr_ (su_ G z) (su_ H z))))))))))
 have aD := ax.f H z
 have aE := ar.st G z
 have aF := aE.st H z
 exact At.res (.inl z) z (.cell z (aF.runAg 0 [vi a0.Scale, vu a0.Zero, vi a0.Pos.Offset, (Value.slice C D E), vi a0.Neg.Offset, (Value.slice l m o)] ty30 z z z) .nil) ⟨(Value.slice C D E), (Value.slice l m o), z, (se_ J z z), (Sl.outF aD J low0), (Sl.outF aC J low0)⟩
theorem c_fold_Level {A : Nat → Prop} {v0_3 : Value} {v0_5 : Value} {a0 : api_Hist} {v1_3 : Value} {v1_5 : Value} {a1 : api_Hist} {w : World} (hs0_3 : Sl Rep.u w A v0_3 a0.Pos.Counts) (hs0_5 : Sl Rep.u w A v0_5 a0.Neg.Counts) (hs1_3 : Sl Rep.u w A v1_3 a1.Pos.Counts) (hs1_5 : Sl Rep.u w A v1_5 a1.Neg.Counts) {r0 : api_Hist} {r1 : api_Hist} {r2 : Int} (h : fold_Level a0 a1 = some (r0, r1, r2)) : Rets Try.prog 52 [ag [vi a0.Scale, vu a0.Zero, vi a0.Pos.Offset, v0_3, vi a0.Neg.Offset, v0_5], ag [vi a1.Scale, vu a1.Zero, vi a1.Pos.Offset, v1_3, vi a1.Neg.Offset, v1_5]] w (fun v w' => ∃ (bb : Value) (bc : Value) (bd : Value) (bf : Value), v = Value.tuple (List.toArray [ag [vi r0.Scale, vu r0.Zero, vi r0.Pos.Offset, bb, vi r0.Neg.Offset, bc], ag [vi r1.Scale, vu r1.Zero, vi r1.Pos.Offset, bd, vi r1.Neg.Offset, bf], vi r2]) ∧ Ext w w' ∧ Sl Rep.u w' (fun k => w.heap.size ≤ k) bb r0.Pos.Counts ∧ Sl Rep.u w' (fun k => w.heap.size ≤ k) bc r0.Neg.Counts ∧ Sl Rep.u w' (fun k => w.heap.size ≤ k) bd r1.Pos.Counts ∧ Sl Rep.u w' (fun k => w.heap.size ≤ k) bf r1.Neg.Counts) := by
 unfold fold_Level at h
 refine Rets.enter Try.func52 z z ?_
 have aN : Sl Rep.u w (imm (Lg.O0 A)) v0_3 a0.Pos.Counts := (Sl.start hs0_3)
 have aO : Sl Rep.u w (imm (Lg.O0 A)) v0_5 a0.Neg.Counts := (Sl.start hs0_5)
 have c7 : Sl Rep.u w (imm (Lg.O0 A)) v1_3 a1.Pos.Counts := (Sl.start hs1_3)
 have c8 : Sl Rep.u w (imm (Lg.O0 A)) v1_5 a1.Neg.Counts := (Sl.start hs1_5)
 refine (show WC _ _ _ _ [(0, ag [vi a0.Scale, vu a0.Zero, vi a0.Pos.Offset, v0_3, vi a0.Neg.Offset, v0_5]), (1, ag [vi a1.Scale, vu a1.Zero, vi a1.Pos.Offset, v1_3, vi a1.Neg.Offset, v1_5])] _ from ?_)
 refine sq (rg ?_)
 have c9 := h
 obtain ⟨L, M, P, rfl⟩ := aN.shape
 have h := c9
 have da := h
 obtain ⟨Q, S, T, rfl⟩ := aO.shape
 have h := da
 refine WL.box (O := (Lg.O0 A)) 11 [vi a0.Scale, vu a0.Zero, vi a0.Pos.Offset, (Value.slice L M P), vi a0.Neg.Offset, (Value.slice Q S T)] z z z ?_
 intro ar dS ec U db
 have aP := c7.i U z z
 have dc := h
 obtain ⟨C, D, E, rfl⟩ := aP.shape
 have h := dc
 have aQ := c8.i U z z
 have dd := h
 obtain ⟨F, G, H, rfl⟩ := aQ.shape
 have h := dd
 refine WL.box (O := dS) 12 [vi a1.Scale, vu a1.Zero, vi a1.Pos.Offset, (Value.slice C D E), vi a1.Neg.Offset, (Value.slice F G H)] z z z ?_
 intro au dT ed m de
 refine WL.alloc (O := dT) 13 [vi 0, vu 0, vi 0, Value.slice none 0 0, vi 0, Value.slice none 0 0] ty30 z z ?_
 intro av dU ee l bg
 refine WL.alloc (O := dU) 14 [vi 0, vu 0, vi 0, Value.slice none 0 0, vi 0, Value.slice none 0 0] ty30 z z ?_
 intro aw aW aR e bh
 refine wY (ya z) z (nl (th (sq (sq (rg ?_)))))
 have df := db.st m z
 have dg := df.st l z
 have bi := dg.st e z
 refine wY (yL ty30 z z (bi.cells 0 [vi a0.Scale, vu a0.Zero, vi a0.Pos.Offset, (Value.slice L M P), vi a0.Neg.Offset, (Value.slice Q S T)] z) z) z ?_
 have dh := de.st l z
 have bj := dh.st e z
 refine wY (yL ty30 z z (bj.cells 0 [vi a1.Scale, vu a1.Zero, vi a1.Pos.Offset, (Value.slice C D E), vi a1.Neg.Offset, (Value.slice F G H)] z) z) z (wY (yb (vals := [(0, ag [vi a0.Scale, vu a0.Zero, vi a0.Pos.Offset, (Value.slice L M P), vi a0.Neg.Offset, (Value.slice Q S T)]), (1, ag [vi a1.Scale, vu a1.Zero, vi a1.Pos.Offset, (Value.slice C D E), vi a1.Neg.Offset, (Value.slice F G H)])]) (cells := [vi a0.Scale, vu a0.Zero, vi a0.Pos.Offset, (Value.slice L M P), vi a0.Neg.Offset, (Value.slice Q S T), vi a1.Scale, vu a1.Zero, vi a1.Pos.Offset, (Value.slice C D E), vi a1.Neg.Offset, (Value.slice F G H)]) (fe_ z) (by kernel_rfl)) z (wY (ym z) z (nl (th ?_))))
 obtain ⟨dV, h, bk⟩ := flow1 h
 refine WC.join (σ := Own) (fun x w' => dV = .go () ∧ Stp [15] aW aR x w') (fun x => [(2, pt ar 0), (3, pt au 0), (4, pt av 0), (5, pt aw 0)]) ?_ ?_
 ·refine WC.block ?_
  obtain ⟨c4, h, bl⟩ := flow1 h
  obtain ⟨c5, h⟩ := loop_some h
  refine WC.joinB 0 (σ := Own) (fun x w' => c4 = .go () ∧ Stp [15] aW aR x w') (fun x => [(2, pt ar 0), (3, pt au 0), (4, pt av 0), (5, pt aw 0)]) ?_ ?_
  ·refine WC.loop (σ := (Int × Own)) (fun x k w' => loopN k (fold_Level_lp1 a0 a1) x.1 = some c4 ∧ Stp [15] aW aR x.2 w') (fun x => [(2, pt ar 0), (3, pt au 0), (4, pt av 0), (5, pt aw 0), (13, ag [vi a0.Scale, vu a0.Zero, vi a0.Pos.Offset, (Value.slice L M P), vi a0.Neg.Offset, (Value.slice Q S T), vi a1.Scale, vu a1.Zero, vi a1.Pos.Offset, (Value.slice C D E), vi a1.Neg.Offset, (Value.slice F G H)]), (14, vi x.1)]) (0, aW) c5 (.cons z (.cons z (.cons z (.cons z (.cons z (.cons z .nil)))))) ⟨h, (sr_ _ _ _)⟩ ?_
   rintro ⟨c6, bm⟩ c5 di ⟨h, o⟩
   obtain ⟨dW, eo, rfl, h, aS⟩ := rnd1 h
   unfold fold_Level_lp1 at h
   try dsimp only at h o
   refine (show WC _ _ _ _ [(2, pt ar 0), (3, pt au 0), (4, pt av 0), (5, pt aw 0), (13, ag [vi a0.Scale, vu a0.Zero, vi a0.Pos.Offset, (Value.slice L M P), vi a0.Neg.Offset, (Value.slice Q S T), vi a1.Scale, vu a1.Zero, vi a1.Pos.Offset, (Value.slice C D E), vi a1.Neg.Offset, (Value.slice F G H)]), (14, vi c6)] _ from ?_)
   refine sq (rg (wY (Y.lss_i z z) z (nl (th (sq ?_)))))
   rcases cnd h with ⟨aT, h⟩ | ⟨aT, h⟩
   ·refine WC.condT' z aT (sk (th (sq (WC.block (sq (rg ?_))))))
    have dj := aN.i U z z
    have dk := dj.i m z z
    have dl := dk.i l z z
    have dm := dl.i e z z
    have dn := dm.i o z z
    have dp := aO.i U z z
    have dr := dp.i m z z
    have ds := dr.i l z z
    have dt := ds.i e z z
    have du := dt.i o z z
    have dw := aP.i m z z
    have dx := dw.i l z z
    have dy := dx.i e z z
    have dz := dy.i o z z
    have dA := aQ.i m z z
    have dB := dA.i l z z
    have dC := dB.i e z z
    have dD := dC.i o z z
    obtain ⟨j, bn, h⟩ := bnd h
    obtain ⟨ef, az, bq⟩ := arrAt (R := rep_api_Hist) (w := di) (A := imm bm) (cells := [vi a0.Scale, vu a0.Zero, vi a0.Pos.Offset, (Value.slice L M P), vi a0.Neg.Offset, (Value.slice Q S T), vi a1.Scale, vu a1.Zero, vi a1.Pos.Offset, (Value.slice C D E), vi a1.Neg.Offset, (Value.slice F G H)]) (xs := [a0, a1]) ⟨[vi a0.Scale, vu a0.Zero, vi a0.Pos.Offset, (Value.slice L M P), vi a0.Neg.Offset, (Value.slice Q S T)], [vi a1.Scale, vu a1.Zero, vi a1.Pos.Offset, (Value.slice C D E), vi a1.Neg.Offset, (Value.slice F G H)], rfl, ⟨[vi a0.Scale], [vu a0.Zero, vi a0.Pos.Offset, (Value.slice L M P), vi a0.Neg.Offset, (Value.slice Q S T)], rfl, rfl, ⟨[vu a0.Zero], [vi a0.Pos.Offset, (Value.slice L M P), vi a0.Neg.Offset, (Value.slice Q S T)], rfl, rfl, ⟨[vi a0.Pos.Offset, (Value.slice L M P)], [vi a0.Neg.Offset, (Value.slice Q S T)], rfl, ⟨[vi a0.Pos.Offset], [(Value.slice L M P)], rfl, rfl, ⟨_, rfl, dn⟩⟩, ⟨[vi a0.Neg.Offset], [(Value.slice Q S T)], rfl, rfl, ⟨_, rfl, du⟩⟩⟩⟩⟩, ⟨[vi a1.Scale, vu a1.Zero, vi a1.Pos.Offset, (Value.slice C D E), vi a1.Neg.Offset, (Value.slice F G H)], [], rfl, ⟨[vi a1.Scale], [vu a1.Zero, vi a1.Pos.Offset, (Value.slice C D E), vi a1.Neg.Offset, (Value.slice F G H)], rfl, rfl, ⟨[vu a1.Zero], [vi a1.Pos.Offset, (Value.slice C D E), vi a1.Neg.Offset, (Value.slice F G H)], rfl, rfl, ⟨[vi a1.Pos.Offset, (Value.slice C D E)], [vi a1.Neg.Offset, (Value.slice F G H)], rfl, ⟨[vi a1.Pos.Offset], [(Value.slice C D E)], rfl, rfl, ⟨_, rfl, dz⟩⟩, ⟨[vi a1.Neg.Offset], [(Value.slice F G H)], rfl, rfl, ⟨_, rfl, dD⟩⟩⟩⟩⟩, rfl⟩⟩ bn
    obtain ⟨_, _, rfl, rfl, ⟨_, _, rfl, rfl, ⟨_, _, rfl, ⟨_, _, rfl, rfl, ⟨dX, rfl, br⟩⟩, ⟨_, _, rfl, rfl, ⟨dE, rfl, bs⟩⟩⟩⟩⟩ := bq
    replace az : _ = [vi j.Scale, vu j.Zero, vi j.Pos.Offset, dX, vi j.Neg.Offset, dE] := az
    refine wY (Y.indexArrAg ty118 ty30 z z az bn) z (WL.alloc (O := bm) 15 [vi 0, vu 0, vi 0, Value.slice none 0 0, vi 0, Value.slice none 0 0] ty30 z z ?_)
    intro eg dF d0 V bt
    have aX := br.i V z z
    have bu := h
    obtain ⟨aA, aC, aD, rfl⟩ := aX.shape
    have h := bu
    have aY := bs.i V z z
    have bw := h
    obtain ⟨aE, aF, aG, rfl⟩ := aY.shape
    have h := bw
    refine WL.store (v := ag [vi j.Scale, vu j.Zero, vi j.Pos.Offset, (Value.slice aA aC aD), vi j.Neg.Offset, (Value.slice aE aF aG)]) (cells' := [vi j.Scale, vu j.Zero, vi j.Pos.Offset, (Value.slice aA aC aD), vi j.Neg.Offset, (Value.slice aE aF aG)]) ty30 z z bt z (le_ z) z z ?_
    intro d1 W bx
    refine nl (th (sq (rg (wY (yL ty30 z z (bx.cells 0 [vi j.Scale, vu j.Zero, vi j.Pos.Offset, (Value.slice aA aC aD), vi j.Neg.Offset, (Value.slice aE aF aG)] z) z) z ?_))))
    have bz := aX.i W z z
    have bA := aY.i W z z
    obtain ⟨eh, bB, h⟩ := bnd h
    refine WL.call (vals := [ag [vi j.Scale, vu j.Zero, vi j.Pos.Offset, (Value.slice aA aC aD), vi j.Neg.Offset, (Value.slice aE aF aG)]]) kok28 z z (c_hist_Check (A := fun _ => True) (a0 := j) (Sl.all bz) (Sl.all bA) bB) ?_
    rintro d2 d3 ⟨rfl, bC⟩
    obtain ⟨bo, dO, dP, ao⟩ := adoptE dF (fun k => 1) bC
    refine wY (ya z) z (nl (th (sq (rg (wY (ym z) z (wY (Y.neq_i z z) z (nl (th ?_))))))))
    rcases cnd h with ⟨aH, h⟩ | ⟨aH, h⟩
    ·refine WC.condT' z aH (sq (rg (wY (yb (vals := []) (cells := [vi 0, vu 0, vi 0, Value.slice none 0 0, vi 0, Value.slice none 0 0]) (fe_ z) (by kernel_rfl)) z (wY (yb (vals := []) (cells := [vi 0, vu 0, vi 0, Value.slice none 0 0, vi 0, Value.slice none 0 0]) (fe_ z) (by kernel_rfl)) z (wY (ym z) z ?_)))))
     have bD := bg.st e z
     have bE := bD.st o z
     have bF := bE.st V z
     have bG := bF.st W z
     have bH := bG.st ao z
     refine WL.store (v := ag [vi 0, vu 0, vi 0, Value.slice none 0 0, vi 0, Value.slice none 0 0]) (cells' := [vi 0, vu 0, vi 0, Value.slice none 0 0, vi 0, Value.slice none 0 0]) ty30 z z bH z (le_ z) z z ?_
     intro d4 aK bI
     have bJ := bh.st o z
     have bK := bJ.st V z
     have bL := bK.st W z
     have bM := bL.st ao z
     have bO := bM.st aK z
     refine WL.store (v := ag [vi 0, vu 0, vi 0, Value.slice none 0 0, vi 0, Value.slice none 0 0]) (cells' := [vi 0, vu 0, vi 0, Value.slice none 0 0, vi 0, Value.slice none 0 0]) ty30 z z bO z (le_ z) z z ?_
     intro bP aL bQ
     refine wY (ya z) z (nl (th (rt (At.inBlockR (At.thenR (At.loopR ?_))))))
     have h := outr1 h aS bl
     refine At.joinBR (At.inBlockR ?_)
     have h := outs1 h bk
     refine At.joinR (At.thenR ?_)
     obtain ⟨rfl, rfl, rfl⟩ := tup3 h
     have bR : Stp [13, 14, 15] (Lg.O0 A) w bo bP := (tr_ (su_ U z) (tr_ (su_ m z) (tr_ (su_ l z) (tr_ (su_ e z) (tr_ (su_ o z) (tr_ (su_ V z) (tr_ (su_ W z) (tr_ (su_ ao z) (tr_ (su_ aK z) (su_ aL z))))))))))
     have bS := bI.st aL z
     exact At.res (.inl z) z (.cell z (bS.runAg 0 [vi 0, vu 0, vi 0, Value.slice none 0 0, vi 0, Value.slice none 0 0] ty30 z z z) (.cell z (bQ.runAg 0 [vi 0, vu 0, vi 0, Value.slice none 0 0, vi 0, Value.slice none 0 0] ty30 z z z) (.tmp z .nil))) ⟨Value.slice none 0 0, Value.slice none 0 0, Value.slice none 0 0, Value.slice none 0 0, z, (se_ bR z z), (Or.inl ⟨z, z⟩), (Or.inl ⟨z, z⟩), (Or.inl ⟨z, z⟩), (Or.inl ⟨z, z⟩)⟩
    ·refine WC.condF' z aH (sk (At.inBlock (th (rg (wY (Y.add_i z z) z (wY (ym z) z (nl ?_)))))))
     exact At.round (w64 (c6 + 1), bo) dW (Nat.lt_succ_self _) ⟨next1 h aS, (tr_ (su_ o z) (tr_ (su_ V z) (tr_ (su_ W z) (su_ ao z))))⟩ (.cons z (.cons z (.cons z (.cons z (.cons z (.cons z .nil))))))
   ·refine WC.condF' z aT (WC.exit (At.thenX (At.loopX ?_)))
    exact At.hitB (σ := Own) bm ⟨brk1 h aS, (su_ o z)⟩ (.cons z (.cons z (.cons z (.cons z .nil))))
  ·rintro dY ei ⟨rfl, bT⟩
   replace h := flowK_go bl
   refine (show At _ _ _ [(2, pt ar 0), (3, pt au 0), (4, pt av 0), (5, pt aw 0)] _ from ?_)
   refine At.inBlockHit ?_
   exact At.join (σ := Own) dY ⟨go2 h, (su_ bT z)⟩ (.cons z (.cons z (.cons z (.cons z .nil))))
 ·rintro dZ ej ⟨rfl, t⟩
  replace h := flowK_go bk
  refine (show At _ _ _ [(2, pt ar 0), (3, pt au 0), (4, pt av 0), (5, pt aw 0)] _ from ?_)
  refine th (sq (rg (wY (yf fo30_0 z) z ?_)))
  have aI := bi.st t z
  refine wY (yl ty3 z z (aI.cell 0 _ z)) z (wY (yf fo30_0 z) z ?_)
  have aZ := bj.st t z
  refine wY (yl ty3 z z (aZ.cell 0 _ z)) z (wY (Y.min_i z z) z ?_)
  obtain ⟨aq, aM, h⟩ := lt1 h
  refine WL.yE (ya z) (congrArg vi aM.symm) z (nl (th (sq (rg (wY (yL ty30 z z (aI.cells 0 [vi a0.Scale, vu a0.Zero, vi a0.Pos.Offset, (Value.slice L M P), vi a0.Neg.Offset, (Value.slice Q S T)] z) z) z (wY (yf fo30_0 z) z (wY (yl ty3 z z (aI.cell 0 _ z)) z (wY (ym z) z (wY (Y.sub_i z z) z ?_)))))))))
  have bU := aN.i U z z
  have bW := bU.i m z z
  have bX := bW.i l z z
  have bY := bX.i e z z
  have bZ := bY.i t z z
  have b0 := aO.i U z z
  have b1 := b0.i m z z
  have b2 := b1.i l z z
  have b3 := b2.i e z z
  have b4 := b3.i t z z
  obtain ⟨⟨a, ek⟩, b5, h⟩ := bnd h
  refine WL.call (vals := [ag [vi a0.Scale, vu a0.Zero, vi a0.Pos.Offset, (Value.slice L M P), vi a0.Neg.Offset, (Value.slice Q S T)], vi (w64 (a0.Scale - aq))]) kok31 z z (c_hist_Down (A := fun _ => True) (a0 := a0) (Sl.all bZ) (Sl.all b4) b5) ?_
  rintro d5 a2 ⟨dG, dH, rfl, b6, dI, dJ⟩
  obtain ⟨aU, dQ, ax, X⟩ := adoptE dZ (fun k => 1) b6
  have a3 : Sl Rep.u a2 (frs aU) dG a.Pos.Counts := Sl.adoptF dI (fun k hk => ⟨hk, z⟩) ax
  have a4 : Sl Rep.u a2 (frs aU) dH a.Neg.Counts := Sl.adoptF dJ (fun k hk => ⟨hk, z⟩) ax
  refine wY (ym z) z (wY (yx z z) z (wY (yx z z) z ?_))
  have b7 := h
  obtain ⟨ab, ac, ad, rfl⟩ := a3.shape
  have h := b7
  have b8 := h
  obtain ⟨ae, af, ah, rfl⟩ := a4.shape
  have h := b8
  have b9 := bg.st e z
  have ca := b9.st t z
  have cb := ca.st X z
  refine WL.store (v := ag [vi a.Scale, vu a.Zero, vi a.Pos.Offset, (Value.slice ab ac ad), vi a.Neg.Offset, (Value.slice ae af ah)]) (cells' := [vi a.Scale, vu a.Zero, vi a.Pos.Offset, (Value.slice ab ac ad), vi a.Neg.Offset, (Value.slice ae af ah)]) ty30 z z cb z (le_ z) z z ?_
  intro d6 I cc
  refine nl (th (sq (rg ?_)))
  have cd := aZ.st X z
  have a5 := cd.st I z
  refine wY (yL ty30 z z (a5.cells 0 [vi a1.Scale, vu a1.Zero, vi a1.Pos.Offset, (Value.slice C D E), vi a1.Neg.Offset, (Value.slice F G H)] z) z) z (wY (yf fo30_0 z) z (wY (yl ty3 z z (a5.cell 0 _ z)) z (wY (ym z) z (wY (Y.sub_i z z) z ?_))))
  have ce := aP.i m z z
  have cf := ce.i l z z
  have cg := cf.i e z z
  have ch := cg.i t z z
  have ci := ch.i X z z
  have cj := ci.i I z z
  have ck := aQ.i m z z
  have cl := ck.i l z z
  have cm := cl.i e z z
  have cn := cm.i t z z
  have co := cn.i X z z
  have cp := co.i I z z
  obtain ⟨⟨d, em⟩, cq, h⟩ := bnd h
  refine WL.call (vals := [ag [vi a1.Scale, vu a1.Zero, vi a1.Pos.Offset, (Value.slice C D E), vi a1.Neg.Offset, (Value.slice F G H)], vi (w64 (a1.Scale - aq))]) kok31 z z (c_hist_Down (A := fun _ => True) (a0 := a1) (Sl.all cj) (Sl.all cp) cq) ?_
  rintro d7 a6 ⟨dK, dL, rfl, cr, dM, dN⟩
  obtain ⟨aJ, dR, ay, aa⟩ := adoptE aU (fun k => 1) cr
  have a7 : Sl Rep.u a6 (frs aJ) dK d.Pos.Counts := Sl.adoptF dM (fun k hk => ⟨hk, z⟩) ay
  have a8 : Sl Rep.u a6 (frs aJ) dL d.Neg.Counts := Sl.adoptF dN (fun k hk => ⟨hk, z⟩) ay
  refine wY (ym z) z (wY (yx z z) z (wY (yx z z) z ?_))
  have cs := h
  obtain ⟨ai, aj, ak, rfl⟩ := a7.shape
  have h := cs
  have ct := h
  obtain ⟨al, am, an, rfl⟩ := a8.shape
  have h := ct
  have cu := bh.st t z
  have cw := cu.st X z
  have cx := cw.st I z
  have cy := cx.st aa z
  refine WL.store (v := ag [vi d.Scale, vu d.Zero, vi d.Pos.Offset, (Value.slice ai aj ak), vi d.Neg.Offset, (Value.slice al am an)]) (cells' := [vi d.Scale, vu d.Zero, vi d.Pos.Offset, (Value.slice ai aj ak), vi d.Neg.Offset, (Value.slice al am an)]) ty30 z z cy z (le_ z) z z ?_
  intro d8 Z a9
  refine nl (th (sq (WC.drawH [13] [0, 1, 2] aJ 5 fmix z (by kernel_rfl) ?_)))
  intro d9 r
  refine WD.y 1 z (by kernel_rfl) (fun ea en bp => have cz := a9.st r z; have cA := cz.st bp z; yL ty30 z z (cA.cells 0 [vi d.Scale, vu d.Zero, vi d.Pos.Offset, (Value.slice ai aj ak), vi d.Neg.Offset, (Value.slice al am an)] z) z) z (WD.heavy 0 z (by kernel_rfl) ?_)
  have cC := cc.st aa z
  have cD := cC.st Z z
  have ba := cD.st r z
  refine wY (yL ty30 z z (ba.cells 0 [vi a.Scale, vu a.Zero, vi a.Pos.Offset, (Value.slice ab ac ad), vi a.Neg.Offset, (Value.slice ae af ah)] z) z) z (nl (At.dq (sr_ _ _ _) (WD.heavy 2 z (by kernel_rfl) (WL.store (v := ag [vi a.Scale, vu a.Zero, vi a.Pos.Offset, (Value.slice ab ac ad), vi a.Neg.Offset, (Value.slice ae af ah)]) (cells' := [vi a.Scale, vu a.Zero, vi a.Pos.Offset, (Value.slice ab ac ad), vi a.Neg.Offset, (Value.slice ae af ah)]) ty30 z z ba z (le_ z) z z ?_))))
  intro eb J cE
  refine nl (At.dq (su_ J z) (WD.phase [14] [0, 1, 2, 3, 4] (by kernel_rfl) (by kernel_rfl) (WD.heavy 3 z (by kernel_rfl) ?_)))
  have cF := a9.st r z
  have cG := cF.st J z
  refine WL.store (v := ag [vi d.Scale, vu d.Zero, vi d.Pos.Offset, (Value.slice ai aj ak), vi d.Neg.Offset, (Value.slice al am an)]) (cells' := [vi d.Scale, vu d.Zero, vi d.Pos.Offset, (Value.slice ai aj ak), vi d.Neg.Offset, (Value.slice al am an)]) ty30 z z cG z (le_ z) z z ?_
  intro cH K cI
  refine nl (At.dq (su_ K z) (WD.y 4 z (by kernel_rfl) (fun _ _ _ => ya z) z (WD.done_ (by kernel_rfl) (th (rt ?_)))))
  obtain ⟨rfl, rfl, rfl⟩ := tup3 h
  have ap : Stp [13, 14, 15] (Lg.O0 A) w aJ cH := (tr_ (su_ U z) (tr_ (su_ m z) (tr_ (su_ l z) (tr_ (su_ e z) (tr_ (su_ t z) (tr_ (su_ X z) (tr_ (su_ I z) (tr_ (su_ aa z) (tr_ (su_ Z z) (tr_ (su_ r z) (tr_ (su_ J z) (su_ K z))))))))))))
  have cJ := a3.f I z
  have cK := cJ.f aa z
  have cL := cK.f Z z
  have cM := cL.f r z
  have cN := cM.f J z
  have cO := cN.f K z
  have cP := a4.f I z
  have cQ := cP.f aa z
  have cR := cQ.f Z z
  have cS := cR.f r z
  have cT := cS.f J z
  have cU := cT.f K z
  have cV := a7.f Z z
  have cW := cV.f r z
  have cX := cW.f J z
  have cY := cX.f K z
  have cZ := a8.f Z z
  have c0 := cZ.f r z
  have c1 := c0.f J z
  have c2 := c1.f K z
  have c3 := cE.st K z
  exact At.res (.inl z) z (.cell z (c3.runAg 0 [vi a.Scale, vu a.Zero, vi a.Pos.Offset, (Value.slice ab ac ad), vi a.Neg.Offset, (Value.slice ae af ah)] ty30 z z z) (.cell z (cI.runAg 0 [vi d.Scale, vu d.Zero, vi d.Pos.Offset, (Value.slice ai aj ak), vi d.Neg.Offset, (Value.slice al am an)] ty30 z z z) (.tmp z .nil))) ⟨(Value.slice ab ac ad), (Value.slice ae af ah), (Value.slice ai aj ak), (Value.slice al am an), z, (se_ ap z z), (Sl.outF cO ap low0), (Sl.outF cU ap low0), (Sl.outF cY ap low0), (Sl.outF c2 ap low0)⟩
theorem c_todelta_check {A : Nat → Prop} {v0_9 : Value} {v0_11 : Value} {a0 : api_State} {v1_1 : Value} {v1_13 : Value} {v1_15 : Value} {a1 : api_Point} {w : World} (hs0_9 : Sl Rep.u w A v0_9 a0.Hist.Pos.Counts) (hs0_11 : Sl Rep.u w A v0_11 a0.Hist.Neg.Counts) (hs1_1 : Sl rep_api_Pair w A v1_1 a1.Attrs) (hs1_13 : Sl Rep.u w A v1_13 a1.Hist.Pos.Counts) (hs1_15 : Sl Rep.u w A v1_15 a1.Hist.Neg.Counts) {r0 : Int} (h : todelta_check a0 a1 = some r0) : Rets Try.prog 63 [ag [vB a0.Some, vi a0.Start, vi a0.Time, vi a0.Int_, vu a0.Re, vu a0.Im, vi a0.Hist.Scale, vu a0.Hist.Zero, vi a0.Hist.Pos.Offset, v0_9, vi a0.Hist.Neg.Offset, v0_11], ag [vs a1.Name, v1_1, vi a1.Kind, vi a1.Temp, vB a1.Mono, vi a1.Start, vi a1.Time, vi a1.Int_, vu a1.Re, vu a1.Im, vi a1.Hist.Scale, vu a1.Hist.Zero, vi a1.Hist.Pos.Offset, v1_13, vi a1.Hist.Neg.Offset, v1_15, vi a1.Flags]] w (fun v w' => v = vi r0 ∧ Ext w w') := by
 unfold todelta_check at h
 refine Rets.enter Try.func63 z z ?_
 have F : Sl Rep.u w (imm (Lg.O0 A)) v0_9 a0.Hist.Pos.Counts := (Sl.start hs0_9)
 have G : Sl Rep.u w (imm (Lg.O0 A)) v0_11 a0.Hist.Neg.Counts := (Sl.start hs0_11)
 have H : Sl rep_api_Pair w (imm (Lg.O0 A)) v1_1 a1.Attrs := (Sl.start hs1_1)
 have I : Sl Rep.u w (imm (Lg.O0 A)) v1_13 a1.Hist.Pos.Counts := (Sl.start hs1_13)
 have J : Sl Rep.u w (imm (Lg.O0 A)) v1_15 a1.Hist.Neg.Counts := (Sl.start hs1_15)
 refine (show WC _ _ _ _ [(0, ag [vB a0.Some, vi a0.Start, vi a0.Time, vi a0.Int_, vu a0.Re, vu a0.Im, vi a0.Hist.Scale, vu a0.Hist.Zero, vi a0.Hist.Pos.Offset, v0_9, vi a0.Hist.Neg.Offset, v0_11]), (1, ag [vs a1.Name, v1_1, vi a1.Kind, vi a1.Temp, vB a1.Mono, vi a1.Start, vi a1.Time, vi a1.Int_, vu a1.Re, vu a1.Im, vi a1.Hist.Scale, vu a1.Hist.Zero, vi a1.Hist.Pos.Offset, v1_13, vi a1.Hist.Neg.Offset, v1_15, vi a1.Flags])] _ from ?_)
 refine sq (rg ?_)
 have K := h
 obtain ⟨ai, aj, ak, rfl⟩ := F.shape
 have h := K
 have L := h
 obtain ⟨al, am, an, rfl⟩ := G.shape
 have h := L
 refine WL.box (O := (Lg.O0 A)) 11 [vB a0.Some, vi a0.Start, vi a0.Time, vi a0.Int_, vu a0.Re, vu a0.Im, vi a0.Hist.Scale, vu a0.Hist.Zero, vi a0.Hist.Pos.Offset, (Value.slice ai aj ak), vi a0.Hist.Neg.Offset, (Value.slice al am an)] z z z ?_
 intro aC ao aA a M
 have P := H.i a z z
 have Q := h
 obtain ⟨ap, aq, ar, rfl⟩ := P.shape
 have h := Q
 have S := I.i a z z
 have T := h
 obtain ⟨au, av, aw, rfl⟩ := S.shape
 have h := T
 have U := J.i a z z
 have V := h
 obtain ⟨ax, ay, az, rfl⟩ := U.shape
 have h := V
 refine WL.box (O := ao) 12 [vs a1.Name, (Value.slice ap aq ar), vi a1.Kind, vi a1.Temp, vB a1.Mono, vi a1.Start, vi a1.Time, vi a1.Int_, vu a1.Re, vu a1.Im, vi a1.Hist.Scale, vu a1.Hist.Zero, vi a1.Hist.Pos.Offset, (Value.slice au av aw), vi a1.Hist.Neg.Offset, (Value.slice ax ay az), vi a1.Flags] z z z ?_
 intro aD l e d m
 refine wY (ya z) z (nl (th (sq (WC.block (sq (rg (wY (yf fo32_0 z) z ?_)))))))
 have j := M.st d z
 refine wY (yl ty4 z z (j.cell 0 _ z)) z (wY (Y.not z) z ?_)
 obtain ⟨aE, W, h⟩ := lt1 h
 refine WL.yE (ya z) (congrArg vB W.symm) z (nl (th ?_))
 rcases cnd h with ⟨o, h⟩ | ⟨o, h⟩
 ·refine WC.condT' z o (sq (rg (wY (ya z) z (nl (th (rt (At.inBlockR (At.thenR ?_))))))))
  obtain rfl := some1 h
  have X : Stp [] (Lg.O0 A) w l e := (tr_ (su_ a z) (su_ d z))
  exact At.res (.inl z) z (.tmp z .nil) ⟨z, (se_ X z z)⟩
 ·refine WC.condF' z o (sq (rg (wY (yf fo37_6 z) z (wY (yl ty3 z z (m.cell 6 _ z)) z (wY (yf fo32_2 z) z (wY (yl ty3 z z (j.cell 2 _ z)) z (wY (Y.leq_i z z) z ?_)))))))
  obtain ⟨aF, Z, h⟩ := lt1 h
  refine WL.yE (ya z) (congrArg vB Z.symm) z (nl (th ?_))
  rcases cnd h with ⟨r, h⟩ | ⟨r, h⟩
  ·refine WC.condT' z r (sq (rg (wY (ya z) z (nl (th (rt (At.inBlockR (At.thenR ?_))))))))
   obtain rfl := some1 h
   have aa : Stp [] (Lg.O0 A) w l e := (tr_ (su_ a z) (su_ d z))
   exact At.res (.inl z) z (.tmp z .nil) ⟨z, (se_ aa z z)⟩
  ·refine WC.condF' z r (sq (sq (rg (wY (yf fo37_5 z) z (wY (yl ty3 z z (m.cell 5 _ z)) z (wY (yf fo32_1 z) z (wY (yl ty3 z z (j.cell 1 _ z)) z (wY (Y.lss_i z z) z ?_))))))))
   obtain ⟨aG, ab, h⟩ := lt1 h
   refine WL.yE (ya z) (congrArg vB ab.symm) z (nl (th ?_))
   rcases cnd h with ⟨t, h⟩ | ⟨t, h⟩
   ·refine WC.condT' z t (sk (th ?_))
    rcases cnd h with ⟨C, h⟩ | ⟨C, h⟩
    ·refine WC.condT' z C (sq (rg (wY (ya z) z (nl (th (rt (At.inBlockR (At.thenR ?_))))))))
     obtain rfl := some1 h
     have ac : Stp [] (Lg.O0 A) w l e := (tr_ (su_ a z) (su_ d z))
     exact At.res (.inl z) z (.tmp z .nil) ⟨z, (se_ ac z z)⟩
    ·refine WC.condF' z C (sk (At.inBlock (th (sq (rg (wY (ya z) z (nl (th (rt ?_)))))))))
     obtain rfl := some1 h
     have ad : Stp [] (Lg.O0 A) w l e := (tr_ (su_ a z) (su_ d z))
     exact At.res (.inl z) z (.tmp z .nil) ⟨z, (se_ ad z z)⟩
   ·refine WC.condF' z t (rg (wY (yf fo37_5 z) z (wY (yl ty3 z z (m.cell 5 _ z)) z (wY (yf fo32_1 z) z (wY (yl ty3 z z (j.cell 1 _ z)) z (wY (Y.gtr_i z z) z (wY (ym z) z ?_)))))))
    refine WL.cut 6 (σ := Unit) (fun _ w' => e = w') (fun _ => [(32, vB ((decide (a0.Start < a1.Start)) && (decide (a1.Start < a0.Time))))]) ?_ ?_
    ·refine WL.part 26 z (fun D => ?_) (fun D => ?_)
     ·refine ug z z (wY (yf fo37_5 z) z (ug z z (wY (yl ty3 z z (m.cell 5 _ z)) z (ug z z (wY (yf fo32_2 z) z (ug z z (wY (yl ty3 z z (j.cell 2 _ z)) z (ug z z (wY (Y.lss_i z z) z ?_)))))))))
      refine wY (Y.pick (b := true) z z) z (WL.ren (v' := vB ((decide (a0.Start < a1.Start)) && (decide (a1.Start < a0.Time)))) 32 z (congrArg vB (andT D)) ?_)
      exact nl (At.join () z (.cons z .nil))
     ·refine WL.gS z z z z (WL.gS z z z z (WL.gS z z z z (WL.gS z z z z (WL.gS z z z z (wY (Y.pick (b := false) z z) z (WL.ren (v' := vB ((decide (a0.Start < a1.Start)) && (decide (a1.Start < a0.Time)))) 32 z (congrArg vB (andF D)) ?_))))))
      exact nl (At.join () z (.cons z .nil))
    ·rintro _ _ rfl
     refine (show WL _ _ _ _ _ [(32, vB ((decide (a0.Start < a1.Start)) && (decide (a1.Start < a0.Time))))] _ from ?_)
     obtain ⟨aH, ae, h⟩ := lt1 h
     refine WL.yE (ya z) (congrArg vB ae.symm) z (nl (th ?_))
     rcases cnd h with ⟨E, h⟩ | ⟨E, h⟩
     ·refine WC.condT' z E (sq (rg (wY (ya z) z (nl (th (rt (At.inBlockR (At.thenR ?_))))))))
      obtain rfl := some1 h
      have af : Stp [] (Lg.O0 A) w l e := (tr_ (su_ a z) (su_ d z))
      exact At.res (.inl z) z (.tmp z .nil) ⟨z, (se_ af z z)⟩
     ·refine WC.condF' z E (sk (At.inBlock (th (sq (rg (wY (ya z) z (nl (th (rt ?_)))))))))
      obtain rfl := some1 h
      have ah : Stp [] (Lg.O0 A) w l e := (tr_ (su_ a z) (su_ d z))
      exact At.res (.inl z) z (.tmp z .nil) ⟨z, (se_ ah z z)⟩
theorem c_slices_Clone_api_Pair_api_Pair {A : Nat → Prop} {a0 : List api_Pair} {v0 : Value} {w : World} (hs0 : Sl rep_api_Pair w A v0 a0) {r0 : List api_Pair} (h : slices_Clone_api_Pair_api_Pair a0 = some r0) : Rets Try.prog 88 [v0] w (fun v w' => ∃ (j : Value), v = j ∧ Ext w w' ∧ RowF rep_api_Pair 107 w w' j r0) := by
  unfold slices_Clone_api_Pair_api_Pair at h
  refine Rets.enter Try.func88 z z ?_
  refine (show WC _ _ _ _ [(0, v0)] _ from ?_)
  refine sq (rg (wY (ya z) z (nl (th ?_))))
  refine sq (sq (rg ?_))
  refine wY (ym z) z ?_
  rcases hs0.nilOr with ⟨rfl, rfl⟩ | ⟨q, n, c, rfl⟩
  · refine wY (Y.slnil (p := none) (n := 0) (c := 0) ty35.u z z) z (nl (th ?_))
    refine WC.condT z (sq (rg (wY (ya z) z (nl (th (rt (At.thenR ?_)))))))
    have : r0 = [] := by simpa [app] using h.symm
    subst this
    exact At.res (.inl z) z (.tmp z .nil) ⟨_, z, Ext.refl w, RowF.nil⟩
  · refine wY (Y.slnil (p := some _) ty35.u z z) z (nl (th ?_))
    refine WC.condF z (sk (th ?_))
    refine sq (rg ?_)
    have hs := hs0
    refine WL.buildSlice (O := Lg.O0 A) (R := rep_api_Pair) (vals := []) 11 [] (xs := []) (by decide) ty35 ty107 (by decide) (by decide) (fe_ z) (by kernel_rfl) z z z ?_
    intro v C D a l
    refine wY (ym z) z ?_
    have m := (Sl.start hs).i a z z
    refine WL.append (by decide) ty35 ty107 z (by decide) z z l m.src h z ?_
    intro E r t e o
    refine wY (ya z) z (nl (th (rt ?_)))
    have d : Stp [11] (Lg.O0 A) w r t := (tr_ (su_ a z) e)
    exact At.res (.inl z) z (.tmp z .nil) ⟨_, z, se_ d z z, OwnSl.outF o d low0 z⟩
theorem c_point_Clone {A : Nat → Prop} {v0_1 : Value} {v0_13 : Value} {v0_15 : Value} {a0 : api_Point} {w : World} (hs0_1 : Sl rep_api_Pair w A v0_1 a0.Attrs) (hs0_13 : Sl Rep.u w A v0_13 a0.Hist.Pos.Counts) (hs0_15 : Sl Rep.u w A v0_15 a0.Hist.Neg.Counts) {r0 : api_Point} (h : point_Clone a0 = some r0) : Rets Try.prog 64 [ag [vs a0.Name, v0_1, vi a0.Kind, vi a0.Temp, vB a0.Mono, vi a0.Start, vi a0.Time, vi a0.Int_, vu a0.Re, vu a0.Im, vi a0.Hist.Scale, vu a0.Hist.Zero, vi a0.Hist.Pos.Offset, v0_13, vi a0.Hist.Neg.Offset, v0_15, vi a0.Flags]] w (fun v w' => ∃ (Z : Value) (P : Value) (Q : Value), v = ag [vs r0.Name, Z, vi r0.Kind, vi r0.Temp, vB r0.Mono, vi r0.Start, vi r0.Time, vi r0.Int_, vu r0.Re, vu r0.Im, vi r0.Hist.Scale, vu r0.Hist.Zero, vi r0.Hist.Pos.Offset, P, vi r0.Hist.Neg.Offset, Q, vi r0.Flags] ∧ Ext w w' ∧ Sl rep_api_Pair w' (fun k => w.heap.size ≤ k) Z r0.Attrs ∧ Sl Rep.u w' (fun k => w.heap.size ≤ k) P r0.Hist.Pos.Counts ∧ Sl Rep.u w' (fun k => w.heap.size ≤ k) Q r0.Hist.Neg.Counts) := by
 unfold point_Clone at h
 refine Rets.enter Try.func64 z z ?_
 have aa : Sl rep_api_Pair w (imm (Lg.O0 A)) v0_1 a0.Attrs := (Sl.start hs0_1)
 have ab : Sl Rep.u w (imm (Lg.O0 A)) v0_13 a0.Hist.Pos.Counts := (Sl.start hs0_13)
 have ac : Sl Rep.u w (imm (Lg.O0 A)) v0_15 a0.Hist.Neg.Counts := (Sl.start hs0_15)
 refine (show WC _ _ _ _ [(0, ag [vs a0.Name, v0_1, vi a0.Kind, vi a0.Temp, vB a0.Mono, vi a0.Start, vi a0.Time, vi a0.Int_, vu a0.Re, vu a0.Im, vi a0.Hist.Scale, vu a0.Hist.Zero, vi a0.Hist.Pos.Offset, v0_13, vi a0.Hist.Neg.Offset, v0_15, vi a0.Flags])] _ from ?_)
 refine sq (rg ?_)
 have aH := h
 obtain ⟨aC, aD, aE, rfl⟩ := aa.shape
 have h := aH
 have aI := h
 obtain ⟨S, T, U, rfl⟩ := ab.shape
 have h := aI
 have aJ := h
 obtain ⟨V, W, X, rfl⟩ := ac.shape
 have h := aJ
 refine WL.box (O := (Lg.O0 A)) 11 [vs a0.Name, (Value.slice aC aD aE), vi a0.Kind, vi a0.Temp, vB a0.Mono, vi a0.Start, vi a0.Time, vi a0.Int_, vu a0.Re, vu a0.Im, vi a0.Hist.Scale, vu a0.Hist.Zero, vi a0.Hist.Pos.Offset, (Value.slice S T U), vi a0.Hist.Neg.Offset, (Value.slice V W X), vi a0.Flags] z z z ?_
 intro bw bg bq C aK
 refine WL.alloc (O := bg) 12 [vs [], Value.slice none 0 0, vi 0, vi 0, vB false, vi 0, vi 0, vi 0, vu 0, vu 0, vi 0, vu 0, vi 0, Value.slice none 0 0, vi 0, Value.slice none 0 0, vi 0] ty37 z z ?_
 intro bx bh br d aL
 refine nl (th (sq (rg (wY (yf fo37_1 z) z ?_))))
 have ad := aK.st d z
 refine wY (yl ty35 z z (ad.cell 1 _ z)) z ?_
 have aM := aa.i C z z
 have aN := aM.i d z z
 obtain ⟨bi, aO, h⟩ := bnd h
 refine WL.call (vals := [(Value.slice aC aD aE)]) kok88 z z (c_slices_Clone_api_Pair_api_Pair (A := fun _ => True) (Sl.all aN) aO) ?_
 rintro ae aP ⟨_, rfl, aQ, bj⟩
 obtain ⟨aF, bk, af, e⟩ := adoptE bh (fun k => if ob ae = some k then 13 else 1) aQ
 have ah : OwnSl 13 rep_api_Pair 107 aF aP ae bi := RowF.adopt 13 flat_api_Pair bj af (fun k hk => if_pos hk)
 refine wY (yf fo37_1 z) z ?_
 have aR := h
 obtain ⟨o, r, t, rfl⟩ := ah.shape
 have h := aR
 have aS := ad.st e z
 refine WL.store (v := (Value.slice o r t)) (cells' := [vs a0.Name, (Value.slice o r t), vi a0.Kind, vi a0.Temp, vB a0.Mono, vi a0.Start, vi a0.Time, vi a0.Int_, vu a0.Re, vu a0.Im, vi a0.Hist.Scale, vu a0.Hist.Zero, vi a0.Hist.Pos.Offset, (Value.slice S T U), vi a0.Hist.Neg.Offset, (Value.slice V W X), vi a0.Flags]) ty35 z z aS z (le_ z) z z ?_
 intro bs j ai
 refine nl (th (sq (rg (wY (yf fo37_10 z) z (wY (yL ty30 z z (ai.cells 10 [vi a0.Hist.Scale, vu a0.Hist.Zero, vi a0.Hist.Pos.Offset, (Value.slice S T U), vi a0.Hist.Neg.Offset, (Value.slice V W X)] z) z) z ?_)))))
 have aT := ab.i C z z
 have aU := aT.i d z z
 have aW := aU.i e z z
 have aX := aW.i j z z
 have aY := ac.i C z z
 have aZ := aY.i d z z
 have a1 := aZ.i e z z
 have a2 := a1.i j z z
 obtain ⟨a, a3, h⟩ := bnd h
 refine WL.call (vals := [ag [vi a0.Hist.Scale, vu a0.Hist.Zero, vi a0.Hist.Pos.Offset, (Value.slice S T U), vi a0.Hist.Neg.Offset, (Value.slice V W X)]]) kok46 z z (c_hist_Clone (A := fun _ => True) (a0 := a0.Hist) (Sl.all aX) (Sl.all a2) a3) ?_
 rintro bt aj ⟨bl, bm, rfl, a4, bn, bo⟩
 obtain ⟨aG, bp, M, D⟩ := adoptE aF (fun k => 1) a4
 have ak : Sl Rep.u aj (frs aG) bl a.Pos.Counts := Sl.adoptF bn (fun k hk => ⟨hk, z⟩) M
 have al : Sl Rep.u aj (frs aG) bm a.Neg.Counts := Sl.adoptF bo (fun k hk => ⟨hk, z⟩) M
 refine wY (yf fo37_10 z) z ?_
 have a5 := h
 obtain ⟨G, H, I, rfl⟩ := ak.shape
 have h := a5
 have a6 := h
 obtain ⟨J, K, L, rfl⟩ := al.shape
 have h := a6
 have a7 := ai.st D z
 refine WL.store (v := ag [vi a.Scale, vu a.Zero, vi a.Pos.Offset, (Value.slice G H I), vi a.Neg.Offset, (Value.slice J K L)]) (cells' := [vs a0.Name, (Value.slice o r t), vi a0.Kind, vi a0.Temp, vB a0.Mono, vi a0.Start, vi a0.Time, vi a0.Int_, vu a0.Re, vu a0.Im, vi a.Scale, vu a.Zero, vi a.Pos.Offset, (Value.slice G H I), vi a.Neg.Offset, (Value.slice J K L), vi a0.Flags]) ty30 z z a7 z (le_ z) z z ?_
 intro bu l a8
 refine nl (th (sq (rg (wY (yL ty37 z z (a8.cells 0 [vs a0.Name, (Value.slice o r t), vi a0.Kind, vi a0.Temp, vB a0.Mono, vi a0.Start, vi a0.Time, vi a0.Int_, vu a0.Re, vu a0.Im, vi a.Scale, vu a.Zero, vi a.Pos.Offset, (Value.slice G H I), vi a.Neg.Offset, (Value.slice J K L), vi a0.Flags] z) z) z ?_))))
 have a9 := aL.st e z
 have ba := a9.st j z
 have bb := ba.st D z
 have bc := bb.st l z
 refine WL.store (v := ag [vs a0.Name, (Value.slice o r t), vi a0.Kind, vi a0.Temp, vB a0.Mono, vi a0.Start, vi a0.Time, vi a0.Int_, vu a0.Re, vu a0.Im, vi a.Scale, vu a.Zero, vi a.Pos.Offset, (Value.slice G H I), vi a.Neg.Offset, (Value.slice J K L), vi a0.Flags]) (cells' := [vs a0.Name, (Value.slice o r t), vi a0.Kind, vi a0.Temp, vB a0.Mono, vi a0.Start, vi a0.Time, vi a0.Int_, vu a0.Re, vu a0.Im, vi a.Scale, vu a.Zero, vi a.Pos.Offset, (Value.slice G H I), vi a.Neg.Offset, (Value.slice J K L), vi a0.Flags]) ty37 z z bc z (le_ z) z z ?_
 intro bd E am
 refine nl (th (rt ?_))
 obtain rfl := some1 h
 have an := ah.st j z z z
 have ao := an.st D z z z
 have ap := ao.st l z z z
 have aq := ap.st E z z z
 obtain ⟨bf, m, ar⟩ := OwnSl.giveF rfl flat_api_Pair aq
 have F : Stp [11, 12, 13] (Lg.O0 A) w bf bd := (tr_ (su_ C z) (tr_ (su_ d z) (tr_ (su_ e z) (tr_ (su_ j z) (tr_ (su_ D z) (tr_ (su_ l z) (tr_ (su_ E z) (su_ m z))))))))
 have au := ak.f l z
 have av := au.f E z
 have aw := av.f m z
 have ax := al.f l z
 have ay := ax.f E z
 have az := ay.f m z
 have aA := am.st m z
 exact At.res (.inl z) z (.cell z (aA.runAg 0 [vs a0.Name, (Value.slice o r t), vi a0.Kind, vi a0.Temp, vB a0.Mono, vi a0.Start, vi a0.Time, vi a0.Int_, vu a0.Re, vu a0.Im, vi a.Scale, vu a.Zero, vi a.Pos.Offset, (Value.slice G H I), vi a.Neg.Offset, (Value.slice J K L), vi a0.Flags] ty37 z z z) .nil) ⟨(Value.slice o r t), (Value.slice G H I), (Value.slice J K L), z, (se_ F z z), (Sl.outF ar F low0), (Sl.outF aw F low0), (Sl.outF az F low0)⟩
end Go.Lg
