/- The walks of RollupSums and of what it calls, printed by gen.py. -/
import Derived.Test.YtihlealbhlgikaaRsLgPart0
import Derived.Test.YtihlealbhlgikaaRsLgPart2
import Derived.Test.YtihlealbhlgikaaProg
set_option linter.unusedVariables false
namespace Go.Lg
open Go Go.Proofs
set_option maxRecDepth 100000
set_option maxHeartbeats 4000000
abbrev cp (p : api_Point) (a b c : Value) : List Value := [vs p.Name, a, vi p.Kind, vi p.Temp, .bool p.Mono, vi p.Start, vi p.Time, vi p.Int_, vu p.Re, vu p.Im, vi p.Hist.Scale, vu p.Hist.Zero, vi p.Hist.Pos.Offset, b, vi p.Hist.Neg.Offset, c, vi p.Flags]
abbrev hl (h : api_Hist) (a b : Value) : List Value := [vi h.Scale, vu h.Zero, vi h.Pos.Offset, a, vi h.Neg.Offset, b]
abbrev hzr : List Value := [vi 0, vu 0, vi 0, sn, vi 0, sn]
theorem fmix : Try.prog.follows .mixedOrders = true := by kernel_rfl
theorem ty3 : TyOk Try.prog 3 (.int .i64) 1 8 (.int .i64 0) := tyOk Try.underlying3 (by kernel_rfl)
theorem ty4 : TyOk Try.prog 4 .bool 1 1 (.bool false) := tyOk Try.underlying4 (by kernel_rfl)
theorem ty5 : TyOk Try.prog 5 (.int .u8) 1 1 (.int .u8 0) := tyOk Try.underlying5 (by kernel_rfl)
theorem ty9 : TyOk Try.prog 9 .string 1 16 (.string ⟨#[]⟩) := tyOk Try.underlying9 (by kernel_rfl)
theorem ty22 : TyOk Try.prog 22 (.slice 33) 1 24 (.slice none 0 0) := tyOk Try.underlying22 (by kernel_rfl)
theorem ty25 : TyOk Try.prog 25 (.slice 65) 1 24 (.slice none 0 0) := tyOk Try.underlying25 (by kernel_rfl)
theorem ty26 : TyOk Try.prog 26 (.int .u64) 1 8 (.int .u64 0) := tyOk Try.underlying26 (by kernel_rfl)
theorem ty27 : TyOk Try.prog 27 (.slice 26) 1 24 (.slice none 0 0) := tyOk Try.underlying27 (by kernel_rfl)
theorem ty29 : TyOk Try.prog 29 (.struct #[(Field.mk "Offset" 3 0 false "" "" 0), (Field.mk "Counts" 27 1 false "" "" 8)]) 2 32 (.agg #[(.int .i64 0), (.slice none 0 0)]) := tyOk Try.underlying29 (by kernel_rfl)
theorem ty31 : TyOk Try.prog 31 (.struct #[(Field.mk "Scale" 3 0 false "" "" 0), (Field.mk "Zero" 26 1 false "" "" 8), (Field.mk "Pos" 29 2 false "" "" 16), (Field.mk "Neg" 29 4 false "" "" 48)]) 6 80 (.agg #[(.int .i64 0), (.int .u64 0), (.int .i64 0), (.slice none 0 0), (.int .i64 0), (.slice none 0 0)]) := tyOk Try.underlying31 (by kernel_rfl)
theorem ty33 : TyOk Try.prog 33 (.struct #[(Field.mk "Name" 9 0 false "" "" 0), (Field.mk "Attrs" 25 1 false "" "" 16), (Field.mk "Kind" 3 2 false "" "" 40), (Field.mk "Temp" 3 3 false "" "" 48), (Field.mk "Mono" 4 4 false "" "" 56), (Field.mk "Start" 3 5 false "" "" 64), (Field.mk "Time" 3 6 false "" "" 72), (Field.mk "Int" 3 7 false "" "" 80), (Field.mk "Re" 26 8 false "" "" 88), (Field.mk "Im" 26 9 false "" "" 96), (Field.mk "Hist" 31 10 false "" "" 104), (Field.mk "Flags" 3 16 false "" "" 184)]) 17 192 (.agg #[(.string ⟨#[]⟩), (.slice none 0 0), (.int .i64 0), (.int .i64 0), (.bool false), (.int .i64 0), (.int .i64 0), (.int .i64 0), (.int .u64 0), (.int .u64 0), (.int .i64 0), (.int .u64 0), (.int .i64 0), (.slice none 0 0), (.int .i64 0), (.slice none 0 0), (.int .i64 0)]) := tyOk Try.underlying33 (by kernel_rfl)
theorem ty40 : TyOk Try.prog 40 (.slice 31) 1 24 (.slice none 0 0) := tyOk Try.underlying40 (by kernel_rfl)
theorem ty45 : TyOk Try.prog 45 (.slice 5) 1 24 (.slice none 0 0) := tyOk Try.underlying45 (by kernel_rfl)
theorem ty61 : TyOk Try.prog 61 (.int .u64) 1 8 (.int .u64 0) := tyOk Try.underlying61 (by kernel_rfl)
theorem ty65 : TyOk Try.prog 65 (.struct #[(Field.mk "Key" 9 0 false "" "" 0), (Field.mk "Val" 9 1 false "" "" 16)]) 2 32 (.agg #[(.string ⟨#[]⟩), (.string ⟨#[]⟩)]) := tyOk Try.underlying65 (by kernel_rfl)
theorem ty92 : TyOk Try.prog 92 (.array 2 29) 4 64 (.agg #[(.int .i64 0), (.slice none 0 0), (.int .i64 0), (.slice none 0 0)]) := tyOk Try.underlying92 (by kernel_rfl)
theorem ty102 : TyOk Try.prog 102 (.pointer 29) 1 8 (.pointer none) := tyOk Try.underlying102 (by kernel_rfl)
theorem ty103 : TyOk Try.prog 103 (.struct #[(Field.mk "to" 102 0 false "" "limnograph/fold" 0), (Field.mk "a" 29 1 false "" "limnograph/fold" 8), (Field.mk "b" 29 3 false "" "limnograph/fold" 40)]) 5 72 (.agg #[(.pointer none), (.int .i64 0), (.slice none 0 0), (.int .i64 0), (.slice none 0 0)]) := tyOk Try.underlying103 (by kernel_rfl)
theorem ty104 : TyOk Try.prog 104 (.slice 103) 1 24 (.slice none 0 0) := tyOk Try.underlying104 (by kernel_rfl)
theorem ty135 : TyOk Try.prog 135 (.array 2 31) 12 160 (.agg #[(.int .i64 0), (.int .u64 0), (.int .i64 0), (.slice none 0 0), (.int .i64 0), (.slice none 0 0), (.int .i64 0), (.int .u64 0), (.int .i64 0), (.slice none 0 0), (.int .i64 0), (.slice none 0 0)]) := tyOk Try.underlying135 (by kernel_rfl)
theorem ty150 : TyOk Try.prog 150 (.pointer 152) 1 8 (.pointer none) := tyOk Try.underlying150 (by kernel_rfl)
theorem ty152 : TyOk Try.prog 152 (.struct #[(Field.mk "addr" 150 0 false "" "strings" 0), (Field.mk "buf" 45 1 false "" "strings" 8)]) 2 32 (.agg #[(.pointer none), (.slice none 0 0)]) := tyOk Try.underlying152 (by kernel_rfl)
theorem ty175 : TyOk Try.prog 175 (.pointer 5) 1 8 (.pointer none) := tyOk Try.underlying175 (by kernel_rfl)
theorem ty180 : TyOk Try.prog 180 .unsafePointer 1 8 (.pointer none) := tyOk Try.underlying180 (by kernel_rfl)
theorem fo29_0 : FieldOk Try.prog 29 0 0 := fieldOk Try.underlying29 rfl rfl (by kernel_rfl)
theorem fo29_1 : FieldOk Try.prog 29 1 1 := fieldOk Try.underlying29 rfl rfl (by kernel_rfl)
theorem fo31_0 : FieldOk Try.prog 31 0 0 := fieldOk Try.underlying31 rfl rfl (by kernel_rfl)
theorem fo31_1 : FieldOk Try.prog 31 1 1 := fieldOk Try.underlying31 rfl rfl (by kernel_rfl)
theorem fo31_2 : FieldOk Try.prog 31 2 2 := fieldOk Try.underlying31 rfl rfl (by kernel_rfl)
theorem fo31_3 : FieldOk Try.prog 31 3 4 := fieldOk Try.underlying31 rfl rfl (by kernel_rfl)
theorem fo33_0 : FieldOk Try.prog 33 0 0 := fieldOk Try.underlying33 rfl rfl (by kernel_rfl)
theorem fo33_1 : FieldOk Try.prog 33 1 1 := fieldOk Try.underlying33 rfl rfl (by kernel_rfl)
theorem fo33_2 : FieldOk Try.prog 33 2 2 := fieldOk Try.underlying33 rfl rfl (by kernel_rfl)
theorem fo33_3 : FieldOk Try.prog 33 3 3 := fieldOk Try.underlying33 rfl rfl (by kernel_rfl)
theorem fo33_4 : FieldOk Try.prog 33 4 4 := fieldOk Try.underlying33 rfl rfl (by kernel_rfl)
theorem fo33_5 : FieldOk Try.prog 33 5 5 := fieldOk Try.underlying33 rfl rfl (by kernel_rfl)
theorem fo33_6 : FieldOk Try.prog 33 6 6 := fieldOk Try.underlying33 rfl rfl (by kernel_rfl)
theorem fo33_7 : FieldOk Try.prog 33 7 7 := fieldOk Try.underlying33 rfl rfl (by kernel_rfl)
theorem fo33_8 : FieldOk Try.prog 33 8 8 := fieldOk Try.underlying33 rfl rfl (by kernel_rfl)
theorem fo33_9 : FieldOk Try.prog 33 9 9 := fieldOk Try.underlying33 rfl rfl (by kernel_rfl)
theorem fo33_10 : FieldOk Try.prog 33 10 10 := fieldOk Try.underlying33 rfl rfl (by kernel_rfl)
theorem fo33_11 : FieldOk Try.prog 33 11 16 := fieldOk Try.underlying33 rfl rfl (by kernel_rfl)
theorem fo65_0 : FieldOk Try.prog 65 0 0 := fieldOk Try.underlying65 rfl rfl (by kernel_rfl)
theorem fo65_1 : FieldOk Try.prog 65 1 1 := fieldOk Try.underlying65 rfl rfl (by kernel_rfl)
theorem fo103_0 : FieldOk Try.prog 103 0 0 := fieldOk Try.underlying103 rfl rfl (by kernel_rfl)
theorem fo103_1 : FieldOk Try.prog 103 1 1 := fieldOk Try.underlying103 rfl rfl (by kernel_rfl)
theorem fo103_2 : FieldOk Try.prog 103 2 3 := fieldOk Try.underlying103 rfl rfl (by kernel_rfl)
theorem fo152_0 : FieldOk Try.prog 152 0 0 := fieldOk Try.underlying152 rfl rfl (by kernel_rfl)
theorem fo152_1 : FieldOk Try.prog 152 1 1 := fieldOk Try.underlying152 rfl rfl (by kernel_rfl)
theorem x64_56 : X64 Try.prog 56 := x64 Try.func56 (by kernel_rfl) rfl (by kernel_rfl) (by kernel_rfl)
theorem xne_123 : XNe Try.prog 123 := xne Try.func123 (by kernel_rfl) rfl (by kernel_rfl) (by kernel_rfl)
theorem xfrom_99 : XFrom Try.prog 99 := xfrom Try.func99 (by kernel_rfl) rfl (by kernel_rfl) (by kernel_rfl)
theorem xbits_118 : XBits Try.prog 118 := xbits Try.func118 (by kernel_rfl) rfl (by kernel_rfl) (by kernel_rfl)
theorem kok6 : CallOk Try.prog 6 := callOk Try.func6 (by kernel_rfl) rfl
theorem kok7 : CallOk Try.prog 7 := callOk Try.func7 (by kernel_rfl) rfl
theorem kok8 : CallOk Try.prog 8 := callOk Try.func8 (by kernel_rfl) rfl
theorem kok10 : CallOk Try.prog 10 := callOk Try.func10 (by kernel_rfl) rfl
theorem kok11 : CallOk Try.prog 11 := callOk Try.func11 (by kernel_rfl) rfl
theorem kok12 : CallOk Try.prog 12 := callOk Try.func12 (by kernel_rfl) rfl
theorem kok13 : CallOk Try.prog 13 := callOk Try.func13 (by kernel_rfl) rfl
theorem kok17 : CallOk Try.prog 17 := callOk Try.func17 (by kernel_rfl) rfl
theorem kok18 : CallOk Try.prog 18 := callOk Try.func18 (by kernel_rfl) rfl
theorem kok19 : CallOk Try.prog 19 := callOk Try.func19 (by kernel_rfl) rfl
theorem kok20 : CallOk Try.prog 20 := callOk Try.func20 (by kernel_rfl) rfl
theorem kok21 : CallOk Try.prog 21 := callOk Try.func21 (by kernel_rfl) rfl
theorem kok22 : CallOk Try.prog 22 := callOk Try.func22 (by kernel_rfl) rfl
theorem kok24 : CallOk Try.prog 24 := callOk Try.func24 (by kernel_rfl) rfl
theorem kok25 : CallOk Try.prog 25 := callOk Try.func25 (by kernel_rfl) rfl
theorem kok26 : CallOk Try.prog 26 := callOk Try.func26 (by kernel_rfl) rfl
theorem kok27 : CallOk Try.prog 27 := callOk Try.func27 (by kernel_rfl) rfl
theorem kok35 : CallOk Try.prog 35 := callOk Try.func35 (by kernel_rfl) rfl
theorem kok36 : CallOk Try.prog 36 := callOk Try.func36 (by kernel_rfl) rfl
theorem kok37 : CallOk Try.prog 37 := callOk Try.func37 (by kernel_rfl) rfl
theorem kok38 : CallOk Try.prog 38 := callOk Try.func38 (by kernel_rfl) rfl
theorem kok39 : CallOk Try.prog 39 := callOk Try.func39 (by kernel_rfl) rfl
theorem kok40 : CallOk Try.prog 40 := callOk Try.func40 (by kernel_rfl) rfl
theorem kok41 : CallOk Try.prog 41 := callOk Try.func41 (by kernel_rfl) rfl
theorem kok42 : CallOk Try.prog 42 := callOk Try.func42 (by kernel_rfl) rfl
theorem kok43 : CallOk Try.prog 43 := callOk Try.func43 (by kernel_rfl) rfl
theorem kok44 : CallOk Try.prog 44 := callOk Try.func44 (by kernel_rfl) rfl
theorem kok45 : CallOk Try.prog 45 := callOk Try.func45 (by kernel_rfl) rfl
theorem kok46 : CallOk Try.prog 46 := callOk Try.func46 (by kernel_rfl) rfl
theorem kok47 : CallOk Try.prog 47 := callOk Try.func47 (by kernel_rfl) rfl
theorem kok51 : CallOk Try.prog 51 := callOk Try.func51 (by kernel_rfl) rfl
theorem kok52 : CallOk Try.prog 52 := callOk Try.func52 (by kernel_rfl) rfl
theorem kok53 : CallOk Try.prog 53 := callOk Try.func53 (by kernel_rfl) rfl
theorem kok54 : CallOk Try.prog 54 := callOk Try.func54 (by kernel_rfl) rfl
theorem kok55 : CallOk Try.prog 55 := callOk Try.func55 (by kernel_rfl) rfl
theorem kok57 : CallOk Try.prog 57 := callOk Try.func57 (by kernel_rfl) rfl
theorem kok58 : CallOk Try.prog 58 := callOk Try.func58 (by kernel_rfl) rfl
theorem kok59 : CallOk Try.prog 59 := callOk Try.func59 (by kernel_rfl) rfl
theorem kok72 : CallOk Try.prog 72 := callOk Try.func72 (by kernel_rfl) rfl
theorem kok73 : CallOk Try.prog 73 := callOk Try.func73 (by kernel_rfl) rfl
theorem kok74 : CallOk Try.prog 74 := callOk Try.func74 (by kernel_rfl) rfl
theorem kok75 : CallOk Try.prog 75 := callOk Try.func75 (by kernel_rfl) rfl
theorem kok76 : CallOk Try.prog 76 := callOk Try.func76 (by kernel_rfl) rfl
theorem kok77 : CallOk Try.prog 77 := callOk Try.func77 (by kernel_rfl) rfl
theorem kok78 : CallOk Try.prog 78 := callOk Try.func78 (by kernel_rfl) rfl
theorem kok79 : CallOk Try.prog 79 := callOk Try.func79 (by kernel_rfl) rfl
theorem kok80 : CallOk Try.prog 80 := callOk Try.func80 (by kernel_rfl) rfl
theorem kok81 : CallOk Try.prog 81 := callOk Try.func81 (by kernel_rfl) rfl
theorem kok82 : CallOk Try.prog 82 := callOk Try.func82 (by kernel_rfl) rfl
theorem kok83 : CallOk Try.prog 83 := callOk Try.func83 (by kernel_rfl) rfl
theorem kok85 : CallOk Try.prog 85 := callOk Try.func85 (by kernel_rfl) rfl
theorem kok87 : CallOk Try.prog 87 := callOk Try.func87 (by kernel_rfl) rfl
theorem kok97 : CallOk Try.prog 97 := callOk Try.func97 (by kernel_rfl) rfl
theorem kok98 : CallOk Try.prog 98 := callOk Try.func98 (by kernel_rfl) rfl
theorem kok100 : CallOk Try.prog 100 := callOk Try.func100 (by kernel_rfl) rfl
theorem kok101 : CallOk Try.prog 101 := callOk Try.func101 (by kernel_rfl) rfl
theorem kok102 : CallOk Try.prog 102 := callOk Try.func102 (by kernel_rfl) rfl
theorem kok103 : CallOk Try.prog 103 := callOk Try.func103 (by kernel_rfl) rfl
theorem kok104 : CallOk Try.prog 104 := callOk Try.func104 (by kernel_rfl) rfl
theorem kok105 : CallOk Try.prog 105 := callOk Try.func105 (by kernel_rfl) rfl
theorem kok106 : CallOk Try.prog 106 := callOk Try.func106 (by kernel_rfl) rfl
theorem kok107 : CallOk Try.prog 107 := callOk Try.func107 (by kernel_rfl) rfl
theorem kok116 : CallOk Try.prog 116 := callOk Try.func116 (by kernel_rfl) rfl
theorem kok117 : CallOk Try.prog 117 := callOk Try.func117 (by kernel_rfl) rfl
theorem kok119 : CallOk Try.prog 119 := callOk Try.func119 (by kernel_rfl) rfl
theorem kok120 : CallOk Try.prog 120 := callOk Try.func120 (by kernel_rfl) rfl
theorem kok124 : CallOk Try.prog 124 := callOk Try.func124 (by kernel_rfl) rfl
theorem kok125 : CallOk Try.prog 125 := callOk Try.func125 (by kernel_rfl) rfl
theorem c_rollup_Window {a0 : Int} {a1 : Int} {w : World} {r0 : Int} (h : rollup_Window a0 a1 = some r0) : Rets Try.prog 17 [vi a0, vi a1] w (fun v w' => v = vi r0 ∧ Ext w w') := by
 unfold rollup_Window at h
 refine Rets.enter Try.func17 z z ?_
 refine (show WC _ _ _ _ [(0, vi a0), (1, vi a1)] _ from ?_)
 refine sq (rg (wY (ya z) z (nl (th (sq (sq (rg (wY (ym z) z (wY (Y.lss_i z z) z ?_)))))))))
 refine wY (ym z) z ?_
 refine WL.cut 3 (σ := Unit) (fun _ w' => w = w') (fun _ => [(0, vi a0), (1, vi a1), (10, vB ((decide (a1 < 1)) || (decide (a0 < 0))))]) ?_ ?_
 ·refine WL.part 7 z (fun d => ?_) (fun d => ?_)
  ·refine WL.gS z z z z (WL.gS z z z z (wY (Y.pick (b := true) z z) z (WL.ren (v' := vB ((decide (a1 < 1)) || (decide (a0 < 0)))) 10 z (congrArg vB (orT d)) ?_)))
   exact nl (At.join () z (.cons z (.cons z (.cons z .nil))))
  ·refine ug z z (wY (ym z) z (ug z z (wY (Y.lss_i z z) z (wY (Y.pick (b := false) z z) z (WL.ren (v' := vB ((decide (a1 < 1)) || (decide (a0 < 0)))) 10 z (congrArg vB (orF d)) ?_)))))
   exact nl (At.join () z (.cons z (.cons z (.cons z .nil))))
 ·rintro _ _ rfl
  refine (show WL _ _ _ _ _ [(0, vi a0), (1, vi a1), (10, vB ((decide (a1 < 1)) || (decide (a0 < 0))))] _ from ?_)
  refine wY (ym z) z ?_
  refine WL.cut 3 (σ := Unit) (fun _ w' => w = w') (fun _ => [(0, vi a0), (1, vi a1), (14, vB (((decide (a1 < 1)) || (decide (a0 < 0))) || (decide (4503599627370496 < a0))))]) ?_ ?_
  ·refine WL.part 11 z (fun e => ?_) (fun e => ?_)
   ·refine WL.gS z z z z (WL.gS z z z z (wY (Y.pick (b := true) z z) z (WL.ren (v' := vB (((decide (a1 < 1)) || (decide (a0 < 0))) || (decide (4503599627370496 < a0)))) 14 z (congrArg vB (orT e)) ?_)))
    exact nl (At.join () z (.cons z (.cons z (.cons z .nil))))
   ·refine ug z z (wY (ym z) z (ug z z (wY (Y.gtr_i z z) z (wY (Y.pick (b := false) z z) z (WL.ren (v' := vB (((decide (a1 < 1)) || (decide (a0 < 0))) || (decide (4503599627370496 < a0)))) 14 z (congrArg vB (orF e)) ?_)))))
    exact nl (At.join () z (.cons z (.cons z (.cons z .nil))))
  ·rintro _ _ rfl
   refine (show WL _ _ _ _ _ [(0, vi a0), (1, vi a1), (14, vB (((decide (a1 < 1)) || (decide (a0 < 0))) || (decide (4503599627370496 < a0))))] _ from ?_)
   refine nl (th ?_)
   rcases cnd h with ⟨j, h⟩ | ⟨j, h⟩
   ·refine WC.condT' z j (sq (rg (wY (ya z) z (nl (th (rt (At.thenR ?_)))))))
    obtain rfl := some1 h
    have l : Stp [] (Lg.O0 (fun _ => False)) w (Lg.O0 (fun _ => False)) w := (sr_ _ _ _)
    exact At.res (.inl z) z (.tmp z .nil) ⟨z, (se_ l z z)⟩
   ·refine WC.condF' z j (sk (th (sq (rg (wY (ym z) z (wY (ym z) z ?_))))))
    obtain ⟨m, h⟩ := chk1 h
    refine wY (Y.quo_i (ne_of_chk m) z z) z ?_
    obtain ⟨C, o, h⟩ := lt1 h
    refine WL.yE (ya z) (congrArg vi o.symm) z (nl (th (rt ?_)))
    obtain rfl := some1 h
    have t : Stp [] (Lg.O0 (fun _ => False)) w (Lg.O0 (fun _ => False)) w := (sr_ _ _ _)
    exact At.res (.inl z) z (.tmp z .nil) ⟨z, (se_ t z z)⟩
theorem c_hist_sides {A : Nat → Prop} {v0_3 : Value} {v0_5 : Value} {a0 : api_Hist} {w : World} (hs0_3 : Sl Rep.u w A v0_3 a0.Pos.Counts) (hs0_5 : Sl Rep.u w A v0_5 a0.Neg.Counts) {r0 : List api_Side} (h : hist_sides a0 = some r0) : Rets Try.prog 51 [ag (hl a0 v0_3 v0_5)] w (fun v w' => ∃ (I : List Value), v = Value.agg (List.toArray I) ∧ Ext w w' ∧ Rows' rep_api_Side w' (fun k => A k ∨ w.heap.size ≤ k) I r0 ∧ r0.length = 2) := by
 unfold hist_sides at h
 refine Rets.enter Try.func51 z z ?_
 have E : Sl Rep.u w (imm (Lg.O0 A)) v0_3 a0.Pos.Counts := (Sl.start hs0_3)
 have F : Sl Rep.u w (imm (Lg.O0 A)) v0_5 a0.Neg.Counts := (Sl.start hs0_5)
 refine (show WC _ _ _ _ [(0, ag (hl a0 v0_3 v0_5))] _ from ?_)
 refine sq (rg ?_)
 have K := h
 obtain ⟨l, m, o, rfl⟩ := E.shape
 have h := K
 have L := h
 obtain ⟨d, e, j, rfl⟩ := F.shape
 have h := L
 refine WL.box (O := (Lg.O0 A)) 11 (hl a0 (vl l m o) (vl d e j)) z z z ?_
 intro ad aa ab C M
 refine WL.alloc (O := aa) 12 [vi 0, sn, vi 0, sn] ty92 z z ?_
 intro ae J ac t P
 refine nl (th (sq (rg (wY (yf fo31_2 z) z ?_))))
 have G := M.st t z
 refine wY (yL ty29 z z (G.cells 2 [vi a0.Pos.Offset, (vl l m o)] z) z) z (wY (yf fo31_3 z) z (wY (yL ty29 z z (G.cells 4 [vi a0.Neg.Offset, (vl d e j)] z) z) z (wY (yb (vals := [(0, ag [vi a0.Pos.Offset, (vl l m o)]), (1, ag [vi a0.Neg.Offset, (vl d e j)])]) (cells := [vi a0.Pos.Offset, (vl l m o), vi a0.Neg.Offset, (vl d e j)]) (fe_ z) (by kernel_rfl)) z (WL.store (v := ag [vi a0.Pos.Offset, (vl l m o), vi a0.Neg.Offset, (vl d e j)]) (cells' := [vi a0.Pos.Offset, (vl l m o), vi a0.Neg.Offset, (vl d e j)]) ty92 z z P z (le_ z) z z ?_))))
 intro Q D S
 refine nl (th (rt ?_))
 obtain rfl := some1 h
 have H : Stp [12] (Lg.O0 A) w J Q := (tr_ (su_ C z) (tr_ (su_ t z) (su_ D z)))
 have V := ((E.i C z z).i t z z).i D z z
 have Z := ((F.i C z z).i t z z).i D z z
 exact At.res (.inl z) z (.cell z (S.runAg 0 [vi a0.Pos.Offset, (vl l m o), vi a0.Neg.Offset, (vl d e j)] ty92 z z z) .nil) ⟨[vi a0.Pos.Offset, (vl l m o), vi a0.Neg.Offset, (vl d e j)], z, (se_ H z z), (Rows'.outI (O' := J) (R := rep_api_Side) ⟨[vi a0.Pos.Offset, (vl l m o)], [vi a0.Neg.Offset, (vl d e j)], z, ⟨[vi a0.Pos.Offset], [(vl l m o)], z, z, ⟨_, z, V⟩⟩, ⟨[vi a0.Neg.Offset, (vl d e j)], [], z, ⟨[vi a0.Neg.Offset], [(vl d e j)], z, z, ⟨_, z, Z⟩⟩, z⟩⟩ H low0 O0_A), z⟩
theorem c_hist_check {A : Nat → Prop} {v0_1 : Value} {a0 : api_Side} {w : World} (hs0_1 : Sl Rep.u w A v0_1 a0.Counts) {r0 : Int} (h : hist_check a0 = some r0) : Rets Try.prog 52 [ag [vi a0.Offset, v0_1]] w (fun v w' => v = vi r0 ∧ Ext w w') := by
 unfold hist_check at h
 refine Rets.enter Try.func52 z z ?_
 have M : Sl Rep.u w (imm (Lg.O0 A)) v0_1 a0.Counts := (Sl.start hs0_1)
 refine (show WC _ _ _ _ [(0, ag [vi a0.Offset, v0_1])] _ from ?_)
 refine sq (rg ?_)
 have W := h
 obtain ⟨ax, ay, az, rfl⟩ := M.shape
 have h := W
 refine WL.box (O := (Lg.O0 A)) 11 [vi a0.Offset, (vl ax ay az)] z z z ?_
 intro L m e j l
 refine wY (ya z) z (nl (th (sq (rg (wY (yf fo29_1 z) z (wY (yl ty27 z z (l.cell 1 _ z)) z ?_))))))
 have o := M.i j z z
 refine wY (Y.len ty27 z o) z ?_
 obtain ⟨d, P, h⟩ := lt1 h
 refine WL.yE (ya z) (congrArg vi P.symm) z (nl (th (sq (WC.block (sq (rg (wY (ym z) z (wY (Y.gtr_i z z) z ?_))))))))
 obtain ⟨aK, X, h⟩ := lt1 h
 refine WL.yE (ya z) (congrArg vB X.symm) z (nl (th ?_))
 rcases cnd h with ⟨t, h⟩ | ⟨t, h⟩
 ·refine WC.condT' z t (sq (rg (wY (ya z) z (nl (th (rt (At.inBlockR (At.thenR ?_))))))))
  obtain rfl := some1 h
  have Z : Stp [] (Lg.O0 A) w m e := (su_ j z)
  exact At.res (.inl z) z (.tmp z .nil) ⟨z, (se_ Z z z)⟩
 ·refine WC.condF' z t (sq (rg (wY (ym z) z (wY (Y.eql_i z z) z (wY (ym z) z ?_)))))
  refine WL.cut 4 (σ := Unit) (fun _ w' => e = w') (fun _ => [(1, pt L 0), (3, vi d), (17, vB ((decide (d = 0)) && (!decide (a0.Offset = 0))))]) ?_ ?_
  ·refine WL.part 13 z (fun C => ?_) (fun C => ?_)
   ·refine ug z z (wY (yf fo29_0 z) z (ug z z (wY (yl ty3 z z (l.cell 0 _ z)) z (ug z z (wY (Y.neq_i z z) z (wY (Y.pick (b := true) z z) z (WL.ren (v' := vB ((decide (d = 0)) && (!decide (a0.Offset = 0)))) 17 z (congrArg vB (andT C)) ?_)))))))
    exact nl (At.join () z (.cons z (.cons z (.cons z .nil))))
   ·refine WL.gS z z z z (WL.gS z z z z (WL.gS z z z z (wY (Y.pick (b := false) z z) z (WL.ren (v' := vB ((decide (d = 0)) && (!decide (a0.Offset = 0)))) 17 z (congrArg vB (andF C)) ?_))))
    exact nl (At.join () z (.cons z (.cons z (.cons z .nil))))
  ·rintro _ _ rfl
   refine (show WL _ _ _ _ _ [(1, pt L 0), (3, vi d), (17, vB ((decide (d = 0)) && (!decide (a0.Offset = 0))))] _ from ?_)
   obtain ⟨aL, aa, h⟩ := lt1 h
   refine WL.yE (ya z) (congrArg vB aa.symm) z (nl (th ?_))
   rcases cnd h with ⟨D, h⟩ | ⟨D, h⟩
   ·refine WC.condT' z D (sq (rg (wY (ya z) z (nl (th (rt (At.inBlockR (At.thenR ?_))))))))
    obtain rfl := some1 h
    have ab : Stp [] (Lg.O0 A) w m e := (su_ j z)
    exact At.res (.inl z) z (.tmp z .nil) ⟨z, (se_ ab z z)⟩
   ·refine WC.condF' z D (sq (rg (wY (ym z) z (wY (Y.eql_i z z) z ?_))))
    obtain ⟨aM, ac, h⟩ := lt1 h
    refine WL.yE (ya z) (congrArg vB ac.symm) z (nl (th ?_))
    rcases cnd h with ⟨E, h⟩ | ⟨E, h⟩
    ·refine WC.condT' z E (sq (rg (wY (ya z) z (nl (th (rt (At.inBlockR (At.thenR ?_))))))))
     obtain rfl := some1 h
     have ad : Stp [] (Lg.O0 A) w m e := (su_ j z)
     exact At.res (.inl z) z (.tmp z .nil) ⟨z, (se_ ad z z)⟩
    ·refine WC.condF' z E (sq (rg (wY (yf fo29_1 z) z (wY (yl ty27 z z (l.cell 1 _ z)) z ?_))))
     obtain ⟨aA, ae, h⟩ := bnd h
     obtain ⟨aN, aE, aF, aI, af, ah, ai, F, Q, aj⟩ := Sl.at2 o ae
     obtain rfl := Q
     replace F : CellsAt _ _ _ [vu aA] := F
     have S := CAt.imm F aj
     refine wY (Y.indexAddr ty27 ty26 z af z ah ai) z (wY (yl ty26 z z S.at_) z (wY (Y.eql_u (b := 0) z z) z (wY (ym z) z ?_)))
     obtain ⟨aC, h, ak⟩ := bnd h
     refine WL.cut 8 (σ := Bool) (fun x w' => x = aC ∧ e = w') (fun x => [(1, pt L 0), (3, vi d), (35, vB x)]) ?_ ?_
     ·rcases cnd h with ⟨G, h⟩ | ⟨G, h⟩
      ·refine WL.ren 27 z (congrArg vB G) (WL.gS z z z z (WL.gS z z z z (WL.gS z z z z (WL.gS z z z z (WL.gS z z z z (WL.gS z z z z (WL.gS z z z z (wY (Y.pick (b := true) z z) z ?_))))))))
       exact nl (At.join (σ := Bool) true ⟨some1 h, z⟩ (.cons z (.cons z (.cons z .nil))))
      ·refine WL.ren 27 z (congrArg vB G) (ug z z (wY (yf fo29_1 z) z (ug z z (wY (yl ty27 z z (l.cell 1 _ z)) z (ug z z (wY (ym z) z (ug z z (wY (Y.sub_i z z) z (ug z z ?_)))))))))
       obtain ⟨V, al, h⟩ := bnd h
       obtain ⟨aO, aG, aH, aJ, am, an, ao, H, T, ap⟩ := Sl.at2 o al
       obtain rfl := T
       replace H : CellsAt _ _ _ [vu V] := H
       have U := CAt.imm H ap
       refine wY (Y.indexAddr ty27 ty26 z am z an ao) z (ug z z (wY (yl ty26 z z U.at_) z (ug z z (wY (Y.eql_u (b := 0) z z) z (wY (Y.pick (b := false) z z) z ?_)))))
       exact nl (At.join (σ := Bool) (decide (V = 0)) ⟨some1 h, z⟩ (.cons z (.cons z (.cons z .nil))))
     ·rintro aD _ ⟨rfl, rfl⟩
      replace h := ak
      try dsimp only at h
      refine (show WL _ _ _ _ _ [(1, pt L 0), (3, vi d), (35, vB aD)] _ from ?_)
      refine wY (ya z) z (nl (th ?_))
      rcases cnd h with ⟨I, h⟩ | ⟨I, h⟩
      ·refine WC.condT' z I (sq (rg (wY (ya z) z (nl (th (rt (At.inBlockR (At.thenR ?_))))))))
       obtain rfl := some1 h
       have aq : Stp [] (Lg.O0 A) w m e := (su_ j z)
       exact At.res (.inl z) z (.tmp z .nil) ⟨z, (se_ aq z z)⟩
      ·refine WC.condF' z I (sq (rg (wY (yf fo29_0 z) z (wY (yl ty3 z z (l.cell 0 _ z)) z (wY (Y.lss_i z z) z (wY (ym z) z ?_))))))
       refine WL.cut 7 (σ := Unit) (fun _ w' => e = w') (fun _ => [(47, vB ((decide (a0.Offset < (-1073741824))) || (decide (w64 (1073741824 - (w64 (d - 1))) < a0.Offset))))]) ?_ ?_
       ·refine WL.part 40 z (fun J => ?_) (fun J => ?_)
        ·refine WL.gS z z z z (WL.gS z z z z (WL.gS z z z z (WL.gS z z z z (WL.gS z z z z (WL.gS z z z z (wY (Y.pick (b := true) z z) z (WL.ren (v' := vB ((decide (a0.Offset < (-1073741824))) || (decide (w64 (1073741824 - (w64 (d - 1))) < a0.Offset)))) 47 z (congrArg vB (orT J)) ?_)))))))
         exact nl (At.join () z (.cons z .nil))
        ·refine ug z z (wY (yf fo29_0 z) z (ug z z (wY (yl ty3 z z (l.cell 0 _ z)) z (ug z z (wY (ym z) z (ug z z (wY (Y.sub_i z z) z (ug z z (wY (Y.sub_i z z) z ?_)))))))))
         refine ug z z (wY (Y.gtr_i z z) z (wY (Y.pick (b := false) z z) z (WL.ren (v' := vB ((decide (a0.Offset < (-1073741824))) || (decide (w64 (1073741824 - (w64 (d - 1))) < a0.Offset)))) 47 z (congrArg vB (orF J)) ?_)))
         exact nl (At.join () z (.cons z .nil))
       ·rintro _ _ rfl
        refine (show WL _ _ _ _ _ [(47, vB ((decide (a0.Offset < (-1073741824))) || (decide (w64 (1073741824 - (w64 (d - 1))) < a0.Offset))))] _ from ?_)
        obtain ⟨aP, ar, h⟩ := lt1 h
        refine WL.yE (ya z) (congrArg vB ar.symm) z (nl (th ?_))
        rcases cnd h with ⟨K, h⟩ | ⟨K, h⟩
        ·refine WC.condT' z K (sq (rg (wY (ya z) z (nl (th (rt (At.inBlockR (At.thenR ?_))))))))
         obtain rfl := some1 h
         have au : Stp [] (Lg.O0 A) w m e := (su_ j z)
         exact At.res (.inl z) z (.tmp z .nil) ⟨z, (se_ au z z)⟩
        ·refine WC.condF' z K (sk (At.inBlock (th (sq (rg (wY (ya z) z (nl (th (rt ?_)))))))))
         obtain rfl := some1 h
         have av : Stp [] (Lg.O0 A) w m e := (su_ j z)
         exact At.res (.inl z) z (.tmp z .nil) ⟨z, (se_ av z z)⟩
theorem c_hist_Total {A : Nat → Prop} {v0_3 : Value} {v0_5 : Value} {a0 : api_Hist} {w : World} (hs0_3 : Sl Rep.u w A v0_3 a0.Pos.Counts) (hs0_5 : Sl Rep.u w A v0_5 a0.Neg.Counts) {r0 : UInt64} {r1 : Bool} (h : hist_Total a0 = some (r0, r1)) : Rets Try.prog 53 [ag (hl a0 v0_3 v0_5)] w (fun v w' => v = tp [vu r0, vB r1] ∧ Ext w w') := by
 unfold hist_Total at h
 refine Rets.enter Try.func53 z z ?_
 have ak : Sl Rep.u w (imm (Lg.O0 A)) v0_3 a0.Pos.Counts := (Sl.start hs0_3)
 have al : Sl Rep.u w (imm (Lg.O0 A)) v0_5 a0.Neg.Counts := (Sl.start hs0_5)
 refine (show WC _ _ _ _ [(0, ag (hl a0 v0_3 v0_5))] _ from ?_)
 refine sq (rg ?_)
 have a1 := h
 obtain ⟨am, an, ao, rfl⟩ := ak.shape
 have h := a1
 have a2 := h
 obtain ⟨ap, aq, ar, rfl⟩ := al.shape
 have h := a2
 refine WL.box (O := (Lg.O0 A)) 11 (hl a0 (vl am an ao) (vl ap aq ar)) z z z ?_
 intro bH au bA j av
 refine wY (ya (v := vu 0) z) z (wY (ya z) z (nl (th (sq (rg (wY (yf fo31_1 z) z (wY (yl ty26 z z (av.cell 1 _ z)) z (wY (ya z) z (wY (ya (v := vu 0) z) z ?_)))))))))
 refine nl (th (sq (sq (rg (wY (yL ty31 z z (av.cells 0 (hl a0 (vl am an ao) (vl ap aq ar)) z) z) z ?_)))))
 have a3 := ak.i j z z
 have a4 := al.i j z z
 obtain ⟨bl, a5, h⟩ := bnd h
 refine WL.call (vals := [ag (hl a0 (vl am an ao) (vl ap aq ar))]) kok51 z z (c_hist_sides (A := imm au) (a0 := a0) a3 a4 a5) ?_
 rintro bB M ⟨d, rfl, a6, bm, bn⟩
 obtain ⟨T, ax, ay, U⟩ := adoptE au (fun k => 1) a6
 have a7 := Rows'.adoptI (O := au) bm (fun _ hk => hk) (fun _ _ => Nat.le_refl _) ax ay
 refine wY (ym z) z (nl (th ?_))
 obtain ⟨bo, h, a8⟩ := bnd h
 refine WC.join (σ := (UInt64 × UInt64 × Own)) (fun x w' => (x.1, x.2.1) = bo ∧ Stp [12] T M x.2.2 w') (fun x => [(4, vu x.1), (5, vu x.2.1)]) ?_ ?_
 ·refine WC.block ?_
  obtain ⟨aT, h, a9⟩ := flow1 h
  obtain ⟨aU, h⟩ := loop_some h
  refine WC.joinB 0 (σ := (UInt64 × UInt64 × Own)) (fun x w' => aT = .go (x.1, x.2.1) ∧ Stp [12] T M x.2.2 w') (fun x => [(4, vu x.1), (5, vu x.2.1)]) ?_ ?_
  ·refine WC.loop (σ := (UInt64 × UInt64 × Int × Own)) (fun x k w' => loopN k (hist_Total_lp1 bl) (x.1, x.2.1, x.2.2.1) = some aT ∧ Stp [12] T M x.2.2.2 w') (fun x => [(4, vu x.1), (5, vu x.2.1), (14, Value.agg (List.toArray d)), (15, vi x.2.2.1)]) (a0.Zero, 0, 0, T) aU (.cons z (.cons z (.cons z (.cons z .nil)))) ⟨h, (sr_ _ _ _)⟩ ?_
   rintro ⟨t, m, e, az⟩ aU ba ⟨h, l⟩
   obtain ⟨bp, bI, rfl, h, aA⟩ := rnd1 h
   unfold hist_Total_lp1 at h
   try dsimp only at h l
   refine (show WC _ _ _ _ [(4, vu t), (5, vu m), (14, Value.agg (List.toArray d)), (15, vi e)] _ from ?_)
   refine sq (rg (wY (Y.lss_i z z) z (nl (th (sq ?_)))))
   rcases cnd h with ⟨P, h⟩ | ⟨P, h⟩
   ·refine WC.condT' z P (sk (th (sq (WC.block (sq (rg ?_))))))
    have bb := Rows'.i a7 l z z
    obtain ⟨o, aC, h⟩ := bnd h
    obtain ⟨bC, C, aK⟩ := arrAt (R := rep_api_Side) (w := ba) (A := imm az) (cells := d) bb aC
    obtain ⟨_, _, rfl, rfl, ⟨bq, rfl, bc⟩⟩ := aK
    replace C : _ = [vi o.Offset, bq] := C
    refine wY (Y.indexArrAg ty92 ty29 z z C aC bn) z (WL.alloc (O := az) 12 [vi 0, sn] ty29 z z ?_)
    intro bJ br bD V bd
    have aD := bc.i V z z
    have bf := h
    obtain ⟨W, X, Z, rfl⟩ := aD.shape
    have h := bf
    refine WL.store (v := ag [vi o.Offset, (vl W X Z)]) (cells' := [vi o.Offset, (vl W X Z)]) ty29 z z bd z (le_ z) z z ?_
    intro Q aa bg
    refine nl (th (sq (rg (wY (yf fo29_1 z) z (wY (yl ty27 z z (bg.cell 1 _ z)) z ?_)))))
    have aE := aD.i aa z z
    refine wY (Y.len ty27 z aE) z (wY (ym z) z (nl (th ?_)))
    obtain ⟨bs, h, bh⟩ := bnd h
    refine WC.join (σ := (UInt64 × UInt64)) (fun x w' => (x.1, x.2) = bs ∧ Q = w') (fun x => [(4, vu x.1), (5, vu x.2), (14, Value.agg (List.toArray d)), (15, vi e)]) ?_ ?_
    ·refine WC.block ?_
     obtain ⟨aW, h, bi⟩ := flow1 h
     obtain ⟨aX, h⟩ := loop_some h
     refine WC.joinB 2 (σ := (UInt64 × UInt64)) (fun x w' => aW = .go (x.1, x.2) ∧ Q = w') (fun x => [(4, vu x.1), (5, vu x.2), (14, Value.agg (List.toArray d)), (15, vi e)]) ?_ ?_
     ·refine WC.loop (σ := (UInt64 × UInt64 × Int)) (fun x k w' => loopN k (hist_Total_lp2 o) (x.1, x.2.1, x.2.2) = some aW ∧ Q = w') (fun x => [(4, vu x.1), (5, vu x.2.1), (14, Value.agg (List.toArray d)), (15, vi e), (19, (vl W X Z)), (20, vi (o.Counts.length : Int)), (21, vi x.2.2)]) (t, m, 0) aX (.cons z (.cons z (.cons z (.cons z (.cons z (.cons z (.cons z .nil))))))) ⟨h, z⟩ ?_
      rintro ⟨ab, H, aY⟩ aX _ ⟨h, rfl⟩
      obtain ⟨bt, bE, rfl, h, ac⟩ := rnd1 h
      unfold hist_Total_lp2 at h
      try dsimp only at h
      refine (show WC _ _ _ _ [(4, vu ab), (5, vu H), (14, Value.agg (List.toArray d)), (15, vi e), (19, (vl W X Z)), (20, vi (o.Counts.length : Int)), (21, vi aY)] _ from ?_)
      refine sq (rg (wY (Y.lss_i z z) z (nl (th (sq ?_)))))
      rcases cnd h with ⟨D, h⟩ | ⟨D, h⟩
      ·refine WC.condT' z D (sk (th (sq (WC.block (sq (rg ?_))))))
       obtain ⟨bj, aL, h⟩ := bnd h
       obtain ⟨bF, bu, bw, bz, aM, aN, aO, E, aF, aP⟩ := Sl.at2 aE aL
       obtain rfl := aF
       replace E : CellsAt _ _ _ [vu bj] := E
       have aG := CAt.imm E aP
       refine wY (Y.indexAddr ty27 ty26 z aM z aN aO) z (wY (yl ty26 z z aG.at_) z (wY (ya z) z (nl (th (sq (rg (wY (ya (v := vu 0) z) z (nl (th ?_)))))))))
       refine sq (rg (wY (ym z) z (wY (ym z) z (wY (Y.add64 (c := 0) x64_56 (by decide) z z z) z (wY (ym z) z (wY (yx z z) z (wY (yx z z) z ?_)))))))
       obtain ⟨aH, ai, h⟩ := lt1 h
       refine WL.yE (ya z) (congrArg vu ai.symm) z ?_
       obtain ⟨bk, I, h⟩ := lt1 h
       refine WL.yE (ya z) (congrArg vu I.symm) z (nl (th (rg (wY (ym z) z (wY (ym z) z (wY (Y.or_u z z) z ?_))))))
       obtain ⟨aj, S, h⟩ := lt1 h
       refine WL.yE (ya z) (congrArg vu S.symm) z (nl (At.inBlock (th (rg (wY (Y.add_i z z) z (wY (ym z) z (nl ?_)))))))
       exact At.round (aH, aj, w64 (aY + 1)) bt (Nat.lt_succ_self _) ⟨next1 h ac, z⟩ (.cons z (.cons z (.cons z (.cons z (.cons z (.cons z (.cons z .nil)))))))
      ·refine WC.condF' z D (WC.exit (At.thenX (At.loopX ?_)))
       exact At.hitB (σ := (UInt64 × UInt64)) (ab, H) ⟨brk1 h ac, z⟩ (.cons z (.cons z (.cons z (.cons z .nil))))
     ·rintro ⟨ad, J⟩ _ ⟨rfl, rfl⟩
      replace h := flowK_go bi
      try dsimp only at h
      refine (show At _ _ _ [(4, vu ad), (5, vu J), (14, Value.agg (List.toArray d)), (15, vi e)] _ from ?_)
      refine At.inBlockHit ?_
      exact At.join (σ := (UInt64 × UInt64)) (ad, J) ⟨some1 h, z⟩ (.cons z (.cons z (.cons z (.cons z .nil))))
    ·rintro ⟨ae, K⟩ _ ⟨rfl, rfl⟩
     replace h := bh
     try dsimp only at h
     refine (show At _ _ _ [(4, vu ae), (5, vu K), (14, Value.agg (List.toArray d)), (15, vi e)] _ from ?_)
     refine At.inBlock (th (rg (wY (Y.add_i z z) z (wY (ym z) z (nl ?_)))))
     exact At.round (ae, K, w64 (e + 1), br) bp (Nat.lt_succ_self _) ⟨next1 h aA, (tr_ (su_ l z) (tr_ (su_ V z) (su_ aa z)))⟩ (.cons z (.cons z (.cons z (.cons z .nil))))
   ·refine WC.condF' z P (WC.exit (At.thenX (At.loopX ?_)))
    exact At.hitB (σ := (UInt64 × UInt64 × Own)) (t, m, az) ⟨brk1 h aA, (su_ l z)⟩ (.cons z (.cons z .nil))
  ·rintro ⟨af, L, bx⟩ bG ⟨rfl, ah⟩
   replace h := flowK_go a9
   try dsimp only at h ah
   refine (show At _ _ _ [(4, vu af), (5, vu L)] _ from ?_)
   refine At.inBlockHit ?_
   exact At.join (σ := (UInt64 × UInt64 × Own)) (af, L, bx) ⟨some1 h, (su_ ah z)⟩ (.cons z (.cons z .nil))
 ·rintro ⟨aQ, aI, aZ⟩ aJ ⟨rfl, F⟩
  replace h := a8
  try dsimp only at h F
  refine (show At _ _ _ [(4, vu aQ), (5, vu aI)] _ from ?_)
  refine th (sq (sq (rg (wY (ym z) z (wY (Y.neq_u (b := 0) z z) z (nl (th ?_)))))))
  rcases cnd h with ⟨G, h⟩ | ⟨G, h⟩
  ·refine WC.condT' z G (sq (rg (wY (ya (v := vu 0) z) z (wY (ya z) z (nl (th (rt (At.thenR ?_))))))))
   obtain ⟨rfl, rfl⟩ := tup2 h
   have aR : Stp [12] (Lg.O0 A) w aZ aJ := (tr_ (su_ j z) (tr_ (su_ U z) (su_ F z)))
   exact At.res (.inl z) z (.tmp z (.tmp z .nil)) ⟨z, (se_ aR z z)⟩
  ·refine WC.condF' z G (sk (th (sq (rg (wY (ym z) z (wY (ya z) z (wY (ya z) z (nl (th ?_)))))))))
   refine rt ?_
   obtain ⟨rfl, rfl⟩ := tup2 h
   have aS : Stp [12] (Lg.O0 A) w aZ aJ := (tr_ (su_ j z) (tr_ (su_ U z) (su_ F z)))
   exact At.res (.inl z) z (.tmp z (.tmp z .nil)) ⟨z, (se_ aS z z)⟩
theorem c_hist_Check {A : Nat → Prop} {v0_3 : Value} {v0_5 : Value} {a0 : api_Hist} {w : World} (hs0_3 : Sl Rep.u w A v0_3 a0.Pos.Counts) (hs0_5 : Sl Rep.u w A v0_5 a0.Neg.Counts) {r0 : Int} (h : hist_Check a0 = some r0) : Rets Try.prog 24 [ag (hl a0 v0_3 v0_5)] w (fun v w' => v = vi r0 ∧ Ext w w') := by
 unfold hist_Check at h
 refine Rets.enter Try.func24 z z ?_
 have af : Sl Rep.u w (imm (Lg.O0 A)) v0_3 a0.Pos.Counts := (Sl.start hs0_3)
 have ah : Sl Rep.u w (imm (Lg.O0 A)) v0_5 a0.Neg.Counts := (Sl.start hs0_5)
 refine (show WC _ _ _ _ [(0, ag (hl a0 v0_3 v0_5))] _ from ?_)
 refine sq (rg ?_)
 have aI := h
 obtain ⟨G, H, I, rfl⟩ := af.shape
 have h := aI
 have aJ := h
 obtain ⟨J, K, L, rfl⟩ := ah.shape
 have h := aJ
 refine WL.box (O := (Lg.O0 A)) 11 (hl a0 (vl G H I) (vl J K L)) z z z ?_
 intro m X ai d t
 refine wY (ya z) z (nl (th (sq (sq (rg (wY (yf fo31_0 z) z (wY (yl ty3 z z (t.cell 0 _ z)) z (wY (Y.lss_i z z) z (wY (ym z) z ?_)))))))))
 refine WL.cut 4 (σ := Unit) (fun _ w' => ai = w') (fun _ => [(1, pt m 0), (15, vB ((decide (a0.Scale < (-10))) || (decide (20 < a0.Scale))))]) ?_ ?_
 ·refine WL.part 11 z (fun P => ?_) (fun P => ?_)
  ·refine WL.gS z z z z (WL.gS z z z z (WL.gS z z z z (wY (Y.pick (b := true) z z) z (WL.ren (v' := vB ((decide (a0.Scale < (-10))) || (decide (20 < a0.Scale)))) 15 z (congrArg vB (orT P)) ?_))))
   exact nl (At.join () z (.cons z (.cons z .nil)))
  ·refine ug z z (wY (yf fo31_0 z) z (ug z z (wY (yl ty3 z z (t.cell 0 _ z)) z (ug z z (wY (Y.gtr_i z z) z (wY (Y.pick (b := false) z z) z (WL.ren (v' := vB ((decide (a0.Scale < (-10))) || (decide (20 < a0.Scale)))) 15 z (congrArg vB (orF P)) ?_)))))))
   exact nl (At.join () z (.cons z (.cons z .nil)))
 ·rintro _ _ rfl
  refine (show WL _ _ _ _ _ [(1, pt m 0), (15, vB ((decide (a0.Scale < (-10))) || (decide (20 < a0.Scale))))] _ from ?_)
  refine nl (th ?_)
  rcases cnd h with ⟨Q, h⟩ | ⟨Q, h⟩
  ·refine WC.condT' z Q (sq (rg (wY (ya z) z (nl (th (rt (At.thenR ?_)))))))
   obtain rfl := some1 h
   have aK : Stp [] (Lg.O0 A) w X ai := (su_ d z)
   exact At.res (.inl z) z (.tmp z .nil) ⟨z, (se_ aK z z)⟩
  ·refine WC.condF' z Q (sk (th (sq (sq (rg (wY (yL ty31 z z (t.cells 0 (hl a0 (vl G H I) (vl J K L)) z) z) z ?_))))))
   have aj := af.i d z z
   have ak := ah.i d z z
   obtain ⟨a8, aL, h⟩ := bnd h
   refine WL.call (vals := [ag (hl a0 (vl G H I) (vl J K L))]) kok51 z z (c_hist_sides (A := imm X) (a0 := a0) aj ak aL) ?_
   rintro bl S ⟨T, rfl, aM, a9, ba⟩
   obtain ⟨Z, al, am, e⟩ := adoptE X (fun k => 1) aM
   have aN := Rows'.adoptI (O := X) a9 (fun _ hk => hk) (fun _ _ => Nat.le_refl _) al am
   refine wY (ym z) z (nl (th ?_))
   obtain ⟨bb, h, an⟩ := flow1 h
   refine WC.join (σ := Own) (fun x w' => bb = .go () ∧ Stp [12] Z S x w') (fun x => [(1, pt m 0)]) ?_ ?_
   ·refine WC.block ?_
    obtain ⟨aE, h, ao⟩ := flow1 h
    obtain ⟨aF, h⟩ := loop_some h
    refine WC.joinB 0 (σ := Own) (fun x w' => aE = .go () ∧ Stp [12] Z S x w') (fun x => [(1, pt m 0)]) ?_ ?_
    ·refine WC.loop (σ := (Int × Own)) (fun x k w' => loopN k (hist_Check_lp1 a8) x.1 = some aE ∧ Stp [12] Z S x.2 w') (fun x => [(1, pt m 0), (17, Value.agg (List.toArray T)), (18, vi x.1)]) (0, Z) aF (.cons z (.cons z (.cons z .nil))) ⟨h, (sr_ _ _ _)⟩ ?_
     rintro ⟨aG, ap⟩ aF aO ⟨h, j⟩
     obtain ⟨bc, bu, rfl, h, U⟩ := rnd1 h
     unfold hist_Check_lp1 at h
     try dsimp only at h j
     refine (show WC _ _ _ _ [(1, pt m 0), (17, Value.agg (List.toArray T)), (18, vi aG)] _ from ?_)
     refine sq (rg (wY (Y.lss_i z z) z (nl (th (sq ?_)))))
     rcases cnd h with ⟨V, h⟩ | ⟨V, h⟩
     ·refine WC.condT' z V (sk (th (sq (WC.block (sq (rg ?_))))))
      have aP := Rows'.i aN j z z
      obtain ⟨o, aq, h⟩ := bnd h
      obtain ⟨bm, C, av⟩ := arrAt (R := rep_api_Side) (w := aO) (A := imm ap) (cells := T) aP aq
      obtain ⟨_, _, rfl, rfl, ⟨bd, rfl, aQ⟩⟩ := av
      replace C : _ = [vi o.Offset, bd] := C
      refine wY (Y.indexArrAg ty92 ty29 z z C aq ba) z (WL.alloc (O := ap) 12 [vi 0, sn] ty29 z z ?_)
      intro bw bf bn D aR
      have ar := aQ.i D z z
      have aS := h
      obtain ⟨aa, ab, ac, rfl⟩ := ar.shape
      have h := aS
      refine WL.store (v := ag [vi o.Offset, (vl aa ab ac)]) (cells' := [vi o.Offset, (vl aa ab ac)]) ty29 z z aR z (le_ z) z z ?_
      intro bo E aT
      refine nl (th (sq (rg (wY (yL ty29 z z (aT.cells 0 [vi o.Offset, (vl aa ab ac)] z) z) z ?_))))
      have aU := ar.i E z z
      obtain ⟨bx, aW, h⟩ := bnd h
      refine WL.call (vals := [ag [vi o.Offset, (vl aa ab ac)]]) kok52 z z (c_hist_check (A := fun _ => True) (a0 := o) (Sl.all aU) aW) ?_
      rintro bp aX ⟨rfl, aY⟩
      obtain ⟨aH, bg, bh, ad⟩ := adoptE bf (fun k => 1) aY
      refine wY (ya z) z (nl (th (sq (rg (wY (ym z) z (wY (Y.neq_i z z) z (nl (th ?_))))))))
      rcases cnd h with ⟨W, h⟩ | ⟨W, h⟩
      ·refine WC.condT' z W (sq (rg (wY (ym z) z (wY (ya z) z (nl (th (rt (At.inBlockR (At.thenR ?_)))))))))
       refine At.loopR ?_
       have h := outr1 h U ao
       refine At.joinBR (At.inBlockR ?_)
       have h := outs1 h an
       refine At.joinR (At.thenR ?_)
       obtain rfl := some1 h
       have aZ : Stp [12] (Lg.O0 A) w aH aX := (tr_ (su_ d z) (tr_ (su_ e z) (tr_ (su_ j z) (tr_ (su_ D z) (tr_ (su_ E z) (su_ ad z))))))
       exact At.res (.inl z) z (.tmp z .nil) ⟨z, (se_ aZ z z)⟩
      ·refine WC.condF' z W (sk (At.inBlock (th (rg (wY (Y.add_i z z) z (wY (ym z) z (nl ?_)))))))
       exact At.round (w64 (aG + 1), aH) bc (Nat.lt_succ_self _) ⟨next1 h U, (tr_ (su_ j z) (tr_ (su_ D z) (tr_ (su_ E z) (su_ ad z))))⟩ (.cons z (.cons z (.cons z .nil)))
     ·refine WC.condF' z V (WC.exit (At.thenX (At.loopX ?_)))
      exact At.hitB (σ := Own) ap ⟨brk1 h U, (su_ j z)⟩ (.cons z .nil)
    ·rintro bi bq ⟨rfl, ax⟩
     replace h := flowK_go ao
     refine (show At _ _ _ [(1, pt m 0)] _ from ?_)
     refine At.inBlockHit ?_
     exact At.join (σ := Own) bi ⟨go2 h, (su_ ax z)⟩ (.cons z .nil)
   ·rintro bj br ⟨rfl, l⟩
    replace h := flowK_go an
    refine (show At _ _ _ [(1, pt m 0)] _ from ?_)
    refine th (sq (sq (rg ?_)))
    have a2 := (t.st e z).st l z
    refine wY (yL ty31 z z (a2.cells 0 (hl a0 (vl G H I) (vl J K L)) z) z) z ?_
    have a4 := (aj.i e z z).i l z z
    have ay := (ak.i e z z).i l z z
    obtain ⟨⟨bs, bt⟩, az, h⟩ := bnd h
    refine WL.call (vals := [ag (hl a0 (vl G H I) (vl J K L))]) kok53 z z (c_hist_Total (A := fun _ => True) (a0 := a0) (Sl.all a4) (Sl.all ay) az) ?_
    rintro bk ae ⟨rfl, aA⟩
    obtain ⟨au, a6, a7, M⟩ := adoptE bj (fun k => 1) aA
    refine wY (ym z) z (wY (yx z z) z (wY (yx z z) z (wY (ya z) z (wY (ya z) z (nl (th (sq (rg (wY (ym z) z ?_)))))))))
    refine wY (Y.not z) z (nl (th ?_))
    rcases cnd h with ⟨F, h⟩ | ⟨F, h⟩
    ·refine WC.condT' z F (sq (rg (wY (ya z) z (nl (th (rt (At.thenR ?_)))))))
     obtain rfl := some1 h
     have aC : Stp [12] (Lg.O0 A) w au ae := (tr_ (su_ d z) (tr_ (su_ e z) (tr_ (su_ l z) (su_ M z))))
     exact At.res (.inl z) z (.tmp z .nil) ⟨z, (se_ aC z z)⟩
    ·refine WC.condF' z F (sk (th (sq (rg (wY (ya z) z (nl (th (rt ?_))))))))
     obtain rfl := some1 h
     have aD : Stp [12] (Lg.O0 A) w au ae := (tr_ (su_ d z) (tr_ (su_ e z) (tr_ (su_ l z) (su_ M z))))
     exact At.res (.inl z) z (.tmp z .nil) ⟨z, (se_ aD z z)⟩
theorem c_label_small {a0 : UInt8} {w : World} {r0 : Bool} (h : label_small a0 = some r0) : Rets Try.prog 97 [vb a0] w (fun v w' => v = vB r0 ∧ Ext w w') := by
 unfold label_small at h
 refine Rets.enter Try.func97 z z ?_
 refine (show WC _ _ _ _ [(0, vb a0)] _ from ?_)
 refine sq (rg (wY (ya z) z (nl (th (sq (rg (wY (ym z) z (wY (Y.geq_b (b := 97) z z) z (wY (ym z) z ?_)))))))))
 refine WL.cut 3 (σ := Unit) (fun _ w' => w = w') (fun _ => [(8, vB ((decide (97 ≤ a0)) && (decide (a0 ≤ 122))))]) ?_ ?_
 ·refine WL.part 5 z (fun d => ?_) (fun d => ?_)
  ·refine ug z z (wY (ym z) z (ug z z (wY (Y.leq_b (b := 122) z z) z (wY (Y.pick (b := true) z z) z (WL.ren (v' := vB ((decide (97 ≤ a0)) && (decide (a0 ≤ 122)))) 8 z (congrArg vB (andT d)) ?_)))))
   exact nl (At.join () z (.cons z .nil))
  ·refine WL.gS z z z z (WL.gS z z z z (wY (Y.pick (b := false) z z) z (WL.ren (v' := vB ((decide (97 ≤ a0)) && (decide (a0 ≤ 122)))) 8 z (congrArg vB (andF d)) ?_)))
   exact nl (At.join () z (.cons z .nil))
 ·rintro _ _ rfl
  refine (show WL _ _ _ _ _ [(8, vB ((decide (97 ≤ a0)) && (decide (a0 ≤ 122))))] _ from ?_)
  obtain ⟨l, e, h⟩ := lt1 h
  refine WL.yE (ya z) (congrArg vB e.symm) z (nl (th (rt ?_)))
  obtain rfl := some1 h
  have j : Stp [] (Lg.O0 (fun _ => False)) w (Lg.O0 (fun _ => False)) w := (sr_ _ _ _)
  exact At.res (.inl z) z (.tmp z .nil) ⟨z, (se_ j z z)⟩
theorem c_label_isName {a0 : List UInt8} {w : World} {r0 : Bool} (h : label_isName a0 = some r0) : Rets Try.prog 72 [vs a0] w (fun v w' => v = vB r0 ∧ Ext w w') := by
 unfold label_isName at h
 refine Rets.enter Try.func72 z z ?_
 refine (show WC _ _ _ _ [(0, vs a0)] _ from ?_)
 refine sq (rg (wY (ya z) z (nl (th (sq (sq (rg (wY (ym z) z (wY (Y.eql_s (b := []) z z) z ?_)))))))))
 refine wY (ym z) z ?_
 refine WL.cut 4 (σ := Unit) (fun _ w' => w = w') (fun _ => [(0, vs a0), (11, vB ((decide (a0 = [])) || (decide (32 < (a0.length : Int)))))]) ?_ ?_
 ·refine WL.part 7 z (fun D => ?_) (fun D => ?_)
  ·refine WL.gS z z z z (WL.gS z z z z (WL.gS z z z z (wY (Y.pick (b := true) z z) z (WL.ren (v' := vB ((decide (a0 = [])) || (decide (32 < (a0.length : Int))))) 11 z (congrArg vB (orT D)) ?_))))
   exact nl (At.join () z (.cons z (.cons z .nil)))
  ·refine ug z z (wY (ym z) z (ug z z (wY (Y.len_s ty9 z) z (ug z z (wY (Y.gtr_i z z) z (wY (Y.pick (b := false) z z) z (WL.ren (v' := vB ((decide (a0 = [])) || (decide (32 < (a0.length : Int))))) 11 z (congrArg vB (orF D)) ?_)))))))
   exact nl (At.join () z (.cons z (.cons z .nil)))
 ·rintro _ _ rfl
  refine (show WL _ _ _ _ _ [(0, vs a0), (11, vB ((decide (a0 = [])) || (decide (32 < (a0.length : Int)))))] _ from ?_)
  refine wY (ym z) z ?_
  obtain ⟨aC, h, ah⟩ := bnd h
  refine WL.cut 5 (σ := (Bool × Own)) (fun x w' => x.1 = aC ∧ Stp [] (Lg.O0 (fun _ => False)) w x.2 w') (fun x => [(0, vs a0), (17, vB x.1)]) ?_ ?_
  ·rcases cnd h with ⟨E, h⟩ | ⟨E, h⟩
   ·refine WL.ren 12 z (congrArg vB E) (WL.gS z z z z (WL.gS z z z z (WL.gS z z z z (WL.gS z z z z (wY (Y.pick (b := true) z z) z ?_)))))
    exact nl (At.join (σ := (Bool × Own)) (true, (Lg.O0 (fun _ => False))) ⟨some1 h, (sr_ _ _ _)⟩ (.cons z (.cons z .nil)))
   ·refine WL.ren 12 z (congrArg vB E) (ug z z (wY (ym z) z (ug z z ?_)))
    obtain ⟨aD, ai, h⟩ := bnd h
    refine wY (Y.index_s ty9 z z ai) z (ug z z ?_)
    obtain ⟨aE, aj, h⟩ := bnd h
    refine WL.call (vals := [vb aD]) kok97 z z (c_label_small aj) ?_
    rintro aP aQ ⟨rfl, ak⟩
    obtain ⟨aF, aG, aH, W⟩ := adoptE (Lg.O0 (fun _ => False)) (fun k => 1) ak
    refine ug z z (wY (Y.not z) z (wY (Y.pick (b := false) z z) z ?_))
    exact nl (At.join (σ := (Bool × Own)) ((!aE), aF) ⟨some1 h, (su_ W z)⟩ (.cons z (.cons z .nil)))
  ·rintro ⟨aI, ab⟩ al ⟨rfl, o⟩
   replace h := ah
   try dsimp only at h o
   refine (show WL _ _ _ _ _ [(0, vs a0), (17, vB aI)] _ from ?_)
   refine nl (th ?_)
   rcases cnd h with ⟨F, h⟩ | ⟨F, h⟩
   ·refine WC.condT' z F (sq (rg (wY (ya z) z (nl (th (rt (At.thenR ?_)))))))
    obtain rfl := some1 h
    have am : Stp [] (Lg.O0 (fun _ => False)) w ab al := (su_ o z)
    exact At.res (.inl z) z (.tmp z .nil) ⟨z, (se_ am z z)⟩
   ·refine WC.condF' z F (sk (th (sq (sq (rg (wY (ym z) z (WL.s2b (O := ab) ty9 ty45 ty5 z z ?_)))))))
    intro j S T P U
    refine wY (Y.len ty45 z U) z (wY (ym z) z (nl (th (WC.block ?_))))
    obtain ⟨ac, h, V⟩ := flow1 h
    obtain ⟨ad, h⟩ := loop_some h
    refine WC.joinB 0 (σ := Own) (fun x w' => ac = .go () ∧ Stp [] S T x w') (fun x => []) ?_ ?_
    ·refine WC.loop (σ := (Int × Own)) (fun x k w' => loopN k (label_isName_lp1 a0) x.1 = some ac ∧ Stp [] S T x.2 w') (fun x => [(19, j), (20, vi (a0.length : Int)), (21, vi x.1)]) (0, S) ad (.cons z (.cons z (.cons z .nil))) ⟨h, (sr_ _ _ _)⟩ ?_
     rintro ⟨l, ae⟩ ad aR ⟨h, m⟩
     obtain ⟨aJ, aU, rfl, h, G⟩ := rnd1 h
     unfold label_isName_lp1 at h
     try dsimp only at h m
     refine (show WC _ _ _ _ [(19, j), (20, vi (a0.length : Int)), (21, vi l)] _ from ?_)
     refine sq (rg (wY (Y.lss_i z z) z (nl (th (sq ?_)))))
     rcases cnd h with ⟨H, h⟩ | ⟨H, h⟩
     ·refine WC.condT' z H (sk (th (sq (WC.block (sq (rg ?_))))))
      obtain ⟨d, an, h⟩ := bnd h
      have ao := U.f m z
      obtain ⟨aW, aN, aO, aS, ap, aq, ar, I, X, au⟩ := Sl.at2 ao an
      obtain rfl := X
      replace I : CellsAt _ _ _ [vb d] := I
      have Z := CAt.frs I au
      refine wY (Y.indexAddr ty45 ty5 z ap z aq ar) z (wY (yl ty5 z z Z.at_) z (wY (ya z) z (nl (th (sq (rg (wY (ym z) z ?_)))))))
      obtain ⟨e, av, h⟩ := bnd h
      refine WL.call (vals := [vb d]) kok97 z z (c_label_small av) ?_
      rintro aT t ⟨rfl, ax⟩
      obtain ⟨af, aK, aL, Q⟩ := adoptE ae (fun k => 1) ax
      refine wY (Y.not z) z (wY (ym z) z ?_)
      refine WL.cut 7 (σ := Unit) (fun _ w' => t = w') (fun _ => [(4, vb d), (19, j), (20, vi (a0.length : Int)), (21, vi l), (35, vB ((!e) && ((decide (d < 48)) || (decide (57 < d)))))]) ?_ ?_
      ·refine WL.part 28 z (fun J => ?_) (fun J => ?_)
       ·refine ug z z (wY (ym z) z (ug z z (wY (Y.lss_b (b := 48) z z) z (ug z z (wY (ym z) z ?_)))))
        refine WL.cut 3 (σ := Unit) (fun _ w' => t = w') (fun _ => [(4, vb d), (19, j), (20, vi (a0.length : Int)), (21, vi l), (28, vB true), (29, vb d), (30, vB (decide (d < 48))), (31, vB (decide (d < 48))), (34, vB ((decide (d < 48)) || (decide (57 < d))))]) ?_ ?_
        ·refine WL.part 31 z (fun C => ?_) (fun C => ?_)
         ·refine WL.gS z z z z (WL.gS z z z z (ug z z (wY (Y.pick (b := true) z z) z (WL.ren (v' := vB ((decide (d < 48)) || (decide (57 < d)))) 34 z (congrArg vB (orT C)) (WL.ren 31 z (congrArg vB C.symm) ?_)))))
          exact nl (At.join () z (.cons z (.cons z (.cons z (.cons z (.cons z (.cons z (.cons z (.cons z (.cons z .nil))))))))))
         ·refine ug z z (wY (ym z) z (ug z z (wY (Y.gtr_b (b := 57) z z) z (ug z z (wY (Y.pick (b := false) z z) z (WL.ren (v' := vB ((decide (d < 48)) || (decide (57 < d)))) 34 z (congrArg vB (orF C)) (WL.ren 31 z (congrArg vB C.symm) ?_)))))))
          exact nl (At.join () z (.cons z (.cons z (.cons z (.cons z (.cons z (.cons z (.cons z (.cons z (.cons z .nil))))))))))
        ·rintro _ _ rfl
         refine (show WL _ _ _ _ _ [(4, vb d), (19, j), (20, vi (a0.length : Int)), (21, vi l), (28, vB true), (29, vb d), (30, vB (decide (d < 48))), (31, vB (decide (d < 48))), (34, vB ((decide (d < 48)) || (decide (57 < d))))] _ from ?_)
         refine wY (Y.pick (b := true) z z) z (WL.ren (v' := vB ((!e) && ((decide (d < 48)) || (decide (57 < d))))) 35 z (congrArg vB (andT J)) ?_)
         exact nl (At.join () z (.cons z (.cons z (.cons z (.cons z (.cons z .nil))))))
       ·refine WL.gS z z z z (WL.gS z z z z (WL.gS z z z z (WL.gS z z z z (WL.gS z z z z (WL.gS z z z z (wY (Y.pick (b := false) z z) z (WL.ren (v' := vB ((!e) && ((decide (d < 48)) || (decide (57 < d))))) 35 z (congrArg vB (andF J)) ?_)))))))
        exact nl (At.join () z (.cons z (.cons z (.cons z (.cons z (.cons z .nil))))))
      ·rintro _ _ rfl
       refine (show WL _ _ _ _ _ [(4, vb d), (19, j), (20, vi (a0.length : Int)), (21, vi l), (35, vB ((!e) && ((decide (d < 48)) || (decide (57 < d)))))] _ from ?_)
       refine wY (ym z) z ?_
       refine WL.cut 3 (σ := Unit) (fun _ w' => t = w') (fun _ => [(4, vb d), (19, j), (20, vi (a0.length : Int)), (21, vi l), (39, vB (((!e) && ((decide (d < 48)) || (decide (57 < d)))) && (!decide (d = 95))))]) ?_ ?_
       ·refine WL.part 36 z (fun K => ?_) (fun K => ?_)
        ·refine ug z z (wY (ym z) z (ug z z (wY (Y.neq_b (b := 95) z z) z (wY (Y.pick (b := true) z z) z (WL.ren (v' := vB (((!e) && ((decide (d < 48)) || (decide (57 < d)))) && (!decide (d = 95)))) 39 z (congrArg vB (andT K)) ?_)))))
         exact nl (At.join () z (.cons z (.cons z (.cons z (.cons z (.cons z .nil))))))
        ·refine WL.gS z z z z (WL.gS z z z z (wY (Y.pick (b := false) z z) z (WL.ren (v' := vB (((!e) && ((decide (d < 48)) || (decide (57 < d)))) && (!decide (d = 95)))) 39 z (congrArg vB (andF K)) ?_)))
         exact nl (At.join () z (.cons z (.cons z (.cons z (.cons z (.cons z .nil))))))
       ·rintro _ _ rfl
        refine (show WL _ _ _ _ _ [(4, vb d), (19, j), (20, vi (a0.length : Int)), (21, vi l), (39, vB (((!e) && ((decide (d < 48)) || (decide (57 < d)))) && (!decide (d = 95))))] _ from ?_)
        refine wY (ym z) z ?_
        refine WL.cut 3 (σ := Unit) (fun _ w' => t = w') (fun _ => [(19, j), (20, vi (a0.length : Int)), (21, vi l), (43, vB ((((!e) && ((decide (d < 48)) || (decide (57 < d)))) && (!decide (d = 95))) && (!decide (d = 46))))]) ?_ ?_
        ·refine WL.part 40 z (fun L => ?_) (fun L => ?_)
         ·refine ug z z (wY (ym z) z (ug z z (wY (Y.neq_b (b := 46) z z) z (wY (Y.pick (b := true) z z) z (WL.ren (v' := vB ((((!e) && ((decide (d < 48)) || (decide (57 < d)))) && (!decide (d = 95))) && (!decide (d = 46)))) 43 z (congrArg vB (andT L)) ?_)))))
          exact nl (At.join () z (.cons z (.cons z (.cons z (.cons z .nil)))))
         ·refine WL.gS z z z z (WL.gS z z z z (wY (Y.pick (b := false) z z) z (WL.ren (v' := vB ((((!e) && ((decide (d < 48)) || (decide (57 < d)))) && (!decide (d = 95))) && (!decide (d = 46)))) 43 z (congrArg vB (andF L)) ?_)))
          exact nl (At.join () z (.cons z (.cons z (.cons z (.cons z .nil)))))
        ·rintro _ _ rfl
         refine (show WL _ _ _ _ _ [(19, j), (20, vi (a0.length : Int)), (21, vi l), (43, vB ((((!e) && ((decide (d < 48)) || (decide (57 < d)))) && (!decide (d = 95))) && (!decide (d = 46))))] _ from ?_)
         refine nl (th ?_)
         rcases cnd h with ⟨M, h⟩ | ⟨M, h⟩
         ·refine WC.condT' z M (sq (rg (wY (ya z) z (nl (th (rt (At.inBlockR (At.thenR (At.loopR ?_)))))))))
          have h := outr1 h G V
          refine At.joinBR (At.inBlockR (At.thenR ?_))
          obtain rfl := some1 h
          have ay : Stp [] (Lg.O0 (fun _ => False)) w af t := (tr_ (su_ o z) (tr_ (su_ P z) (tr_ (su_ m z) (su_ Q z))))
          exact At.res (.inl z) z (.tmp z .nil) ⟨z, (se_ ay z z)⟩
         ·refine WC.condF' z M (sk (At.inBlock (th (rg (wY (Y.add_i z z) z (wY (ym z) z (nl ?_)))))))
          exact At.round (w64 (l + 1), af) aJ (Nat.lt_succ_self _) ⟨next1 h G, (tr_ (su_ m z) (su_ Q z))⟩ (.cons z (.cons z (.cons z .nil)))
     ·refine WC.condF' z H (WC.exit (At.thenX (At.loopX ?_)))
      exact At.hitB (σ := Own) ae ⟨brk1 h G, (su_ m z)⟩ .nil
    ·rintro aM az ⟨rfl, aa⟩
     replace h := flowK_go V
     refine (show At _ _ _ [] _ from ?_)
     refine At.inBlockHit (th (sq (rg (wY (ya z) z (nl (th (rt ?_)))))))
     obtain rfl := some1 h
     have aA : Stp [] (Lg.O0 (fun _ => False)) w aM az := (tr_ (su_ o z) (tr_ (su_ P z) (su_ aa z)))
     exact At.res (.inl z) z (.tmp z .nil) ⟨z, (se_ aA z z)⟩
theorem c_label_isValue {a0 : List UInt8} {w : World} {r0 : Bool} (h : label_isValue a0 = some r0) : Rets Try.prog 73 [vs a0] w (fun v w' => v = vB r0 ∧ Ext w w') := by
 unfold label_isValue at h
 refine Rets.enter Try.func73 z z ?_
 refine (show WC _ _ _ _ [(0, vs a0)] _ from ?_)
 refine sq (rg (wY (ya z) z (nl (th (sq (sq (rg (wY (ym z) z (wY (Y.eql_s (b := []) z z) z ?_)))))))))
 refine wY (ym z) z ?_
 refine WL.cut 4 (σ := Unit) (fun _ w' => w = w') (fun _ => [(0, vs a0), (11, vB ((decide (a0 = [])) || (decide (32 < (a0.length : Int)))))]) ?_ ?_
 ·refine WL.part 7 z (fun l => ?_) (fun l => ?_)
  ·refine WL.gS z z z z (WL.gS z z z z (WL.gS z z z z (wY (Y.pick (b := true) z z) z (WL.ren (v' := vB ((decide (a0 = [])) || (decide (32 < (a0.length : Int))))) 11 z (congrArg vB (orT l)) ?_))))
   exact nl (At.join () z (.cons z (.cons z .nil)))
  ·refine ug z z (wY (ym z) z (ug z z (wY (Y.len_s ty9 z) z (ug z z (wY (Y.gtr_i z z) z (wY (Y.pick (b := false) z z) z (WL.ren (v' := vB ((decide (a0 = [])) || (decide (32 < (a0.length : Int))))) 11 z (congrArg vB (orF l)) ?_)))))))
   exact nl (At.join () z (.cons z (.cons z .nil)))
 ·rintro _ _ rfl
  refine (show WL _ _ _ _ _ [(0, vs a0), (11, vB ((decide (a0 = [])) || (decide (32 < (a0.length : Int)))))] _ from ?_)
  refine nl (th ?_)
  rcases cnd h with ⟨m, h⟩ | ⟨m, h⟩
  ·refine WC.condT' z m (sq (rg (wY (ya z) z (nl (th (rt (At.thenR ?_)))))))
   obtain rfl := some1 h
   have U : Stp [] (Lg.O0 (fun _ => False)) w (Lg.O0 (fun _ => False)) w := (sr_ _ _ _)
   exact At.res (.inl z) z (.tmp z .nil) ⟨z, (se_ U z z)⟩
  ·refine WC.condF' z m (sk (th (sq (sq (rg (wY (ym z) z (WL.s2b (O := (Lg.O0 (fun _ => False))) ty9 ty45 ty5 z z ?_)))))))
   intro e Q d I J
   refine wY (Y.len ty45 z J) z (wY (ym z) z (nl (th (WC.block ?_))))
   obtain ⟨S, h, K⟩ := flow1 h
   obtain ⟨T, h⟩ := loop_some h
   refine WC.joinB 0 (σ := Unit) (fun x w' => S = .go () ∧ d = w') (fun x => []) ?_ ?_
   ·refine WC.loop (σ := Int) (fun x k w' => loopN k (label_isValue_lp1 a0) x = some S ∧ d = w') (fun x => [(13, e), (14, vi (a0.length : Int)), (15, vi x)]) 0 T (.cons z (.cons z (.cons z .nil))) ⟨h, z⟩ ?_
    rintro j T _ ⟨h, rfl⟩
    obtain ⟨ak, aA, rfl, h, o⟩ := rnd1 h
    unfold label_isValue_lp1 at h
    try dsimp only at h
    refine (show WC _ _ _ _ [(13, e), (14, vi (a0.length : Int)), (15, vi j)] _ from ?_)
    refine sq (rg (wY (Y.lss_i z z) z (nl (th (sq ?_)))))
    rcases cnd h with ⟨t, h⟩ | ⟨t, h⟩
    ·refine WC.condT' z t (sk (th (sq (WC.block (sq (rg ?_))))))
     obtain ⟨al, V, h⟩ := bnd h
     obtain ⟨aC, ax, ay, az, W, X, Z, C, M, aa⟩ := Sl.at2 J V
     obtain rfl := M
     replace C : CellsAt _ _ _ [vb al] := C
     have P := CAt.frs C aa
     refine wY (Y.indexAddr ty45 ty5 z W z X Z) z (wY (yl ty5 z z P.at_) z (wY (ya z) z (nl (th ?_))))
     obtain ⟨am, h, L⟩ := flow1 h
     refine WC.join (σ := Unit) (fun x w' => am = .go () ∧ d = w') (fun x => [(13, e), (14, vi (a0.length : Int)), (15, vi j)]) ?_ ?_
     ·refine WC.block (sq ?_)
      obtain ⟨an, h, ab⟩ := bnd h
      refine WC.join (σ := Bool) (fun x w' => x = an ∧ d = w') (fun x => [(13, e), (14, vi (a0.length : Int)), (15, vi j), (19, vB x)]) ?_ ?_
      ·refine sq (rg (wY (ym z) z (wY (Y.lss_b (b := 33) z z) z ?_)))
       obtain ⟨ao, ac, h⟩ := lt1 h
       refine WL.yE (ya z) (congrArg vB ac.symm) z (nl (th ?_))
       rcases cnd h with ⟨D, h⟩ | ⟨D, h⟩
       ·refine WC.condT' z D (sk ?_)
        exact At.join (σ := Bool) ao ⟨some1 h, z⟩ (.cons z (.cons z (.cons z (.cons z .nil))))
       ·refine WC.condF' z D (sq (rg (wY (ym z) z (wY (Y.gtr_b (b := 126) z z) z ?_))))
        obtain ⟨ap, ad, h⟩ := lt1 h
        refine WL.yE (ya z) (congrArg vB ad.symm) z (nl (th ?_))
        rcases cnd h with ⟨E, h⟩ | ⟨E, h⟩
        ·refine WC.condT' z E (sk ?_)
         exact At.join (σ := Bool) ap ⟨some1 h, z⟩ (.cons z (.cons z (.cons z (.cons z .nil))))
        ·refine WC.condF' z E (sq (rg (wY (ym z) z (wY (Y.eql_b (b := 61) z z) z ?_))))
         obtain ⟨aq, ae, h⟩ := lt1 h
         refine WL.yE (ya z) (congrArg vB ae.symm) z (nl (th ?_))
         rcases cnd h with ⟨F, h⟩ | ⟨F, h⟩
         ·refine WC.condT' z F (sk ?_)
          exact At.join (σ := Bool) aq ⟨some1 h, z⟩ (.cons z (.cons z (.cons z (.cons z .nil))))
         ·refine WC.condF' z F (sq (rg (wY (ym z) z (wY (Y.eql_b (b := 59) z z) z ?_))))
          obtain ⟨ar, af, h⟩ := lt1 h
          refine WL.yE (ya z) (congrArg vB af.symm) z (nl (th ?_))
          rcases cnd h with ⟨G, h⟩ | ⟨G, h⟩
          ·refine WC.condT' z G (sk ?_)
           exact At.join (σ := Bool) ar ⟨some1 h, z⟩ (.cons z (.cons z (.cons z (.cons z .nil))))
          ·refine WC.condF' z G (rg (wY (ym z) z (wY (Y.eql_b (b := 44) z z) z ?_)))
           obtain ⟨au, ah, h⟩ := lt1 h
           refine WL.yE (ya z) (congrArg vB ah.symm) z (nl ?_)
           exact At.join (σ := Bool) au ⟨some1 h, z⟩ (.cons z (.cons z (.cons z (.cons z .nil))))
      ·rintro av _ ⟨rfl, rfl⟩
       replace h := ab
       try dsimp only at h
       refine (show At _ _ _ [(13, e), (14, vi (a0.length : Int)), (15, vi j), (19, vB av)] _ from ?_)
       refine th ?_
       rcases cnd h with ⟨H, h⟩ | ⟨H, h⟩
       ·refine WC.condT' z H (sq (rg (wY (ya z) z (nl (th (rt (At.inBlockR ?_)))))))
        have h := outs1 h L
        refine At.joinR (At.inBlockR (At.thenR (At.loopR ?_)))
        have h := outr1 h o K
        refine At.joinBR (At.inBlockR (At.thenR ?_))
        obtain rfl := some1 h
        have ai : Stp [] (Lg.O0 (fun _ => False)) w Q d := (su_ I z)
        exact At.res (.inl z) z (.tmp z .nil) ⟨z, (se_ ai z z)⟩
       ·refine WC.condF' z H (sk (At.inBlock ?_))
        exact At.join (σ := Unit) () ⟨go2 h, z⟩ (.cons z (.cons z (.cons z .nil)))
     ·rintro _ _ ⟨rfl, rfl⟩
      replace h := flowK_go L
      refine (show At _ _ _ [(13, e), (14, vi (a0.length : Int)), (15, vi j)] _ from ?_)
      refine At.inBlock (th (rg (wY (Y.add_i z z) z (wY (ym z) z (nl ?_)))))
      exact At.round (w64 (j + 1)) ak (Nat.lt_succ_self _) ⟨next1 h o, z⟩ (.cons z (.cons z (.cons z .nil)))
    ·refine WC.condF' z t (WC.exit (At.thenX (At.loopX ?_)))
     exact At.hitB (σ := Unit) () ⟨brk1 h o, z⟩ .nil
   ·rintro _ _ ⟨rfl, rfl⟩
    replace h := flowK_go K
    refine (show At _ _ _ [] _ from ?_)
    refine At.inBlockHit (th (sq (rg (wY (ya z) z (nl (th (rt ?_)))))))
    obtain rfl := some1 h
    have aj : Stp [] (Lg.O0 (fun _ => False)) w Q d := (su_ I z)
    exact At.res (.inl z) z (.tmp z .nil) ⟨z, (se_ aj z z)⟩
theorem c_label_Check {A : Nat → Prop} {a0 : List UInt8} {a1 : List api_Pair} {v1 : Value} {w : World} (hs1 : Sl rep_api_Pair w A v1 a1) {r0 : Int} (h : label_Check a0 a1 = some r0) : Rets Try.prog 37 [vs a0, v1] w (fun v w' => v = vi r0 ∧ Ext w w') := by
 unfold label_Check at h
 refine Rets.enter Try.func37 z z ?_
 have a4 : Sl rep_api_Pair w (imm (Lg.O0 A)) v1 a1 := (Sl.start hs1)
 refine (show WC _ _ _ _ [(0, vs a0), (1, v1)] _ from ?_)
 refine sq (rg (wY (ya z) z (nl (th (sq (sq (rg (wY (ym z) z ?_))))))))
 obtain ⟨cj, a5, h⟩ := bnd h
 refine WL.call (vals := [vs a0]) kok72 z z (c_label_isName a5) ?_
 rintro b8 L ⟨rfl, a6⟩
 obtain ⟨V, bJ, bK, l⟩ := adoptE (Lg.O0 A) (fun k => 1) a6
 refine wY (Y.not z) z (nl (th ?_))
 rcases cnd h with ⟨Z, h⟩ | ⟨Z, h⟩
 ·refine WC.condT' z Z (sq (rg (wY (ya z) z (nl (th (rt (At.thenR ?_)))))))
  obtain rfl := some1 h
  have a7 : Stp [] (Lg.O0 A) w V L := (su_ l z)
  exact At.res (.inl z) z (.tmp z .nil) ⟨z, (se_ a7 z z)⟩
 ·refine WC.condF' z Z (sk (th (sq (sq (rg (wY (ym z) z ?_))))))
  have aa := a4.i l z z
  refine wY (Y.len ty25 z aa) z (wY (Y.gtr_i z z) z (nl (th ?_)))
  rcases cnd h with ⟨ab, h⟩ | ⟨ab, h⟩
  ·refine WC.condT' z ab (sq (rg (wY (ya z) z (nl (th (rt (At.thenR ?_)))))))
   obtain rfl := some1 h
   have a8 : Stp [] (Lg.O0 A) w V L := (su_ l z)
   exact At.res (.inl z) z (.tmp z .nil) ⟨z, (se_ a8 z z)⟩
  ·refine WC.condF' z ab (sk (th (sq (sq (rg (wY (ym z) z (wY (Y.len ty25 z aa) z (wY (ym z) z (nl ?_)))))))))
   refine th (WC.block ?_)
   obtain ⟨aY, h, ac⟩ := flow1 h
   obtain ⟨aZ, h⟩ := loop_some h
   refine WC.joinB 0 (σ := Own) (fun x w' => aY = .go () ∧ Stp [11] V L x w') (fun x => []) ?_ ?_
   ·refine WC.loop (σ := (Int × Own)) (fun x k w' => loopN k (label_Check_lp1 a1) x.1 = some aY ∧ Stp [11] V L x.2 w') (fun x => [(1, v1), (13, v1), (14, vi (a1.length : Int)), (15, vi x.1)]) (0, V) aZ (.cons z (.cons z (.cons z (.cons z .nil)))) ⟨h, (sr_ _ _ _)⟩ ?_
    rintro ⟨F, a2⟩ aZ b9 ⟨h, m⟩
    obtain ⟨bL, ck, rfl, h, M⟩ := rnd1 h
    unfold label_Check_lp1 at h
    try dsimp only at h m
    refine (show WC _ _ _ _ [(1, v1), (13, v1), (14, vi (a1.length : Int)), (15, vi F)] _ from ?_)
    refine sq (rg (wY (Y.lss_i z z) z (nl (th (sq ?_)))))
    rcases cnd h with ⟨ad, h⟩ | ⟨ad, h⟩
    ·refine WC.condT' z ad (sk (th (sq (WC.block (sq (rg (wY (ym z) z ?_)))))))
     obtain ⟨C, a9, h⟩ := bnd h
     have am := aa.i m z z
     obtain ⟨cl, b1, b2, ca, ba, bb, bc, ae, az, bd⟩ := Sl.at2 am a9
     obtain ⟨_, _, rfl, rfl, rfl⟩ := az
     replace ae : CellsAt _ _ _ [vs C.Key, vs C.Val] := ae
     have aA := CAt.imm ae bd
     refine wY (Y.indexAddr ty25 ty65 z ba z bb bc) z (wY (yL ty65 z z aA.at_ z) z (WL.alloc (O := a2) 11 [vs [], vs []] ty65 z z ?_))
     intro e bM cb D bf
     refine wY (ya z) z (WL.store (v := ag [vs C.Key, vs C.Val]) (cells' := [vs C.Key, vs C.Val]) ty65 z z bf z (le_ z) z z ?_)
     intro cc E af
     refine nl (th (sq (sq (rg (wY (yf fo65_0 z) z (wY (yl ty9 z z (af.cell 0 _ z)) z ?_))))))
     obtain ⟨cm, bg, h⟩ := bnd h
     refine WL.call (vals := [vs C.Key]) kok72 z z (c_label_isName bg) ?_
     rintro cd bh ⟨rfl, bi⟩
     obtain ⟨an, bO, bP, o⟩ := adoptE bM (fun k => 1) bi
     refine wY (Y.not z) z (wY (ym z) z ?_)
     obtain ⟨bQ, h, bj⟩ := bnd h
     refine WL.cut 5 (σ := (Bool × Own)) (fun x w' => x.1 = bQ ∧ Stp [] an bh x.2 w') (fun x => [(1, v1), (5, vi F), (6, pt e 0), (13, v1), (14, vi (a1.length : Int)), (15, vi F), (29, vB x.1)]) ?_ ?_
     ·rcases cnd h with ⟨ah, h⟩ | ⟨ah, h⟩
      ·refine WL.ren 24 z (congrArg vB ah) (WL.gS z z z z (WL.gS z z z z (WL.gS z z z z (WL.gS z z z z (wY (Y.pick (b := true) z z) z ?_)))))
       exact nl (At.join (σ := (Bool × Own)) (true, an) ⟨some1 h, (sr_ _ _ _)⟩ (.cons z (.cons z (.cons z (.cons z (.cons z (.cons z (.cons z .nil))))))))
      ·refine WL.ren 24 z (congrArg vB ah) (ug z z (wY (yf fo65_1 z) z (ug z z ?_)))
       have bk := af.st o z
       refine wY (yl ty9 z z (bk.cell 1 _ z)) z (ug z z ?_)
       obtain ⟨bR, bl, h⟩ := bnd h
       refine WL.call (vals := [vs C.Val]) kok73 z z (c_label_isValue bl) ?_
       rintro ce cf ⟨rfl, bm⟩
       obtain ⟨bS, bT, bU, aC⟩ := adoptE an (fun k => 1) bm
       refine ug z z (wY (Y.not z) z (wY (Y.pick (b := false) z z) z ?_))
       exact nl (At.join (σ := (Bool × Own)) ((!bR), bS) ⟨some1 h, (su_ aC z)⟩ (.cons z (.cons z (.cons z (.cons z (.cons z (.cons z (.cons z .nil))))))))
     ·rintro ⟨bW, J⟩ G ⟨rfl, t⟩
      replace h := bj
      try dsimp only at h t
      refine (show WL _ _ _ _ _ [(1, v1), (5, vi F), (6, pt e 0), (13, v1), (14, vi (a1.length : Int)), (15, vi F), (29, vB bW)] _ from ?_)
      refine nl (th ?_)
      rcases cnd h with ⟨ai, h⟩ | ⟨ai, h⟩
      ·refine WC.condT' z ai (sq (rg (wY (ya z) z (nl (th (rt (At.thenR (At.inBlockR (At.thenR ?_)))))))))
       refine At.loopR ?_
       have h := outr1 h M ac
       refine At.joinBR (At.inBlockR (At.thenR ?_))
       obtain rfl := some1 h
       have bn : Stp [11] (Lg.O0 A) w J G := (tr_ (su_ l z) (tr_ (su_ m z) (tr_ (su_ D z) (tr_ (su_ E z) (tr_ (su_ o z) (su_ t z))))))
       exact At.res (.inl z) z (.tmp z .nil) ⟨z, (se_ bn z z)⟩
      ·refine WC.condF' z ai (sk (th (sq (rg (wY (ym z) z (wY (ym z) z ?_))))))
       obtain ⟨ao, bo, h⟩ := bnd h
       have bs := (((am.i D z z).i E z z).i o z z).i t z z
       obtain ⟨K, bt, ap⟩ := Sl.slice (ρ := [(30, v1), (31, vi F)]) (x := (.tmp 30)) (lo := none) (hi := (some (.tmp 31))) ty25 ty65 rfl rfl rfl bs bo
       refine wY (Y.sub (.cons z (.cons z .nil)) (bt _ _)) z (wY (Y.mkfunc (fv := []) (cv := [pt e 0]) z z) z ?_)
       obtain ⟨bu, h, aD⟩ := bnd h
       refine WL.callJ (vals := [K, Value.func (.func 75) (List.toArray []) (List.toArray [pt e 0])]) (σ := (Bool × Own)) (fun x w' => x.1 = bu ∧ Stp [] J G x.2 w') (fun x => vB x.1) kok74 z z ?_ ?_
       ·refine Rets.enter Try.func74 z z ?_
        refine (show WC _ _ _ _ [(0, K), (1, Value.func (.func 75) (List.toArray []) (List.toArray [pt e 0]))] _ from ?_)
        refine sq (rg (wY (ya z) z (nl (th (sq (rg (wY (ym z) z (wY (ym z) z ?_))))))))
        obtain ⟨bw, h, aE⟩ := bnd h
        refine WL.callJ (vals := [K, Value.func (.func 75) (List.toArray []) (List.toArray [pt e 0])]) (σ := (Int × Own)) (fun x w' => x.1 = bw ∧ Stp [] J G x.2 w') (fun x => vi x.1) kok98 z z ?_ ?_
        ·refine Rets.enter Try.func98 z z ?_
         refine (show WC _ _ _ _ [(0, K), (1, Value.func (.func 75) (List.toArray []) (List.toArray [pt e 0]))] _ from ?_)
         refine sq (rg (wY (ya z) z (nl (th (sq (sq (rg (wY (ym z) z (wY (Y.len ty25 z ap) z ?_)))))))))
         refine wY (ym z) z (nl (th (WC.block ?_)))
         obtain ⟨aq, h, al⟩ := flow1 h
         obtain ⟨ar, h⟩ := loop_some h
         refine WC.joinB 0 (σ := Own) (fun x w' => aq = .go () ∧ Stp [] J G x w') (fun x => []) ?_ ?_
         ·refine WC.loop (σ := (Int × Own)) (fun x k w' => loopN k (label_Check_lp2 C ao) x.1 = some aq ∧ Stp [] J G x.2 w') (fun x => [(0, K), (1, Value.func (.func 75) (List.toArray []) (List.toArray [pt e 0])), (7, vi (ao.length : Int)), (8, vi x.1)]) (0, J) ar (.cons z (.cons z (.cons z (.cons z .nil)))) ⟨h, (sr_ _ _ _)⟩ ?_
          rintro ⟨aj, ak⟩ ar aF ⟨h, d⟩
          obtain ⟨bx, cg, rfl, h, P⟩ := rnd1 h
          unfold label_Check_lp2 at h
          try dsimp only at h d
          refine (show WC _ _ _ _ [(0, K), (1, Value.func (.func 75) (List.toArray []) (List.toArray [pt e 0])), (7, vi (ao.length : Int)), (8, vi aj)] _ from ?_)
          refine sq (rg (wY (Y.lss_i z z) z (nl (th (sq ?_)))))
          rcases cnd h with ⟨Q, h⟩ | ⟨Q, h⟩
          ·refine WC.condT' z Q (sk (th (sq (WC.block (sq (rg (wY (ym z) z (wY (ya z) z (nl ?_)))))))))
           refine th (sq (rg (wY (ym z) z (wY (ym z) z (wY (ym z) z ?_)))))
           obtain ⟨j, aG, h⟩ := bnd h
           have aH := ap.i d z z
           obtain ⟨ch, bX, bY, b3, aI, aJ, aK, S, au, aL⟩ := Sl.at2 aH aG
           obtain ⟨_, _, rfl, rfl, rfl⟩ := au
           replace S : CellsAt _ _ _ [vs j.Key, vs j.Val] := S
           have av := CAt.imm S aL
           refine wY (Y.indexAddr ty25 ty65 z aI z aJ aK) z (wY (yL ty65 z z av.at_ z) z ?_)
           obtain ⟨bz, h, aM⟩ := bnd h
           refine WL.callV (fv := []) (cv := [pt e 0]) (vals := [ag [vs j.Key, vs j.Val]]) (σ := (Bool × Own)) (fun x w' => x.1 = bz ∧ Stp [] ak aF x.2 w') (fun x => vB x.1) kok75 z z z ?_ ?_
           ·refine Rets.enter Try.func75 z z ?_
            refine (show WC _ _ _ _ [(0, ag [vs j.Key, vs j.Val]), (1, pt e 0)] _ from ?_)
            refine sq (rg (WL.box (O := ak) 12 [vs j.Key, vs j.Val] z z z ?_))
            intro ci bA b4 W aN
            refine wY (ya z) z (nl (th (sq (rg (wY (yf fo65_0 z) z (wY (yl ty9 z z (aN.cell 0 _ z)) z (wY (yf fo65_0 z) z ?_)))))))
            have aR := (((af.st o z).st t z).st d z).st W z
            refine wY (yl ty9 z z (aR.cell 0 _ z)) z (wY (Y.eql_s z z) z ?_)
            obtain ⟨bB, aS, h⟩ := lt1 h
            refine WL.yE (ya z) (congrArg vB aS.symm) z (nl (th (rt ?_)))
            exact At.res (.inl z) z (.tmp z .nil) ⟨(bB, bA), ⟨some1 h, (su_ W z)⟩, z⟩
           ·rintro ⟨bC, ax⟩ b5 ⟨rfl, H⟩
            replace h := aM
            try dsimp only at h H
            refine (show WL _ _ _ _ _ ((16, vB bC) :: _) _ from ?_)
            refine nl (th ?_)
            rcases cnd h with ⟨T, h⟩ | ⟨T, h⟩
            ·refine WC.condT' z T (sq (rg (wY (ym z) z (wY (ya z) z (nl (th (rt (At.inBlockR (At.thenR ?_)))))))))
             refine At.loopR ?_
             have h := outr1 h P al
             refine At.joinBR (At.inBlockR (At.thenR ?_))
             exact At.res (.inl z) z (.tmp z .nil) ⟨(aj, ax), ⟨some1 h, (tr_ (su_ d z) (su_ H z))⟩, z⟩
            ·refine WC.condF' z T (sk (At.inBlock (th (rg (wY (Y.add_i z z) z (wY (ym z) z (nl ?_)))))))
             exact At.round (w64 (aj + 1), ax) bx (Nat.lt_succ_self _) ⟨next1 h P, (tr_ (su_ d z) (su_ H z))⟩ (.cons z (.cons z (.cons z (.cons z .nil))))
          ·refine WC.condF' z Q (WC.exit (At.thenX (At.loopX ?_)))
           exact At.hitB (σ := Own) ak ⟨brk1 h P, (su_ d z)⟩ .nil
         ·rintro bD b6 ⟨rfl, ay⟩
          replace h := flowK_go al
          refine (show At _ _ _ [] _ from ?_)
          refine At.inBlockHit (th (sq (rg (wY (ya z) z (nl (th (rt ?_)))))))
          exact At.res (.inl z) z (.tmp z .nil) ⟨((-1), bD), ⟨some1 h, (su_ ay z)⟩, z⟩
        ·rintro ⟨bE, bF⟩ b7 ⟨rfl, X⟩
         replace h := aE
         try dsimp only at h X
         refine (show WL _ _ _ _ _ ((7, vi bE) :: _) _ from ?_)
         refine wY (Y.geq_i z z) z ?_
         obtain ⟨bG, aT, h⟩ := lt1 h
         refine WL.yE (ya z) (congrArg vB aT.symm) z (nl (th (rt ?_)))
         exact At.res (.inl z) z (.tmp z .nil) ⟨(bG, bF), ⟨some1 h, (su_ X z)⟩, z⟩
       ·rintro ⟨bZ, a3⟩ bH ⟨rfl, I⟩
        replace h := aD
        try dsimp only at h I
        refine (show WL _ _ _ _ _ ((34, vB bZ) :: _) _ from ?_)
        refine nl (th ?_)
        rcases cnd h with ⟨U, h⟩ | ⟨U, h⟩
        ·refine WC.condT' z U (sq (rg (wY (ya z) z (nl (th (rt (At.inBlockR (At.thenR (At.loopR ?_)))))))))
         have h := outr1 h M ac
         refine At.joinBR (At.inBlockR (At.thenR ?_))
         obtain rfl := some1 h
         have aU : Stp [11] (Lg.O0 A) w a3 bH := (tr_ (su_ l z) (tr_ (su_ m z) (tr_ (su_ D z) (tr_ (su_ E z) (tr_ (su_ o z) (tr_ (su_ t z) (su_ I z)))))))
         exact At.res (.inl z) z (.tmp z .nil) ⟨z, (se_ aU z z)⟩
        ·refine WC.condF' z U (sk (At.inBlock (th (rg (wY (Y.add_i z z) z (wY (ym z) z (nl ?_)))))))
         exact At.round (w64 (F + 1), a3) bL (Nat.lt_succ_self _) ⟨next1 h M, (tr_ (su_ m z) (tr_ (su_ D z) (tr_ (su_ E z) (tr_ (su_ o z) (tr_ (su_ t z) (su_ I z))))))⟩ (.cons z (.cons z (.cons z (.cons z .nil))))
    ·refine WC.condF' z ad (WC.exit (At.thenX (At.loopX ?_)))
     exact At.hitB (σ := Own) a2 ⟨brk1 h M, (su_ m z)⟩ .nil
   ·rintro b0 bI ⟨rfl, aW⟩
    replace h := flowK_go ac
    refine (show At _ _ _ [] _ from ?_)
    refine At.inBlockHit (th (sq (rg (wY (ya z) z (nl (th (rt ?_)))))))
    obtain rfl := some1 h
    have aX : Stp [11] (Lg.O0 A) w b0 bI := (tr_ (su_ l z) (su_ aW z))
    exact At.res (.inl z) z (.tmp z .nil) ⟨z, (se_ aX z z)⟩
theorem c_point_kinds {A : Nat → Prop} {v0_1 : Value} {v0_13 : Value} {v0_15 : Value} {a0 : api_Point} {w : World} (hs0_1 : Sl rep_api_Pair w A v0_1 a0.Attrs) (hs0_13 : Sl Rep.u w A v0_13 a0.Hist.Pos.Counts) (hs0_15 : Sl Rep.u w A v0_15 a0.Hist.Neg.Counts) {r0 : Bool} (h : point_kinds a0 = some r0) : Rets Try.prog 38 [ag (cp a0 v0_1 v0_13 v0_15)] w (fun v w' => v = vB r0 ∧ Ext w w') := by
 unfold point_kinds at h
 refine Rets.enter Try.func38 z z ?_
 have G : Sl rep_api_Pair w (imm (Lg.O0 A)) v0_1 a0.Attrs := (Sl.start hs0_1)
 have H : Sl Rep.u w (imm (Lg.O0 A)) v0_13 a0.Hist.Pos.Counts := (Sl.start hs0_13)
 have I : Sl Rep.u w (imm (Lg.O0 A)) v0_15 a0.Hist.Neg.Counts := (Sl.start hs0_15)
 refine (show WC _ _ _ _ [(0, ag (cp a0 v0_1 v0_13 v0_15))] _ from ?_)
 refine sq (rg ?_)
 have J := h
 obtain ⟨ab, ac, ad, rfl⟩ := G.shape
 have h := J
 have K := h
 obtain ⟨ae, af, ah, rfl⟩ := H.shape
 have h := K
 have L := h
 obtain ⟨ai, aj, ak, rfl⟩ := I.shape
 have h := L
 refine WL.box (O := (Lg.O0 A)) 11 (cp a0 (vl ab ac ad) (vl ae af ah) (vl ai aj ak)) z z z ?_
 intro F E d e j
 refine wY (ya z) z (nl (th (sq (sq (rg (wY (yf fo33_2 z) z (wY (yl ty3 z z (j.cell 2 _ z)) z (nl (th ?_)))))))))
 refine WC.block (sq (rg (wY (Y.eql_i z z) z ?_)))
 obtain ⟨ar, M, h⟩ := lt1 h
 refine WL.yE (ya z) (congrArg vB M.symm) z (nl (th ?_))
 rcases cnd h with ⟨l, h⟩ | ⟨l, h⟩
 ·refine WC.condT' z l (sq (rg (wY (yf fo33_3 z) z (wY (yl ty3 z z (j.cell 3 _ z)) z (wY (Y.eql_i z z) z ?_)))))
  obtain ⟨au, P, h⟩ := lt1 h
  refine WL.yE (ya z) (congrArg vB P.symm) z (nl (th (rt (At.inBlockR (At.thenR ?_)))))
  obtain rfl := some1 h
  have Q : Stp [] (Lg.O0 A) w E d := (su_ e z)
  exact At.res (.inl z) z (.tmp z .nil) ⟨z, (se_ Q z z)⟩
 ·refine WC.condF' z l (sq ?_)
  obtain ⟨al, h, S⟩ := bnd h
  refine WC.join (σ := Bool) (fun x w' => x = al ∧ d = w') (fun x => [(1, pt F 0), (10, vB x)]) ?_ ?_
  ·refine sq (rg (wY (Y.eql_i z z) z ?_))
   obtain ⟨am, T, h⟩ := lt1 h
   refine WL.yE (ya z) (congrArg vB T.symm) z (nl (th ?_))
   rcases cnd h with ⟨m, h⟩ | ⟨m, h⟩
   ·refine WC.condT' z m (sk ?_)
    exact At.join (σ := Bool) am ⟨some1 h, z⟩ (.cons z (.cons z .nil))
   ·refine WC.condF' z m (sq (rg (wY (Y.eql_i z z) z ?_)))
    obtain ⟨an, U, h⟩ := lt1 h
    refine WL.yE (ya z) (congrArg vB U.symm) z (nl (th ?_))
    rcases cnd h with ⟨o, h⟩ | ⟨o, h⟩
    ·refine WC.condT' z o (sk ?_)
     exact At.join (σ := Bool) an ⟨some1 h, z⟩ (.cons z (.cons z .nil))
    ·refine WC.condF' z o (sq (rg (wY (Y.eql_i z z) z ?_)))
     obtain ⟨ao, V, h⟩ := lt1 h
     refine WL.yE (ya z) (congrArg vB V.symm) z (nl (th ?_))
     rcases cnd h with ⟨t, h⟩ | ⟨t, h⟩
     ·refine WC.condT' z t (sk ?_)
      exact At.join (σ := Bool) ao ⟨some1 h, z⟩ (.cons z (.cons z .nil))
     ·refine WC.condF' z t (rg (wY (Y.eql_i z z) z ?_))
      obtain ⟨ap, W, h⟩ := lt1 h
      refine WL.yE (ya z) (congrArg vB W.symm) z (nl ?_)
      exact At.join (σ := Bool) ap ⟨some1 h, z⟩ (.cons z (.cons z .nil))
  ·rintro aq _ ⟨rfl, rfl⟩
   replace h := S
   try dsimp only at h
   refine (show At _ _ _ [(1, pt F 0), (10, vB aq)] _ from ?_)
   refine th ?_
   rcases cnd h with ⟨C, h⟩ | ⟨C, h⟩
   ·refine WC.condT' z C (sq (rg (wY (yf fo33_3 z) z (wY (yl ty3 z z (j.cell 3 _ z)) z (wY (Y.eql_i z z) z (wY (ym z) z ?_))))))
    refine WL.cut 4 (σ := Unit) (fun _ w' => d = w') (fun _ => [(22, vB ((decide (a0.Temp = 1)) || (decide (a0.Temp = 2))))]) ?_ ?_
    ·refine WL.part 18 z (fun D => ?_) (fun D => ?_)
     ·refine WL.gS z z z z (WL.gS z z z z (WL.gS z z z z (wY (Y.pick (b := true) z z) z (WL.ren (v' := vB ((decide (a0.Temp = 1)) || (decide (a0.Temp = 2)))) 22 z (congrArg vB (orT D)) ?_))))
      exact nl (At.join () z (.cons z .nil))
     ·refine ug z z (wY (yf fo33_3 z) z (ug z z (wY (yl ty3 z z (j.cell 3 _ z)) z (ug z z (wY (Y.eql_i z z) z (wY (Y.pick (b := false) z z) z (WL.ren (v' := vB ((decide (a0.Temp = 1)) || (decide (a0.Temp = 2)))) 22 z (congrArg vB (orF D)) ?_)))))))
      exact nl (At.join () z (.cons z .nil))
    ·rintro _ _ rfl
     refine (show WL _ _ _ _ _ [(22, vB ((decide (a0.Temp = 1)) || (decide (a0.Temp = 2))))] _ from ?_)
     obtain ⟨av, X, h⟩ := lt1 h
     refine WL.yE (ya z) (congrArg vB X.symm) z (nl (th (rt (At.inBlockR (At.thenR ?_)))))
     obtain rfl := some1 h
     have Z : Stp [] (Lg.O0 A) w E d := (su_ e z)
     exact At.res (.inl z) z (.tmp z .nil) ⟨z, (se_ Z z z)⟩
   ·refine WC.condF' z C (sk (At.inBlock (th (sq (rg (wY (ya z) z (nl (th (rt ?_)))))))))
    obtain rfl := some1 h
    have aa : Stp [] (Lg.O0 A) w E d := (su_ e z)
    exact At.res (.inl z) z (.tmp z .nil) ⟨z, (se_ aa z z)⟩
theorem c_point_sum {A : Nat → Prop} {v0_1 : Value} {v0_13 : Value} {v0_15 : Value} {a0 : api_Point} {w : World} (hs0_1 : Sl rep_api_Pair w A v0_1 a0.Attrs) (hs0_13 : Sl Rep.u w A v0_13 a0.Hist.Pos.Counts) (hs0_15 : Sl Rep.u w A v0_15 a0.Hist.Neg.Counts) {r0 : Bool} (h : point_sum a0 = some r0) : Rets Try.prog 39 [ag (cp a0 v0_1 v0_13 v0_15)] w (fun v w' => v = vB r0 ∧ Ext w w') := by
 unfold point_sum at h
 refine Rets.enter Try.func39 z z ?_
 have m : Sl rep_api_Pair w (imm (Lg.O0 A)) v0_1 a0.Attrs := (Sl.start hs0_1)
 have o : Sl Rep.u w (imm (Lg.O0 A)) v0_13 a0.Hist.Pos.Counts := (Sl.start hs0_13)
 have t : Sl Rep.u w (imm (Lg.O0 A)) v0_15 a0.Hist.Neg.Counts := (Sl.start hs0_15)
 refine (show WC _ _ _ _ [(0, ag (cp a0 v0_1 v0_13 v0_15))] _ from ?_)
 refine sq (rg ?_)
 have C := h
 obtain ⟨H, I, J, rfl⟩ := m.shape
 have h := C
 have D := h
 obtain ⟨K, L, M, rfl⟩ := o.shape
 have h := D
 have E := h
 obtain ⟨P, Q, S, rfl⟩ := t.shape
 have h := E
 refine WL.box (O := (Lg.O0 A)) 11 (cp a0 (vl H I J) (vl K L M) (vl P Q S)) z z z ?_
 intro U T e l j
 refine wY (ya z) z (nl (th (sq (rg (wY (yf fo33_2 z) z (wY (yl ty3 z z (j.cell 2 _ z)) z (wY (Y.eql_i z z) z (wY (ym z) z ?_))))))))
 refine WL.cut 4 (σ := Unit) (fun _ w' => e = w') (fun _ => [(10, vB ((decide (a0.Kind = 1)) || (decide (a0.Kind = 2))))]) ?_ ?_
 ·refine WL.part 6 z (fun d => ?_) (fun d => ?_)
  ·refine WL.gS z z z z (WL.gS z z z z (WL.gS z z z z (wY (Y.pick (b := true) z z) z (WL.ren (v' := vB ((decide (a0.Kind = 1)) || (decide (a0.Kind = 2)))) 10 z (congrArg vB (orT d)) ?_))))
   exact nl (At.join () z (.cons z .nil))
  ·refine ug z z (wY (yf fo33_2 z) z (ug z z (wY (yl ty3 z z (j.cell 2 _ z)) z (ug z z (wY (Y.eql_i z z) z (wY (Y.pick (b := false) z z) z (WL.ren (v' := vB ((decide (a0.Kind = 1)) || (decide (a0.Kind = 2)))) 10 z (congrArg vB (orF d)) ?_)))))))
   exact nl (At.join () z (.cons z .nil))
 ·rintro _ _ rfl
  refine (show WL _ _ _ _ _ [(10, vB ((decide (a0.Kind = 1)) || (decide (a0.Kind = 2))))] _ from ?_)
  obtain ⟨V, F, h⟩ := lt1 h
  refine WL.yE (ya z) (congrArg vB F.symm) z (nl (th (rt ?_)))
  obtain rfl := some1 h
  have G : Stp [] (Lg.O0 A) w T e := (su_ l z)
  exact At.res (.inl z) z (.tmp z .nil) ⟨z, (se_ G z z)⟩
theorem c_point_times {A : Nat → Prop} {v0_1 : Value} {v0_13 : Value} {v0_15 : Value} {a0 : api_Point} {w : World} (hs0_1 : Sl rep_api_Pair w A v0_1 a0.Attrs) (hs0_13 : Sl Rep.u w A v0_13 a0.Hist.Pos.Counts) (hs0_15 : Sl Rep.u w A v0_15 a0.Hist.Neg.Counts) {r0 : Bool} (h : point_times a0 = some r0) : Rets Try.prog 40 [ag (cp a0 v0_1 v0_13 v0_15)] w (fun v w' => v = vB r0 ∧ Ext w w') := by
 unfold point_times at h
 refine Rets.enter Try.func40 z z ?_
 have D : Sl rep_api_Pair w (imm (Lg.O0 A)) v0_1 a0.Attrs := (Sl.start hs0_1)
 have E : Sl Rep.u w (imm (Lg.O0 A)) v0_13 a0.Hist.Pos.Counts := (Sl.start hs0_13)
 have F : Sl Rep.u w (imm (Lg.O0 A)) v0_15 a0.Hist.Neg.Counts := (Sl.start hs0_15)
 refine (show WC _ _ _ _ [(0, ag (cp a0 v0_1 v0_13 v0_15))] _ from ?_)
 refine sq (rg ?_)
 have G := h
 obtain ⟨Q, S, T, rfl⟩ := D.shape
 have h := G
 have H := h
 obtain ⟨U, V, W, rfl⟩ := E.shape
 have h := H
 have I := h
 obtain ⟨X, Z, aa, rfl⟩ := F.shape
 have h := I
 refine WL.box (O := (Lg.O0 A)) 11 (cp a0 (vl Q S T) (vl U V W) (vl X Z aa)) z z z ?_
 intro C t e j d
 refine wY (ya z) z (nl (th (sq (sq (rg (wY (yf fo33_5 z) z (wY (yl ty3 z z (d.cell 5 _ z)) z (wY (Y.lss_i z z) z (wY (ym z) z ?_)))))))))
 refine WL.cut 4 (σ := Unit) (fun _ w' => e = w') (fun _ => [(1, pt C 0), (10, vB ((decide (a0.Start < 0)) || (decide (4503599627370496 < a0.Time))))]) ?_ ?_
 ·refine WL.part 6 z (fun l => ?_) (fun l => ?_)
  ·refine WL.gS z z z z (WL.gS z z z z (WL.gS z z z z (wY (Y.pick (b := true) z z) z (WL.ren (v' := vB ((decide (a0.Start < 0)) || (decide (4503599627370496 < a0.Time)))) 10 z (congrArg vB (orT l)) ?_))))
   exact nl (At.join () z (.cons z (.cons z .nil)))
  ·refine ug z z (wY (yf fo33_6 z) z (ug z z (wY (yl ty3 z z (d.cell 6 _ z)) z (ug z z (wY (Y.gtr_i z z) z (wY (Y.pick (b := false) z z) z (WL.ren (v' := vB ((decide (a0.Start < 0)) || (decide (4503599627370496 < a0.Time)))) 10 z (congrArg vB (orF l)) ?_)))))))
   exact nl (At.join () z (.cons z (.cons z .nil)))
 ·rintro _ _ rfl
  refine (show WL _ _ _ _ _ [(1, pt C 0), (10, vB ((decide (a0.Start < 0)) || (decide (4503599627370496 < a0.Time))))] _ from ?_)
  refine nl (th ?_)
  rcases cnd h with ⟨m, h⟩ | ⟨m, h⟩
  ·refine WC.condT' z m (sq (rg (wY (ya z) z (nl (th (rt (At.thenR ?_)))))))
   obtain rfl := some1 h
   have J : Stp [] (Lg.O0 A) w t e := (su_ j z)
   exact At.res (.inl z) z (.tmp z .nil) ⟨z, (se_ J z z)⟩
  ·refine WC.condF' z m (sk (th (sq (sq (rg (wY (yf fo33_2 z) z (wY (yl ty3 z z (d.cell 2 _ z)) z (wY (Y.eql_i z z) z (nl ?_)))))))))
   refine th ?_
   rcases cnd h with ⟨o, h⟩ | ⟨o, h⟩
   ·refine WC.condT' z o (sq (rg (wY (yf fo33_5 z) z (wY (yl ty3 z z (d.cell 5 _ z)) z (wY (yf fo33_6 z) z (wY (yl ty3 z z (d.cell 6 _ z)) z (wY (Y.eql_i z z) z ?_)))))))
    obtain ⟨ab, K, h⟩ := lt1 h
    refine WL.yE (ya z) (congrArg vB K.symm) z (nl (th (rt (At.thenR ?_))))
    obtain rfl := some1 h
    have L : Stp [] (Lg.O0 A) w t e := (su_ j z)
    exact At.res (.inl z) z (.tmp z .nil) ⟨z, (se_ L z z)⟩
   ·refine WC.condF' z o (sk (th (sq (rg (wY (yf fo33_5 z) z (wY (yl ty3 z z (d.cell 5 _ z)) z (wY (yf fo33_6 z) z (wY (yl ty3 z z (d.cell 6 _ z)) z (wY (Y.lss_i z z) z ?_)))))))))
    obtain ⟨ac, M, h⟩ := lt1 h
    refine WL.yE (ya z) (congrArg vB M.symm) z (nl (th (rt ?_)))
    obtain rfl := some1 h
    have P : Stp [] (Lg.O0 A) w t e := (su_ j z)
    exact At.res (.inl z) z (.tmp z .nil) ⟨z, (se_ P z z)⟩
theorem c_point_bare {A : Nat → Prop} {v0_3 : Value} {v0_5 : Value} {a0 : api_Hist} {w : World} (hs0_3 : Sl Rep.u w A v0_3 a0.Pos.Counts) (hs0_5 : Sl Rep.u w A v0_5 a0.Neg.Counts) {r0 : Bool} (h : point_bare a0 = some r0) : Rets Try.prog 76 [ag (hl a0 v0_3 v0_5)] w (fun v w' => v = vB r0 ∧ Ext w w') := by
 unfold point_bare at h
 refine Rets.enter Try.func76 z z ?_
 have D : Sl Rep.u w (imm (Lg.O0 A)) v0_3 a0.Pos.Counts := (Sl.start hs0_3)
 have E : Sl Rep.u w (imm (Lg.O0 A)) v0_5 a0.Neg.Counts := (Sl.start hs0_5)
 refine (show WC _ _ _ _ [(0, ag (hl a0 v0_3 v0_5))] _ from ?_)
 refine sq (rg ?_)
 have F := h
 obtain ⟨L, M, P, rfl⟩ := D.shape
 have h := F
 have G := h
 obtain ⟨Q, S, T, rfl⟩ := E.shape
 have h := G
 refine WL.box (O := (Lg.O0 A)) 11 (hl a0 (vl L M P) (vl Q S T)) z z z ?_
 intro j U e l d
 refine wY (ya z) z (nl (th (sq (rg (wY (yf fo31_0 z) z (wY (yl ty3 z z (d.cell 0 _ z)) z (wY (Y.eql_i z z) z (wY (ym z) z ?_))))))))
 refine WL.cut 4 (σ := Unit) (fun _ w' => e = w') (fun _ => [(1, pt j 0), (10, vB ((decide (a0.Scale = 0)) && (decide (a0.Zero = 0))))]) ?_ ?_
 ·refine WL.part 6 z (fun m => ?_) (fun m => ?_)
  ·refine ug z z (wY (yf fo31_1 z) z (ug z z (wY (yl ty26 z z (d.cell 1 _ z)) z (ug z z (wY (Y.eql_u (b := 0) z z) z (wY (Y.pick (b := true) z z) z (WL.ren (v' := vB ((decide (a0.Scale = 0)) && (decide (a0.Zero = 0)))) 10 z (congrArg vB (andT m)) ?_)))))))
   exact nl (At.join () z (.cons z (.cons z .nil)))
  ·refine WL.gS z z z z (WL.gS z z z z (WL.gS z z z z (wY (Y.pick (b := false) z z) z (WL.ren (v' := vB ((decide (a0.Scale = 0)) && (decide (a0.Zero = 0)))) 10 z (congrArg vB (andF m)) ?_))))
   exact nl (At.join () z (.cons z (.cons z .nil)))
 ·rintro _ _ rfl
  refine (show WL _ _ _ _ _ [(1, pt j 0), (10, vB ((decide (a0.Scale = 0)) && (decide (a0.Zero = 0))))] _ from ?_)
  refine wY (ym z) z ?_
  refine WL.cut 5 (σ := Unit) (fun _ w' => e = w') (fun _ => [(1, pt j 0), (16, vB (((decide (a0.Scale = 0)) && (decide (a0.Zero = 0))) && (decide (a0.Pos.Offset = 0))))]) ?_ ?_
  ·refine WL.part 11 z (fun o => ?_) (fun o => ?_)
   ·refine ug z z (wY (yf fo31_2 z) z (ug z z (wY (yf fo29_0 z) z (ug z z (wY (yl ty3 z z (d.cell 2 _ z)) z (ug z z (wY (Y.eql_i z z) z (wY (Y.pick (b := true) z z) z (WL.ren (v' := vB (((decide (a0.Scale = 0)) && (decide (a0.Zero = 0))) && (decide (a0.Pos.Offset = 0)))) 16 z (congrArg vB (andT o)) ?_)))))))))
    exact nl (At.join () z (.cons z (.cons z .nil)))
   ·refine WL.gS z z z z (WL.gS z z z z (WL.gS z z z z (WL.gS z z z z (wY (Y.pick (b := false) z z) z (WL.ren (v' := vB (((decide (a0.Scale = 0)) && (decide (a0.Zero = 0))) && (decide (a0.Pos.Offset = 0)))) 16 z (congrArg vB (andF o)) ?_)))))
    exact nl (At.join () z (.cons z (.cons z .nil)))
  ·rintro _ _ rfl
   refine (show WL _ _ _ _ _ [(1, pt j 0), (16, vB (((decide (a0.Scale = 0)) && (decide (a0.Zero = 0))) && (decide (a0.Pos.Offset = 0))))] _ from ?_)
   refine wY (ym z) z ?_
   refine WL.cut 5 (σ := Unit) (fun _ w' => e = w') (fun _ => [(1, pt j 0), (22, vB ((((decide (a0.Scale = 0)) && (decide (a0.Zero = 0))) && (decide (a0.Pos.Offset = 0))) && (decide (a0.Neg.Offset = 0))))]) ?_ ?_
   ·refine WL.part 17 z (fun t => ?_) (fun t => ?_)
    ·refine ug z z (wY (yf fo31_3 z) z (ug z z (wY (yf fo29_0 z) z (ug z z (wY (yl ty3 z z (d.cell 4 _ z)) z (ug z z (wY (Y.eql_i z z) z (wY (Y.pick (b := true) z z) z (WL.ren (v' := vB ((((decide (a0.Scale = 0)) && (decide (a0.Zero = 0))) && (decide (a0.Pos.Offset = 0))) && (decide (a0.Neg.Offset = 0)))) 22 z (congrArg vB (andT t)) ?_)))))))))
     exact nl (At.join () z (.cons z (.cons z .nil)))
    ·refine WL.gS z z z z (WL.gS z z z z (WL.gS z z z z (WL.gS z z z z (wY (Y.pick (b := false) z z) z (WL.ren (v' := vB ((((decide (a0.Scale = 0)) && (decide (a0.Zero = 0))) && (decide (a0.Pos.Offset = 0))) && (decide (a0.Neg.Offset = 0)))) 22 z (congrArg vB (andF t)) ?_)))))
     exact nl (At.join () z (.cons z (.cons z .nil)))
   ·rintro _ _ rfl
    refine (show WL _ _ _ _ _ [(1, pt j 0), (22, vB ((((decide (a0.Scale = 0)) && (decide (a0.Zero = 0))) && (decide (a0.Pos.Offset = 0))) && (decide (a0.Neg.Offset = 0))))] _ from ?_)
    refine wY (ym z) z ?_
    refine WL.cut 11 (σ := Unit) (fun _ w' => e = w') (fun _ => [(34, vB (((((decide (a0.Scale = 0)) && (decide (a0.Zero = 0))) && (decide (a0.Pos.Offset = 0))) && (decide (a0.Neg.Offset = 0))) && (decide (w64 ((a0.Pos.Counts.length : Int) + (a0.Neg.Counts.length : Int)) = 0))))]) ?_ ?_
    ·refine WL.part 23 z (fun C => ?_) (fun C => ?_)
     ·refine ug z z (wY (yf fo31_2 z) z (ug z z (wY (yf fo29_1 z) z (ug z z (wY (yl ty27 z z (d.cell 3 _ z)) z (ug z z ?_))))))
      have H := D.i l z z
      refine wY (Y.len ty27 z H) z (ug z z (wY (yf fo31_3 z) z (ug z z (wY (yf fo29_1 z) z (ug z z (wY (yl ty27 z z (d.cell 5 _ z)) z (ug z z ?_)))))))
      have I := E.i l z z
      refine wY (Y.len ty27 z I) z (ug z z (wY (Y.add_i z z) z (ug z z (wY (Y.eql_i z z) z (wY (Y.pick (b := true) z z) z (WL.ren (v' := vB (((((decide (a0.Scale = 0)) && (decide (a0.Zero = 0))) && (decide (a0.Pos.Offset = 0))) && (decide (a0.Neg.Offset = 0))) && (decide (w64 ((a0.Pos.Counts.length : Int) + (a0.Neg.Counts.length : Int)) = 0)))) 34 z (congrArg vB (andT C)) ?_))))))
      exact nl (At.join () z (.cons z .nil))
     ·refine WL.gS z z z z (WL.gS z z z z (WL.gS z z z z (WL.gS z z z z (WL.gS z z z z (WL.gS z z z z (WL.gS z z z z (WL.gS z z z z (WL.gS z z z z (WL.gS z z z z ?_)))))))))
      refine wY (Y.pick (b := false) z z) z (WL.ren (v' := vB (((((decide (a0.Scale = 0)) && (decide (a0.Zero = 0))) && (decide (a0.Pos.Offset = 0))) && (decide (a0.Neg.Offset = 0))) && (decide (w64 ((a0.Pos.Counts.length : Int) + (a0.Neg.Counts.length : Int)) = 0)))) 34 z (congrArg vB (andF C)) ?_)
      exact nl (At.join () z (.cons z .nil))
    ·rintro _ _ rfl
     refine (show WL _ _ _ _ _ [(34, vB (((((decide (a0.Scale = 0)) && (decide (a0.Zero = 0))) && (decide (a0.Pos.Offset = 0))) && (decide (a0.Neg.Offset = 0))) && (decide (w64 ((a0.Pos.Counts.length : Int) + (a0.Neg.Counts.length : Int)) = 0))))] _ from ?_)
     obtain ⟨V, J, h⟩ := lt1 h
     refine WL.yE (ya z) (congrArg vB J.symm) z (nl (th (rt ?_)))
     obtain rfl := some1 h
     have K : Stp [] (Lg.O0 A) w U e := (su_ l z)
     exact At.res (.inl z) z (.tmp z .nil) ⟨z, (se_ K z z)⟩
theorem c_point_own {A : Nat → Prop} {v0_1 : Value} {v0_13 : Value} {v0_15 : Value} {a0 : api_Point} {w : World} (hs0_1 : Sl rep_api_Pair w A v0_1 a0.Attrs) (hs0_13 : Sl Rep.u w A v0_13 a0.Hist.Pos.Counts) (hs0_15 : Sl Rep.u w A v0_15 a0.Hist.Neg.Counts) {r0 : Bool} (h : point_own a0 = some r0) : Rets Try.prog 41 [ag (cp a0 v0_1 v0_13 v0_15)] w (fun v w' => v = vB r0 ∧ Ext w w') := by
 unfold point_own at h
 refine Rets.enter Try.func41 z z ?_
 have ak : Sl rep_api_Pair w (imm (Lg.O0 A)) v0_1 a0.Attrs := (Sl.start hs0_1)
 have Z : Sl Rep.u w (imm (Lg.O0 A)) v0_13 a0.Hist.Pos.Counts := (Sl.start hs0_13)
 have aa : Sl Rep.u w (imm (Lg.O0 A)) v0_15 a0.Hist.Neg.Counts := (Sl.start hs0_15)
 refine (show WC _ _ _ _ [(0, ag (cp a0 v0_1 v0_13 v0_15))] _ from ?_)
 refine sq (rg ?_)
 have al := h
 obtain ⟨aL, aM, aN, rfl⟩ := ak.shape
 have h := al
 have am := h
 obtain ⟨ab, ac, ad, rfl⟩ := Z.shape
 have h := am
 have an := h
 obtain ⟨ae, af, ah, rfl⟩ := aa.shape
 have h := an
 refine WL.box (O := (Lg.O0 A)) 11 (cp a0 (vl aL aM aN) (vl ab ac ad) (vl ae af ah)) z z z ?_
 intro m t e d l
 refine wY (ya z) z (nl (th (sq (rg (wY (yf fo33_2 z) z (wY (yl ty3 z z (l.cell 2 _ z)) z (wY (Y.eql_i z z) z (wY (ym z) z ?_))))))))
 refine WL.cut 4 (σ := Unit) (fun _ w' => e = w') (fun _ => [(1, pt m 0), (11, vB ((decide (a0.Kind = 2)) || (decide (a0.Kind = 3))))]) ?_ ?_
 ·refine WL.part 7 z (fun D => ?_) (fun D => ?_)
  ·refine WL.gS z z z z (WL.gS z z z z (WL.gS z z z z (wY (Y.pick (b := true) z z) z (WL.ren (v' := vB ((decide (a0.Kind = 2)) || (decide (a0.Kind = 3)))) 11 z (congrArg vB (orT D)) ?_))))
   exact nl (At.join () z (.cons z (.cons z .nil)))
  ·refine ug z z (wY (yf fo33_2 z) z (ug z z (wY (yl ty3 z z (l.cell 2 _ z)) z (ug z z (wY (Y.eql_i z z) z (wY (Y.pick (b := false) z z) z (WL.ren (v' := vB ((decide (a0.Kind = 2)) || (decide (a0.Kind = 3)))) 11 z (congrArg vB (orF D)) ?_)))))))
   exact nl (At.join () z (.cons z (.cons z .nil)))
 ·rintro _ _ rfl
  refine (show WL _ _ _ _ _ [(1, pt m 0), (11, vB ((decide (a0.Kind = 2)) || (decide (a0.Kind = 3))))] _ from ?_)
  refine wY (ym z) z ?_
  refine WL.cut 4 (σ := Unit) (fun _ w' => e = w') (fun _ => [(1, pt m 0), (16, vB (((decide (a0.Kind = 2)) || (decide (a0.Kind = 3))) || (decide (a0.Kind = 5))))]) ?_ ?_
  ·refine WL.part 12 z (fun E => ?_) (fun E => ?_)
   ·refine WL.gS z z z z (WL.gS z z z z (WL.gS z z z z (wY (Y.pick (b := true) z z) z (WL.ren (v' := vB (((decide (a0.Kind = 2)) || (decide (a0.Kind = 3))) || (decide (a0.Kind = 5)))) 16 z (congrArg vB (orT E)) ?_))))
    exact nl (At.join () z (.cons z (.cons z .nil)))
   ·refine ug z z (wY (yf fo33_2 z) z (ug z z (wY (yl ty3 z z (l.cell 2 _ z)) z (ug z z (wY (Y.eql_i z z) z (wY (Y.pick (b := false) z z) z (WL.ren (v' := vB (((decide (a0.Kind = 2)) || (decide (a0.Kind = 3))) || (decide (a0.Kind = 5)))) 16 z (congrArg vB (orF E)) ?_)))))))
    exact nl (At.join () z (.cons z (.cons z .nil)))
  ·rintro _ _ rfl
   refine (show WL _ _ _ _ _ [(1, pt m 0), (16, vB (((decide (a0.Kind = 2)) || (decide (a0.Kind = 3))) || (decide (a0.Kind = 5))))] _ from ?_)
   obtain ⟨j, F, h⟩ := lt1 h
   refine WL.yE (ya z) (congrArg vB F.symm) z (nl (th (sq (WC.block (sq (sq (rg (wY (yf fo33_2 z) z (wY (yl ty3 z z (l.cell 2 _ z)) z ?_)))))))))
   refine wY (Y.neq_i z z) z (wY (ym z) z ?_)
   refine WL.cut 4 (σ := Unit) (fun _ w' => e = w') (fun _ => [(1, pt m 0), (3, vB j), (25, vB ((!decide (a0.Kind = 1)) && (!decide (a0.Int_ = 0))))]) ?_ ?_
   ·refine WL.part 21 z (fun G => ?_) (fun G => ?_)
    ·refine ug z z (wY (yf fo33_7 z) z (ug z z (wY (yl ty3 z z (l.cell 7 _ z)) z (ug z z (wY (Y.neq_i z z) z (wY (Y.pick (b := true) z z) z (WL.ren (v' := vB ((!decide (a0.Kind = 1)) && (!decide (a0.Int_ = 0)))) 25 z (congrArg vB (andT G)) ?_)))))))
     exact nl (At.join () z (.cons z (.cons z (.cons z .nil))))
    ·refine WL.gS z z z z (WL.gS z z z z (WL.gS z z z z (wY (Y.pick (b := false) z z) z (WL.ren (v' := vB ((!decide (a0.Kind = 1)) && (!decide (a0.Int_ = 0)))) 25 z (congrArg vB (andF G)) ?_))))
     exact nl (At.join () z (.cons z (.cons z (.cons z .nil))))
   ·rintro _ _ rfl
    refine (show WL _ _ _ _ _ [(1, pt m 0), (3, vB j), (25, vB ((!decide (a0.Kind = 1)) && (!decide (a0.Int_ = 0))))] _ from ?_)
    obtain ⟨aX, ao, h⟩ := lt1 h
    refine WL.yE (ya z) (congrArg vB ao.symm) z (nl (th ?_))
    rcases cnd h with ⟨H, h⟩ | ⟨H, h⟩
    ·refine WC.condT' z H (sk (th ?_))
     rcases cnd h with ⟨I, h⟩ | ⟨I, h⟩
     ·refine WC.condT' z I (sq (rg (wY (ya z) z (nl (th (rt (At.inBlockR (At.thenR ?_))))))))
      obtain rfl := some1 h
      have ap : Stp [] (Lg.O0 A) w t e := (su_ d z)
      exact At.res (.inl z) z (.tmp z .nil) ⟨z, (se_ ap z z)⟩
     ·refine WC.condF' z I (sk (At.inBlock (th (sq (rg (wY (ya z) z (nl (th (rt ?_)))))))))
      obtain rfl := some1 h
      have aq : Stp [] (Lg.O0 A) w t e := (su_ d z)
      exact At.res (.inl z) z (.tmp z .nil) ⟨z, (se_ aq z z)⟩
    ·refine WC.condF' z H (sq (rg (wY (ym z) z (wY (Y.not z) z (wY (ym z) z ?_)))))
     refine WL.cut 4 (σ := Unit) (fun _ w' => e = w') (fun _ => [(1, pt m 0), (32, vB ((!j) && (!decide (a0.Re = 0))))]) ?_ ?_
     ·refine WL.part 28 z (fun J => ?_) (fun J => ?_)
      ·refine ug z z (wY (yf fo33_8 z) z (ug z z (wY (yl ty26 z z (l.cell 8 _ z)) z (ug z z (wY (Y.neq_u (b := 0) z z) z (wY (Y.pick (b := true) z z) z (WL.ren (v' := vB ((!j) && (!decide (a0.Re = 0)))) 32 z (congrArg vB (andT J)) ?_)))))))
       exact nl (At.join () z (.cons z (.cons z .nil)))
      ·refine WL.gS z z z z (WL.gS z z z z (WL.gS z z z z (wY (Y.pick (b := false) z z) z (WL.ren (v' := vB ((!j) && (!decide (a0.Re = 0)))) 32 z (congrArg vB (andF J)) ?_))))
       exact nl (At.join () z (.cons z (.cons z .nil)))
     ·rintro _ _ rfl
      refine (show WL _ _ _ _ _ [(1, pt m 0), (32, vB ((!j) && (!decide (a0.Re = 0))))] _ from ?_)
      obtain ⟨aY, ar, h⟩ := lt1 h
      refine WL.yE (ya z) (congrArg vB ar.symm) z (nl (th ?_))
      rcases cnd h with ⟨K, h⟩ | ⟨K, h⟩
      ·refine WC.condT' z K (sk (th ?_))
       rcases cnd h with ⟨L, h⟩ | ⟨L, h⟩
       ·refine WC.condT' z L (sq (rg (wY (ya z) z (nl (th (rt (At.inBlockR (At.thenR ?_))))))))
        obtain rfl := some1 h
        have au : Stp [] (Lg.O0 A) w t e := (su_ d z)
        exact At.res (.inl z) z (.tmp z .nil) ⟨z, (se_ au z z)⟩
       ·refine WC.condF' z L (sk (At.inBlock (th (sq (rg (wY (ya z) z (nl (th (rt ?_)))))))))
        obtain rfl := some1 h
        have av : Stp [] (Lg.O0 A) w t e := (su_ d z)
        exact At.res (.inl z) z (.tmp z .nil) ⟨z, (se_ av z z)⟩
      ·refine WC.condF' z K (sq (rg (wY (yf fo33_2 z) z (wY (yl ty3 z z (l.cell 2 _ z)) z (wY (Y.neq_i z z) z (wY (ym z) z ?_))))))
       refine WL.cut 4 (σ := Unit) (fun _ w' => e = w') (fun _ => [(1, pt m 0), (40, vB ((!decide (a0.Kind = 5)) && (!decide (a0.Im = 0))))]) ?_ ?_
       ·refine WL.part 36 z (fun M => ?_) (fun M => ?_)
        ·refine ug z z (wY (yf fo33_9 z) z (ug z z (wY (yl ty26 z z (l.cell 9 _ z)) z (ug z z (wY (Y.neq_u (b := 0) z z) z (wY (Y.pick (b := true) z z) z (WL.ren (v' := vB ((!decide (a0.Kind = 5)) && (!decide (a0.Im = 0)))) 40 z (congrArg vB (andT M)) ?_)))))))
         exact nl (At.join () z (.cons z (.cons z .nil)))
        ·refine WL.gS z z z z (WL.gS z z z z (WL.gS z z z z (wY (Y.pick (b := false) z z) z (WL.ren (v' := vB ((!decide (a0.Kind = 5)) && (!decide (a0.Im = 0)))) 40 z (congrArg vB (andF M)) ?_))))
         exact nl (At.join () z (.cons z (.cons z .nil)))
       ·rintro _ _ rfl
        refine (show WL _ _ _ _ _ [(1, pt m 0), (40, vB ((!decide (a0.Kind = 5)) && (!decide (a0.Im = 0))))] _ from ?_)
        obtain ⟨aZ, ax, h⟩ := lt1 h
        refine WL.yE (ya z) (congrArg vB ax.symm) z (nl (th ?_))
        rcases cnd h with ⟨P, h⟩ | ⟨P, h⟩
        ·refine WC.condT' z P (sk (th ?_))
         rcases cnd h with ⟨Q, h⟩ | ⟨Q, h⟩
         ·refine WC.condT' z Q (sq (rg (wY (ya z) z (nl (th (rt (At.inBlockR (At.thenR ?_))))))))
          obtain rfl := some1 h
          have ay : Stp [] (Lg.O0 A) w t e := (su_ d z)
          exact At.res (.inl z) z (.tmp z .nil) ⟨z, (se_ ay z z)⟩
         ·refine WC.condF' z Q (sk (At.inBlock (th (sq (rg (wY (ya z) z (nl (th (rt ?_)))))))))
          obtain rfl := some1 h
          have az : Stp [] (Lg.O0 A) w t e := (su_ d z)
          exact At.res (.inl z) z (.tmp z .nil) ⟨z, (se_ az z z)⟩
        ·refine WC.condF' z P (sq (rg (wY (yf fo33_2 z) z (wY (yl ty3 z z (l.cell 2 _ z)) z (wY (Y.neq_i z z) z (wY (ym z) z ?_))))))
         obtain ⟨aO, h, aA⟩ := bnd h
         refine WL.cut 5 (σ := (Bool × Own)) (fun x w' => x.1 = aO ∧ Stp [] t e x.2 w') (fun x => [(1, pt m 0), (49, vB x.1)]) ?_ ?_
         ·rcases cnd h with ⟨S, h⟩ | ⟨S, h⟩
          ·refine WL.ren 44 z (congrArg vB S) (ug z z (wY (yf fo33_10 z) z (ug z z (wY (yL ty31 z z (l.cells 10 (hl a0.Hist (vl ab ac ad) (vl ae af ah)) z) z) z (ug z z ?_)))))
           have aC := Z.i d z z
           have aD := aa.i d z z
           obtain ⟨aP, aE, h⟩ := bnd h
           refine WL.call (vals := [ag (hl a0.Hist (vl ab ac ad) (vl ae af ah))]) kok76 z z (c_point_bare (A := fun _ => True) (a0 := a0.Hist) (Sl.all aC) (Sl.all aD) aE) ?_
           rintro aU aW ⟨rfl, aF⟩
           obtain ⟨aQ, aR, aS, aj⟩ := adoptE t (fun k => 1) aF
           refine ug z z (wY (Y.not z) z (wY (Y.pick (b := true) z z) z ?_))
           exact nl (At.join (σ := (Bool × Own)) ((!aP), aQ) ⟨some1 h, (su_ aj z)⟩ (.cons z (.cons z .nil)))
          ·refine WL.ren 44 z (congrArg vB S) (WL.gS z z z z (WL.gS z z z z (WL.gS z z z z (WL.gS z z z z (wY (Y.pick (b := false) z z) z ?_)))))
           exact nl (At.join (σ := (Bool × Own)) (false, t) ⟨some1 h, (sr_ _ _ _)⟩ (.cons z (.cons z .nil)))
         ·rintro ⟨aT, X⟩ C ⟨rfl, o⟩
          replace h := aA
          try dsimp only at h o
          refine (show WL _ _ _ _ _ [(1, pt m 0), (49, vB aT)] _ from ?_)
          refine wY (ya z) z (nl (th ?_))
          rcases cnd h with ⟨T, h⟩ | ⟨T, h⟩
          ·refine WC.condT' z T (sk (th ?_))
           rcases cnd h with ⟨U, h⟩ | ⟨U, h⟩
           ·refine WC.condT' z U (sq (rg (wY (ya z) z (nl (th (rt (At.inBlockR (At.thenR ?_))))))))
            obtain rfl := some1 h
            have aG : Stp [] (Lg.O0 A) w X C := (tr_ (su_ d z) (su_ o z))
            exact At.res (.inl z) z (.tmp z .nil) ⟨z, (se_ aG z z)⟩
           ·refine WC.condF' z U (sk (At.inBlock (th (sq (rg (wY (ya z) z (nl (th (rt ?_)))))))))
            obtain rfl := some1 h
            have aH : Stp [] (Lg.O0 A) w X C := (tr_ (su_ d z) (su_ o z))
            exact At.res (.inl z) z (.tmp z .nil) ⟨z, (se_ aH z z)⟩
          ·refine WC.condF' z T (rg (wY (yf fo33_11 z) z ?_))
           have ai := l.st o z
           refine wY (yl ty3 z z (ai.cell 16 _ z)) z (wY (Y.lss_i z z) z (wY (ym z) z ?_))
           refine WL.cut 4 (σ := Unit) (fun _ w' => C = w') (fun _ => [(57, vB ((decide (a0.Flags < 0)) || (decide (31 < a0.Flags))))]) ?_ ?_
           ·refine WL.part 53 z (fun V => ?_) (fun V => ?_)
            ·refine WL.gS z z z z (WL.gS z z z z (WL.gS z z z z (wY (Y.pick (b := true) z z) z (WL.ren (v' := vB ((decide (a0.Flags < 0)) || (decide (31 < a0.Flags)))) 57 z (congrArg vB (orT V)) ?_))))
             exact nl (At.join () z (.cons z .nil))
            ·refine ug z z (wY (yf fo33_11 z) z (ug z z (wY (yl ty3 z z (ai.cell 16 _ z)) z (ug z z (wY (Y.gtr_i z z) z (wY (Y.pick (b := false) z z) z (WL.ren (v' := vB ((decide (a0.Flags < 0)) || (decide (31 < a0.Flags)))) 57 z (congrArg vB (orF V)) ?_)))))))
             exact nl (At.join () z (.cons z .nil))
           ·rintro _ _ rfl
            refine (show WL _ _ _ _ _ [(57, vB ((decide (a0.Flags < 0)) || (decide (31 < a0.Flags))))] _ from ?_)
            obtain ⟨a1, aI, h⟩ := lt1 h
            refine WL.yE (ya z) (congrArg vB aI.symm) z (nl (th ?_))
            rcases cnd h with ⟨W, h⟩ | ⟨W, h⟩
            ·refine WC.condT' z W (sq (rg (wY (ya z) z (nl (th (rt (At.inBlockR (At.thenR ?_))))))))
             obtain rfl := some1 h
             have aJ : Stp [] (Lg.O0 A) w X C := (tr_ (su_ d z) (su_ o z))
             exact At.res (.inl z) z (.tmp z .nil) ⟨z, (se_ aJ z z)⟩
            ·refine WC.condF' z W (sk (At.inBlock (th (sq (rg (wY (ya z) z (nl (th (rt ?_)))))))))
             obtain rfl := some1 h
             have aK : Stp [] (Lg.O0 A) w X C := (tr_ (su_ d z) (su_ o z))
             exact At.res (.inl z) z (.tmp z .nil) ⟨z, (se_ aK z z)⟩
theorem c_num_Finite {a0 : UInt64} {w : World} {r0 : Bool} (h : num_Finite a0 = some r0) : Rets Try.prog 42 [vu a0] w (fun v w' => v = vB r0 ∧ Ext w w') := by
 unfold num_Finite at h
 refine Rets.enter Try.func42 z z ?_
 refine (show WC _ _ _ _ [(0, vu a0)] _ from ?_)
 refine sq (rg (wY (ya z) z (nl (th (sq (rg (wY (ym z) z (wY (Y.and_u (b := 9218868437227405312) z z) z (wY (Y.neq_u (b := 9218868437227405312) z z) z ?_)))))))))
 obtain ⟨j, d, h⟩ := lt1 h
 refine WL.yE (ya z) (congrArg vB d.symm) z (nl (th (rt ?_)))
 obtain rfl := some1 h
 have e : Stp [] (Lg.O0 (fun _ => False)) w (Lg.O0 (fun _ => False)) w := (sr_ _ _ _)
 exact At.res (.inl z) z (.tmp z .nil) ⟨z, (se_ e z z)⟩
theorem c_num_of {a0 : UInt64} {w : World} : Rets Try.prog 77 [vu a0] w (fun v w' => v = .float .f64 a0.toNat ∧ Ext w w') := by
  refine Rets.enter Try.func77 z z ?_
  refine (show WC _ _ _ _ [(0, vu a0)] _ from ?_)
  refine sq (rg (wY (ya (v := .float .f64 0) z) z (nl (th ?_))))
  refine sq (rg ?_)
  refine wY (ym z) z (wY (Y.ffrom xfrom_99 z) z ?_)
  refine wY (ya z) z (nl (th (rt ?_)))
  exact At.res (.inl z) z (.tmp z .nil) ⟨z, Ext.refl w⟩
theorem c_num_Less {a0 : UInt64} {a1 : UInt64} {w : World} {r0 : Bool} (h : num_Less a0 a1 = some r0) : Rets Try.prog 43 [vu a0, vu a1] w (fun v w' => v = vB r0 ∧ Ext w w') := by
  unfold num_Less at h
  obtain rfl := some1 h
  refine Rets.enter Try.func43 z z ?_
  refine (show WC _ _ _ _ [(0, vu a0), (1, vu a1)] _ from ?_)
  refine sq (rg (wY (ya (v := .bool false) z) z (nl (th ?_))))
  refine sq (rg ?_)
  refine wY (ym z) z (WL.call (vals := [vu a0]) kok77 z z (c_num_of) ?_)
  rintro G H ⟨rfl, j⟩
  obtain ⟨E, o, t, d⟩ := adoptE (Lg.O0 (fun _ => False)) (fun k => 1) j
  refine wY (ym z) z (WL.call (vals := [vu a1]) kok77 z z (c_num_of) ?_)
  rintro I l ⟨rfl, m⟩
  obtain ⟨F, C, D, e⟩ := adoptE E (fun k => 1) m
  refine wY (Y.fless z z) z ?_
  refine wY (ya z) z (nl (th (rt ?_)))
  have hs : Stp [] (Lg.O0 (fun _ => False)) w F l := (tr_ (su_ d z) (su_ e z))
  exact At.res (.inl z) z (.tmp z .nil) ⟨z, se_ hs z z⟩
theorem c_point_Check {A : Nat → Prop} {v0_1 : Value} {v0_13 : Value} {v0_15 : Value} {a0 : api_Point} {w : World} (hs0_1 : Sl rep_api_Pair w A v0_1 a0.Attrs) (hs0_13 : Sl Rep.u w A v0_13 a0.Hist.Pos.Counts) (hs0_15 : Sl Rep.u w A v0_15 a0.Hist.Neg.Counts) {r0 : Int} (h : point_Check a0 = some r0) : Rets Try.prog 19 [ag (cp a0 v0_1 v0_13 v0_15)] w (fun v w' => v = vi r0 ∧ Ext w w') := by
 unfold point_Check at h
 refine Rets.enter Try.func19 z z ?_
 have aE : Sl rep_api_Pair w (imm (Lg.O0 A)) v0_1 a0.Attrs := (Sl.start hs0_1)
 have aF : Sl Rep.u w (imm (Lg.O0 A)) v0_13 a0.Hist.Pos.Counts := (Sl.start hs0_13)
 have aG : Sl Rep.u w (imm (Lg.O0 A)) v0_15 a0.Hist.Neg.Counts := (Sl.start hs0_15)
 refine (show WC _ _ _ _ [(0, ag (cp a0 v0_1 v0_13 v0_15))] _ from ?_)
 refine sq (rg ?_)
 have br := h
 obtain ⟨K, L, M, rfl⟩ := aE.shape
 have h := br
 have bs := h
 obtain ⟨E, F, G, rfl⟩ := aF.shape
 have h := bs
 have bt := h
 obtain ⟨H, I, J, rfl⟩ := aG.shape
 have h := bt
 refine WL.box (O := (Lg.O0 A)) 11 (cp a0 (vl K L M) (vl E F G) (vl H I J)) z z z ?_
 intro D cm cI j am
 refine wY (ya z) z (nl (th (sq (sq (rg (wY (yf fo33_0 z) z (wY (yl ty9 z z (am.cell 0 _ z)) z (wY (yf fo33_1 z) z (wY (yl ty25 z z (am.cell 1 _ z)) z ?_)))))))))
 have aH := aE.i j z z
 obtain ⟨cU, bu, h⟩ := bnd h
 refine WL.call (vals := [vs a0.Name, (vl K L M)]) kok37 z z (c_label_Check (A := fun _ => True) (Sl.all aH) bu) ?_
 rintro cJ bw ⟨rfl, bx⟩
 obtain ⟨bn, cn, co, e⟩ := adoptE cm (fun k => 1) bx
 refine wY (ya z) z (nl (th (sq (rg (wY (ym z) z (wY (Y.neq_i z z) z (nl (th ?_))))))))
 rcases cnd h with ⟨an, h⟩ | ⟨an, h⟩
 ·refine WC.condT' z an (sq (rg (wY (ym z) z (wY (ya z) z (nl (th (rt (At.thenR ?_))))))))
  obtain rfl := some1 h
  have bz : Stp [] (Lg.O0 A) w bn bw := (tr_ (su_ j z) (su_ e z))
  exact At.res (.inl z) z (.tmp z .nil) ⟨z, (se_ bz z z)⟩
 ·refine WC.condF' z an (sk (th (sq (WC.block (sq (rg ?_))))))
  have ao := am.st e z
  refine wY (yL ty33 z z (ao.cells 0 (cp a0 (vl K L M) (vl E F G) (vl H I J)) z) z) z ?_
  have T := aH.i e z z
  have U := (aF.i j z z).i e z z
  have V := (aG.i j z z).i e z z
  obtain ⟨cV, bC, h⟩ := bnd h
  refine WL.call (vals := [ag (cp a0 (vl K L M) (vl E F G) (vl H I J))]) kok38 z z (c_point_kinds (A := fun _ => True) (a0 := a0) (Sl.all T) (Sl.all U) (Sl.all V) bC) ?_
  rintro cK ap ⟨rfl, bD⟩
  obtain ⟨ak, cq, cr, d⟩ := adoptE bn (fun k => 1) bD
  refine wY (Y.not z) z ?_
  obtain ⟨cW, bE, h⟩ := lt1 h
  refine WL.yE (ya z) (congrArg vB bE.symm) z (nl (th ?_))
  rcases cnd h with ⟨aq, h⟩ | ⟨aq, h⟩
  ·refine WC.condT' z aq (sq (rg (wY (ya z) z (nl (th (rt (At.inBlockR (At.thenR ?_))))))))
   obtain rfl := some1 h
   have bF : Stp [] (Lg.O0 A) w ak ap := (tr_ (su_ j z) (tr_ (su_ e z) (su_ d z)))
   exact At.res (.inl z) z (.tmp z .nil) ⟨z, (se_ bF z z)⟩
  ·refine WC.condF' z aq (sq ?_)
   obtain ⟨cs, h, bG⟩ := bnd h
   refine WC.join (σ := (Bool × Own)) (fun x w' => x.1 = cs ∧ Stp [] ak ap x.2 w') (fun x => [(1, pt D 0), (16, vB x.1)]) ?_ ?_
   ·refine sq (rg (wY (yf fo33_4 z) z ?_))
    have ar := ao.st d z
    refine wY (yl ty4 z z (ar.cell 4 _ z)) z (wY (ym z) z ?_)
    obtain ⟨ct, h, bH⟩ := bnd h
    refine WL.cut 4 (σ := (Bool × Own)) (fun x w' => x.1 = ct ∧ Stp [] ak ap x.2 w') (fun x => [(1, pt D 0), (23, vB x.1)]) ?_ ?_
    ·rcases cnd h with ⟨au, h⟩ | ⟨au, h⟩
     ·refine WL.ren 19 z (congrArg vB au) (ug z z (wY (yL ty33 z z (ar.cells 0 (cp a0 (vl K L M) (vl E F G) (vl H I J)) z) z) z (ug z z ?_)))
      have bI := T.i d z z
      have bJ := U.i d z z
      have bK := V.i d z z
      obtain ⟨cu, bL, h⟩ := bnd h
      refine WL.call (vals := [ag (cp a0 (vl K L M) (vl E F G) (vl H I J))]) kok39 z z (c_point_sum (A := fun _ => True) (a0 := a0) (Sl.all bI) (Sl.all bJ) (Sl.all bK) bL) ?_
      rintro cL cM ⟨rfl, bM⟩
      obtain ⟨cw, cx, cy, aN⟩ := adoptE ak (fun k => 1) bM
      refine ug z z (wY (Y.not z) z (wY (Y.pick (b := true) z z) z ?_))
      exact nl (At.join (σ := (Bool × Own)) ((!cu), cw) ⟨some1 h, (su_ aN z)⟩ (.cons z (.cons z .nil)))
     ·refine WL.ren 19 z (congrArg vB au) (WL.gS z z z z (WL.gS z z z z (WL.gS z z z z (wY (Y.pick (b := false) z z) z ?_))))
      exact nl (At.join (σ := (Bool × Own)) (false, ak) ⟨some1 h, (sr_ _ _ _)⟩ (.cons z (.cons z .nil)))
    ·rintro ⟨bo, bp⟩ cN ⟨rfl, C⟩
     replace h := bH
     try dsimp only at h C
     refine (show WL _ _ _ _ _ [(1, pt D 0), (23, vB bo)] _ from ?_)
     refine wY (ya z) z (nl (th ?_))
     rcases cnd h with ⟨av, h⟩ | ⟨av, h⟩
     ·refine WC.condT' z av (sk ?_)
      exact At.join (σ := (Bool × Own)) (bo, bp) ⟨some1 h, (su_ C z)⟩ (.cons z (.cons z .nil))
     ·refine WC.condF' z av (rg ?_)
      have bO := ar.st C z
      refine wY (yL ty33 z z (bO.cells 0 (cp a0 (vl K L M) (vl E F G) (vl H I J)) z) z) z ?_
      have bQ := (T.i d z z).i C z z
      have bS := (U.i d z z).i C z z
      have bU := (V.i d z z).i C z z
      obtain ⟨cX, bW, h⟩ := bnd h
      refine WL.call (vals := [ag (cp a0 (vl K L M) (vl E F G) (vl H I J))]) kok40 z z (c_point_times (A := fun _ => True) (a0 := a0) (Sl.all bQ) (Sl.all bS) (Sl.all bU) bW) ?_
      rintro cO cP ⟨rfl, bX⟩
      obtain ⟨bY, cc, cd, aI⟩ := adoptE bp (fun k => 1) bX
      refine wY (Y.not z) z ?_
      obtain ⟨bZ, aO, h⟩ := lt1 h
      refine WL.yE (ya z) (congrArg vB aO.symm) z (nl ?_)
      exact At.join (σ := (Bool × Own)) (bZ, bY) ⟨some1 h, (tr_ (su_ C z) (su_ aI z))⟩ (.cons z (.cons z .nil))
   ·rintro ⟨cz, bq⟩ b0 ⟨rfl, l⟩
    replace h := bG
    try dsimp only at h l
    refine (show At _ _ _ [(1, pt D 0), (16, vB cz)] _ from ?_)
    refine th ?_
    rcases cnd h with ⟨W, h⟩ | ⟨W, h⟩
    ·refine WC.condT' z W (sq (rg (wY (ya z) z (nl (th (rt (At.inBlockR (At.thenR ?_))))))))
     obtain rfl := some1 h
     have aP : Stp [] (Lg.O0 A) w bq b0 := (tr_ (su_ j z) (tr_ (su_ e z) (tr_ (su_ d z) (su_ l z))))
     exact At.res (.inl z) z (.tmp z .nil) ⟨z, (se_ aP z z)⟩
    ·refine WC.condF' z W (sq (rg ?_))
     have ay := (ao.st d z).st l z
     refine wY (yL ty33 z z (ay.cells 0 (cp a0 (vl K L M) (vl E F G) (vl H I J)) z) z) z ?_
     have aS := (T.i d z z).i l z z
     have az := (U.i d z z).i l z z
     have aA := (V.i d z z).i l z z
     obtain ⟨cQ, aW, h⟩ := bnd h
     refine WL.call (vals := [ag (cp a0 (vl K L M) (vl E F G) (vl H I J))]) kok41 z z (c_point_own (A := fun _ => True) (a0 := a0) (Sl.all aS) (Sl.all az) (Sl.all aA) aW) ?_
     rintro cA X ⟨rfl, aX⟩
     obtain ⟨Z, ce, cf, m⟩ := adoptE bq (fun k => 1) aX
     refine wY (Y.not z) z ?_
     obtain ⟨cR, aY, h⟩ := lt1 h
     refine WL.yE (ya z) (congrArg vB aY.symm) z (nl (th ?_))
     rcases cnd h with ⟨aa, h⟩ | ⟨aa, h⟩
     ·refine WC.condT' z aa (sq (rg (wY (ya z) z (nl (th (rt (At.inBlockR (At.thenR ?_))))))))
      obtain rfl := some1 h
      have aZ : Stp [] (Lg.O0 A) w Z X := (tr_ (su_ j z) (tr_ (su_ e z) (tr_ (su_ d z) (tr_ (su_ l z) (su_ m z)))))
      exact At.res (.inl z) z (.tmp z .nil) ⟨z, (se_ aZ z z)⟩
     ·refine WC.condF' z aa (sq (rg (wY (yf fo33_4 z) z ?_)))
      have Q := ay.st m z
      refine wY (yl ty4 z z (Q.cell 4 _ z)) z (wY (ym z) z ?_)
      refine WL.cut 4 (σ := Unit) (fun _ w' => X = w') (fun _ => [(1, pt D 0), (38, vB (a0.Mono && (decide (a0.Kind = 2))))]) ?_ ?_
      ·refine WL.part 34 z (fun ab => ?_) (fun ab => ?_)
       ·refine ug z z (wY (yf fo33_2 z) z (ug z z (wY (yl ty3 z z (Q.cell 2 _ z)) z (ug z z (wY (Y.eql_i z z) z (wY (Y.pick (b := true) z z) z (WL.ren (v' := vB (a0.Mono && (decide (a0.Kind = 2)))) 38 z (congrArg vB (andT ab)) ?_)))))))
        exact nl (At.join () z (.cons z (.cons z .nil)))
       ·refine WL.gS z z z z (WL.gS z z z z (WL.gS z z z z (wY (Y.pick (b := false) z z) z (WL.ren (v' := vB (a0.Mono && (decide (a0.Kind = 2)))) 38 z (congrArg vB (andF ab)) ?_))))
        exact nl (At.join () z (.cons z (.cons z .nil)))
      ·rintro _ _ rfl
       refine (show WL _ _ _ _ _ [(1, pt D 0), (38, vB (a0.Mono && (decide (a0.Kind = 2))))] _ from ?_)
       refine wY (ym z) z ?_
       obtain ⟨b1, h, a1⟩ := bnd h
       refine WL.cut 5 (σ := (Bool × Own)) (fun x w' => x.1 = b1 ∧ Stp [] Z X x.2 w') (fun x => [(1, pt D 0), (44, vB x.1)]) ?_ ?_
       ·rcases cnd h with ⟨ac, h⟩ | ⟨ac, h⟩
        ·refine WL.ren 39 z (congrArg vB ac) (ug z z (wY (yf fo33_8 z) z (ug z z (wY (yl ty26 z z (Q.cell 8 _ z)) z (ug z z ?_)))))
         obtain ⟨b2, a2, h⟩ := bnd h
         refine WL.call (vals := [vu a0.Re]) kok42 z z (c_num_Finite a2) ?_
         rintro cC cD ⟨rfl, a3⟩
         obtain ⟨b3, cg, ch, aJ⟩ := adoptE Z (fun k => 1) a3
         refine ug z z (wY (Y.not z) z (wY (Y.pick (b := true) z z) z ?_))
         exact nl (At.join (σ := (Bool × Own)) ((!b2), b3) ⟨some1 h, (su_ aJ z)⟩ (.cons z (.cons z .nil)))
        ·refine WL.ren 39 z (congrArg vB ac) (WL.gS z z z z (WL.gS z z z z (WL.gS z z z z (WL.gS z z z z (wY (Y.pick (b := false) z z) z ?_)))))
         exact nl (At.join (σ := (Bool × Own)) (false, Z) ⟨some1 h, (sr_ _ _ _)⟩ (.cons z (.cons z .nil)))
       ·rintro ⟨b4, P⟩ ad ⟨rfl, o⟩
        replace h := a1
        try dsimp only at h o
        refine (show WL _ _ _ _ _ [(1, pt D 0), (44, vB b4)] _ from ?_)
        refine wY (ya z) z (nl (th ?_))
        rcases cnd h with ⟨ae, h⟩ | ⟨ae, h⟩
        ·refine WC.condT' z ae (sq (rg (wY (ya z) z (nl (th (rt (At.inBlockR (At.thenR ?_))))))))
         obtain rfl := some1 h
         have a4 : Stp [] (Lg.O0 A) w P ad := (tr_ (su_ j z) (tr_ (su_ e z) (tr_ (su_ d z) (tr_ (su_ l z) (tr_ (su_ m z) (su_ o z))))))
         exact At.res (.inl z) z (.tmp z .nil) ⟨z, (se_ a4 z z)⟩
        ·refine WC.condF' z ae (sq (rg (wY (yf fo33_4 z) z ?_)))
         have S := Q.st o z
         refine wY (yl ty4 z z (S.cell 4 _ z)) z (wY (ym z) z ?_)
         obtain ⟨b5, h, a5⟩ := bnd h
         refine WL.cut 9 (σ := (Bool × Own)) (fun x w' => x.1 = b5 ∧ Stp [] P ad x.2 w') (fun x => [(1, pt D 0), (57, vB x.1)]) ?_ ?_
         ·rcases cnd h with ⟨af, h⟩ | ⟨af, h⟩
          ·refine WL.ren 48 z (congrArg vB af) (ug z z (wY (yf fo33_7 z) z (ug z z (wY (yl ty3 z z (S.cell 7 _ z)) z (ug z z (wY (Y.lss_i z z) z (ug z z (wY (ym z) z ?_))))))))
           obtain ⟨b6, h, a6⟩ := bnd h
           refine WL.cut 4 (σ := (Bool × Own)) (fun x w' => x.1 = b6 ∧ Stp [] P ad x.2 w') (fun x => [(1, pt D 0), (48, vB true), (56, vB x.1)]) ?_ ?_
           ·rcases cnd h with ⟨ah, h⟩ | ⟨ah, h⟩
            ·refine WL.ren 52 z (congrArg vB ah) (WL.gS z z z z (WL.gS z z z z (WL.gS z z z z (ug z z (wY (Y.pick (b := true) z z) z ?_)))))
             exact nl (At.join (σ := (Bool × Own)) (true, P) ⟨some1 h, (sr_ _ _ _)⟩ (.cons z (.cons z (.cons z .nil))))
            ·refine WL.ren 52 z (congrArg vB ah) (ug z z (wY (yf fo33_8 z) z (ug z z (wY (yl ty26 z z (S.cell 8 _ z)) z (ug z z ?_)))))
             obtain ⟨b7, a7, h⟩ := bnd h
             refine WL.call (vals := [vu a0.Re, vu 0]) kok43 z z (c_num_Less a7) ?_
             rintro cE cF ⟨rfl, a8⟩
             obtain ⟨b8, ci, cj, aK⟩ := adoptE P (fun k => 1) a8
             refine ug z z (wY (Y.pick (b := false) z z) z ?_)
             exact nl (At.join (σ := (Bool × Own)) (b7, b8) ⟨some1 h, (su_ aK z)⟩ (.cons z (.cons z (.cons z .nil))))
           ·rintro ⟨aL, b9⟩ cG ⟨rfl, al⟩
            replace h := a6
            try dsimp only at h al
            refine (show WL _ _ _ _ _ [(1, pt D 0), (48, vB true), (56, vB aL)] _ from ?_)
            refine wY (Y.pick (b := true) z z) z ?_
            exact nl (At.join (σ := (Bool × Own)) (aL, b9) ⟨some1 h, (su_ al z)⟩ (.cons z (.cons z .nil)))
          ·refine WL.ren 48 z (congrArg vB af) (WL.gS z z z z (WL.gS z z z z (WL.gS z z z z (WL.gS z z z z (WL.gS z z z z (WL.gS z z z z (WL.gS z z z z (WL.gS z z z z (wY (Y.pick (b := false) z z) z ?_)))))))))
           exact nl (At.join (σ := (Bool × Own)) (false, P) ⟨some1 h, (sr_ _ _ _)⟩ (.cons z (.cons z .nil)))
         ·rintro ⟨ca, ax⟩ aC ⟨rfl, t⟩
          replace h := a5
          try dsimp only at h t
          refine (show WL _ _ _ _ _ [(1, pt D 0), (57, vB ca)] _ from ?_)
          refine wY (ya z) z (nl (th ?_))
          rcases cnd h with ⟨ai, h⟩ | ⟨ai, h⟩
          ·refine WC.condT' z ai (sq (rg (wY (ya z) z (nl (th (rt (At.inBlockR (At.thenR ?_))))))))
           obtain rfl := some1 h
           have a9 : Stp [] (Lg.O0 A) w ax aC := (tr_ (su_ j z) (tr_ (su_ e z) (tr_ (su_ d z) (tr_ (su_ l z) (tr_ (su_ m z) (tr_ (su_ o z) (su_ t z)))))))
           exact At.res (.inl z) z (.tmp z .nil) ⟨z, (se_ a9 z z)⟩
          ·refine WC.condF' z ai (sq (rg (wY (yf fo33_2 z) z ?_)))
           have aD := S.st t z
           refine wY (yl ty3 z z (aD.cell 2 _ z)) z (wY (Y.eql_i z z) z ?_)
           obtain ⟨cS, ba, h⟩ := lt1 h
           refine WL.yE (ya z) (congrArg vB ba.symm) z (nl (th ?_))
           rcases cnd h with ⟨aj, h⟩ | ⟨aj, h⟩
           ·refine WC.condT' z aj (sq (rg (wY (yf fo33_10 z) z (wY (yL ty31 z z (aD.cells 10 (hl a0.Hist (vl E F G) (vl H I J)) z) z) z ?_))))
            have bd := ((az.i m z z).i o z z).i t z z
            have bh := ((aA.i m z z).i o z z).i t z z
            obtain ⟨cT, bi, h⟩ := bnd h
            refine WL.call (vals := [ag (hl a0.Hist (vl E F G) (vl H I J))]) kok24 z z (c_hist_Check (A := fun _ => True) (a0 := a0.Hist) (Sl.all bd) (Sl.all bh) bi) ?_
            rintro cH bj ⟨rfl, bk⟩
            obtain ⟨cb, ck, cl, aM⟩ := adoptE ax (fun k => 1) bk
            refine wY (ya z) z (nl (th (rt (At.inBlockR (At.thenR ?_)))))
            obtain rfl := some1 h
            have bl : Stp [] (Lg.O0 A) w cb bj := (tr_ (su_ j z) (tr_ (su_ e z) (tr_ (su_ d z) (tr_ (su_ l z) (tr_ (su_ m z) (tr_ (su_ o z) (tr_ (su_ t z) (su_ aM z))))))))
            exact At.res (.inl z) z (.tmp z .nil) ⟨z, (se_ bl z z)⟩
           ·refine WC.condF' z aj (sk (At.inBlock (th (sq (rg (wY (ya z) z (nl (th (rt ?_)))))))))
            obtain rfl := some1 h
            have bm : Stp [] (Lg.O0 A) w ax aC := (tr_ (su_ j z) (tr_ (su_ e z) (tr_ (su_ d z) (tr_ (su_ l z) (tr_ (su_ m z) (tr_ (su_ o z) (su_ t z)))))))
            exact At.res (.inl z) z (.tmp z .nil) ⟨z, (se_ bm z z)⟩
theorem c_slices_Clone_api_Pair_api_Pair {A : Nat → Prop} {a0 : List api_Pair} {v0 : Value} {w : World} (hs0 : Sl rep_api_Pair w A v0 a0) {r0 : List api_Pair} (h : slices_Clone_api_Pair_api_Pair a0 = some r0) : Rets Try.prog 45 [v0] w (fun v w' => ∃ (l : Value), v = l ∧ Ext w w' ∧ RowF rep_api_Pair 65 w w' l r0) := by
  unfold slices_Clone_api_Pair_api_Pair at h
  refine Rets.enter Try.func45 z z ?_
  refine (show WC _ _ _ _ [(0, v0)] _ from ?_)
  refine sq (rg (wY (ya z) z (nl (th ?_))))
  refine sq (sq (rg ?_))
  refine wY (ym z) z ?_
  rcases hs0.nilOr with ⟨rfl, rfl⟩ | ⟨q, n, c, rfl⟩
  · refine wY (Y.slnil (p := none) (n := 0) (c := 0) ty25.u z z) z (nl (th ?_))
    refine WC.condT z (sq (rg (wY (ya z) z (nl (th (rt (At.thenR ?_)))))))
    have : r0 = [] := by simpa [app] using h.symm
    subst this
    exact At.res (.inl z) z (.tmp z .nil) ⟨_, z, Ext.refl w, RowF.nil⟩
  · refine wY (Y.slnil (p := some _) ty25.u z z) z (nl (th ?_))
    refine WC.condF z (sk (th ?_))
    refine sq (rg ?_)
    have hs := hs0
    refine WL.buildSlice (O := Lg.O0 A) (R := rep_api_Pair) (vals := []) 11 [] (xs := []) (by decide) ty25 ty65 (by decide) (by decide) (fe_ z) (by kernel_rfl) z z z ?_
    intro v E F d m
    refine wY (ym z) z ?_
    have o := (Sl.start hs).i d z z
    refine WL.append (by decide) ty25 ty65 z (by decide) z z m o.src h z ?_
    intro G C D j t
    refine wY (ya z) z (nl (th (rt ?_)))
    have e : Stp [11] (Lg.O0 A) w C D := (tr_ (su_ d z) j)
    exact At.res (.inl z) z (.tmp z .nil) ⟨_, z, se_ e z z, OwnSl.outF t e low0 z⟩
theorem c_cmp_isNaN_string {a0 : List UInt8} {w : World} {r0 : Bool} (h : cmp_isNaN_string a0 = some r0) : Rets Try.prog 120 [vs a0] w (fun v w' => v = vB r0 ∧ Ext w w') := by
 unfold cmp_isNaN_string at h
 refine Rets.enter Try.func120 z z ?_
 refine (show WC _ _ _ _ [(0, vs a0)] _ from ?_)
 refine sq (rg (wY (ya z) z (nl (th (sq (rg (wY (ym z) z (wY (ym z) z (wY (Y.neq_s z z) z ?_)))))))))
 obtain ⟨j, d, h⟩ := lt1 h
 refine WL.yE (ya z) (congrArg vB d.symm) z (nl (th (rt ?_)))
 obtain rfl := some1 h
 have e : Stp [] (Lg.O0 (fun _ => False)) w (Lg.O0 (fun _ => False)) w := (sr_ _ _ _)
 exact At.res (.inl z) z (.tmp z .nil) ⟨z, (se_ e z z)⟩
theorem c_cmp_Compare_string {a0 : List UInt8} {a1 : List UInt8} {w : World} {r0 : Int} (h : cmp_Compare_string a0 a1 = some r0) : Rets Try.prog 107 [vs a0, vs a1] w (fun v w' => v = vi r0 ∧ Ext w w') := by
 unfold cmp_Compare_string at h
 refine Rets.enter Try.func107 z z ?_
 refine (show WC _ _ _ _ [(0, vs a0), (1, vs a1)] _ from ?_)
 refine sq (rg (wY (ya z) z (nl (th (sq (rg (wY (ym z) z ?_)))))))
 obtain ⟨aa, E, h⟩ := bnd h
 refine WL.call (vals := [vs a0]) kok120 z z (c_cmp_isNaN_string E) ?_
 rintro W X ⟨rfl, F⟩
 obtain ⟨Q, S, T, d⟩ := adoptE (Lg.O0 (fun _ => False)) (fun k => 1) F
 refine wY (ya z) z (nl (th (sq (rg (wY (ym z) z ?_)))))
 obtain ⟨ab, G, h⟩ := bnd h
 refine WL.call (vals := [vs a1]) kok120 z z (c_cmp_isNaN_string G) ?_
 rintro Z j ⟨rfl, H⟩
 obtain ⟨l, U, V, e⟩ := adoptE Q (fun k => 1) H
 refine wY (ya z) z (nl (th (sq (sq (rg (wY (ym z) z (nl (th ?_))))))))
 rcases cnd h with ⟨m, h⟩ | ⟨m, h⟩
 ·refine WC.condT' z m (sq (sq (rg (wY (ym z) z (nl (th ?_))))))
  rcases cnd h with ⟨o, h⟩ | ⟨o, h⟩
  ·refine WC.condT' z o (sq (rg (wY (ya z) z (nl (th (rt (At.thenR (At.thenR ?_))))))))
   obtain rfl := some1 h
   have I : Stp [] (Lg.O0 (fun _ => False)) w l j := (tr_ (su_ d z) (su_ e z))
   exact At.res (.inl z) z (.tmp z .nil) ⟨z, (se_ I z z)⟩
  ·refine WC.condF' z o (sk (th (sq (rg (wY (ya z) z (nl (th (rt (At.thenR ?_)))))))))
   obtain rfl := some1 h
   have J : Stp [] (Lg.O0 (fun _ => False)) w l j := (tr_ (su_ d z) (su_ e z))
   exact At.res (.inl z) z (.tmp z .nil) ⟨z, (se_ J z z)⟩
 ·refine WC.condF' z m (sk (th (sq (sq (rg (wY (ym z) z (nl (th ?_))))))))
  rcases cnd h with ⟨t, h⟩ | ⟨t, h⟩
  ·refine WC.condT' z t (sq (rg (wY (ya z) z (nl (th (rt (At.thenR ?_)))))))
   obtain rfl := some1 h
   have K : Stp [] (Lg.O0 (fun _ => False)) w l j := (tr_ (su_ d z) (su_ e z))
   exact At.res (.inl z) z (.tmp z .nil) ⟨z, (se_ K z z)⟩
  ·refine WC.condF' z t (sk (th (sq (sq (rg (wY (ym z) z (wY (ym z) z (wY (Y.lss_s z z) z (nl ?_)))))))))
   refine th ?_
   rcases cnd h with ⟨C, h⟩ | ⟨C, h⟩
   ·refine WC.condT' z C (sq (rg (wY (ya z) z (nl (th (rt (At.thenR ?_)))))))
    obtain rfl := some1 h
    have L : Stp [] (Lg.O0 (fun _ => False)) w l j := (tr_ (su_ d z) (su_ e z))
    exact At.res (.inl z) z (.tmp z .nil) ⟨z, (se_ L z z)⟩
   ·refine WC.condF' z C (sk (th (sq (sq (rg (wY (ym z) z (wY (ym z) z (wY (Y.gtr_s z z) z (nl ?_)))))))))
    refine th ?_
    rcases cnd h with ⟨D, h⟩ | ⟨D, h⟩
    ·refine WC.condT' z D (sq (rg (wY (ya z) z (nl (th (rt (At.thenR ?_)))))))
     obtain rfl := some1 h
     have M : Stp [] (Lg.O0 (fun _ => False)) w l j := (tr_ (su_ d z) (su_ e z))
     exact At.res (.inl z) z (.tmp z .nil) ⟨z, (se_ M z z)⟩
    ·refine WC.condF' z D (sk (th (sq (rg (wY (ya z) z (nl (th (rt ?_))))))))
     obtain rfl := some1 h
     have P : Stp [] (Lg.O0 (fun _ => False)) w l j := (tr_ (su_ d z) (su_ e z))
     exact At.res (.inl z) z (.tmp z .nil) ⟨z, (se_ P z z)⟩
theorem c_label_Sorted {A : Nat → Prop} {a0 : List api_Pair} {v0 : Value} {w : World} (hs0 : Sl rep_api_Pair w A v0 a0) {r0 : List api_Pair} (h : label_Sorted a0 = some r0) : Rets Try.prog 87 [v0] w (fun v w' => ∃ (u0 : Value), v = u0 ∧ Ext w w' ∧ RowF rep_api_Pair 65 w w' u0 r0) := by
 unfold label_Sorted at h
 refine Rets.enter Try.func87 z z ?_
 have fz : Sl rep_api_Pair w (imm (Lg.O0 A)) v0 a0 := (Sl.start hs0)
 refine (show WC _ _ _ _ [(0, v0)] _ from ?_)
 refine sq (rg (wY (ya z) z (nl (th (sq (rg (wY (ym z) z ?_)))))))
 obtain ⟨e, fA, h⟩ := bnd h
 refine WL.call (vals := [v0]) kok45 z z (c_slices_Clone_api_Pair_api_Pair (A := fun _ => True) (Sl.all fz) fA) ?_
 rintro d ab ⟨_, rfl, fB, gY⟩
 obtain ⟨aq, gZ, cd, dz⟩ := adoptE (Lg.O0 A) (fun k => if ob d = some k then 11 else 1) fB
 have ce : OwnSl 11 rep_api_Pair 65 aq ab d e := RowF.adopt 11 flat_api_Pair gY cd (fun k hk => if_pos hk)
 refine wY (ya z) z (nl (th (sq (rg (wY (ym z) z ?_)))))
 obtain ⟨g0, h, fC⟩ := bnd h
 refine WL.callJ (vals := [d, Value.func (.func 106) (List.toArray []) (List.toArray [])]) (σ := (List api_Pair × Own)) (fun x w' => x.1 = g0 ∧ Stp [11, 1001, 1002, 1003, 1004, 1005, 1006, 1007, 1008, 1009, 1010, 1011, 1012, 1013, 1014, 1015, 1016, 1017, 1018, 1019, 1020] aq ab x.2 w' ∧ OwnSl 1022 rep_api_Pair 65 x.2 w' d x.1) (fun x => tp []) kok105 z z ?_ ?_
 ·refine Rets.enter Try.func105 z z ?_
  refine (show WC _ _ _ _ [(0, d), (1, Value.func (.func 106) (List.toArray []) (List.toArray []))] _ from ?_)
  refine rg (wY (ym z) z (wY (ym z) z (wY (Y.len ty25 z ce.src.sl) z (wY (ym z) z ?_))))
  obtain ⟨g1, h, fD⟩ := bnd h
  refine WL.callJ (vals := [d, vi (e.length : Int), Value.func (.func 106) (List.toArray []) (List.toArray [])]) (σ := (List api_Pair × Own)) (fun x w' => x.1 = g1 ∧ Stp [11, 1001, 1002, 1003, 1004, 1005, 1006, 1007, 1008, 1009, 1010, 1011, 1012, 1013, 1014, 1015, 1016, 1017, 1018, 1019] aq ab x.2 w' ∧ OwnSl 1020 rep_api_Pair 65 x.2 w' d x.1) (fun x => tp []) kok119 z z ?_ ?_
  ·refine Rets.enter Try.func119 z z ?_
   refine (show WC _ _ _ _ [(0, d), (1, vi (e.length : Int)), (2, Value.func (.func 106) (List.toArray []) (List.toArray []))] _ from ?_)
   refine sq (rg (wY (ya z) z (nl (th (sq (rg (wY (ym z) z (wY (ya z) z (wY (ya z) z ?_)))))))))
   refine nl (th (sq ?_))
   obtain ⟨g2, h, fF⟩ := bnd h
   refine WC.join (σ := (List api_Pair × Int × Own)) (fun x w' => (x.1, x.2.1) = g2 ∧ Stp [11, 1001, 1002, 1003, 1004, 1005, 1006, 1007, 1008, 1009, 1010] aq ab x.2.2 w' ∧ OwnSl 1011 rep_api_Pair 65 x.2.2 w' d x.1) (fun x => [(0, d), (1, vi (e.length : Int)), (2, Value.func (.func 106) (List.toArray []) (List.toArray [])), (6, vi 20), (7, vi x.2.1)]) ?_ ?_
   ·refine WC.block ?_
    obtain ⟨ft, h, fG⟩ := flow1 h
    obtain ⟨fu, h⟩ := loop_some h
    refine WC.joinB 0 (σ := (List api_Pair × Int × Own)) (fun x w' => ft = .go (x.1, x.2.1) ∧ Stp [11, 1001, 1002, 1003, 1004, 1005, 1006, 1007, 1008, 1009] aq ab x.2.2 w' ∧ OwnSl 1010 rep_api_Pair 65 x.2.2 w' d x.1) (fun x => [(0, d), (1, vi (e.length : Int)), (2, Value.func (.func 106) (List.toArray []) (List.toArray [])), (6, vi 20), (7, vi x.2.1)]) ?_ ?_
    ·obtain ⟨g3, dA, fH⟩ := OwnSl.rlb 1009 rfl ce
     refine WC.loop (σ := (List api_Pair × Int × Int × Own)) (fun x k w' => loopN k (label_Sorted_lp1 e) (x.1, x.2.1, x.2.2.1) = some ft ∧ Stp [11, 1001, 1002, 1003, 1004, 1005, 1006, 1007, 1008, 1009] aq ab x.2.2.2 w' ∧ OwnSl 1009 rep_api_Pair 65 x.2.2.2 w' d x.1) (fun x => [(0, d), (1, vi (e.length : Int)), (2, Value.func (.func 106) (List.toArray []) (List.toArray [])), (6, vi 20), (7, vi x.2.1), (8, vi x.2.2.1)]) (e, 0, 20, g3) fu (.cons z (.cons z (.cons z (.cons z (.cons z (.cons z .nil)))))) ⟨h, (su_ dA z), fH⟩ ?_
     rintro ⟨a1, l, m, cf⟩ fu bm ⟨h, au, bn⟩
     obtain ⟨g4, iT, rfl, h, cg⟩ := rnd1 h
     unfold label_Sorted_lp1 at h
     try dsimp only at h au bn
     refine (show WC _ _ _ _ [(0, d), (1, vi (e.length : Int)), (2, Value.func (.func 106) (List.toArray []) (List.toArray [])), (6, vi 20), (7, vi l), (8, vi m)] _ from ?_)
     refine sq (sq (rg (wY (ym z) z (wY (ym z) z (wY (Y.leq_i z z) z (nl (th ?_)))))))
     rcases cnd h with ⟨bo, h⟩ | ⟨bo, h⟩
     ·refine WC.condT' z bo (sk (th (WC.block (sq (rg (wY (ym z) z (wY (ym z) z (wY (ym z) z (wY (ym z) z ?_)))))))))
      obtain ⟨g5, h, fI⟩ := bnd h
      refine WL.callJ (vals := [d, vi l, vi m, Value.func (.func 106) (List.toArray []) (List.toArray [])]) (σ := (List api_Pair × Own)) (fun x w' => x.1 = g5 ∧ Stp [1001, 1002, 1003, 1004, 1005, 1006, 1007, 1009] cf bm x.2 w' ∧ OwnSl 1008 rep_api_Pair 65 x.2 w' d x.1) (fun x => tp []) kok125 z z ?_ ?_
      ·refine Rets.enter Try.func125 z z ?_
       refine (show WC _ _ _ _ [(0, d), (1, vi l), (2, vi m), (3, Value.func (.func 106) (List.toArray []) (List.toArray []))] _ from ?_)
       refine sq (rg (wY (ym z) z (wY (Y.add_i z z) z ?_)))
       obtain ⟨g6, fJ, h⟩ := lt1 h
       refine WL.yE (ya z) (congrArg vi fJ.symm) z (nl (th (WC.block ?_)))
       obtain ⟨fw, h, fK⟩ := flow1 h
       obtain ⟨fx, h⟩ := loop_some h
       refine WC.joinB 0 (σ := (List api_Pair × Own)) (fun x w' => fw = .go x.1 ∧ Stp [1001, 1002, 1003, 1004, 1005, 1006, 1009] cf bm x.2 w' ∧ OwnSl 1007 rep_api_Pair 65 x.2 w' d x.1) (fun x => []) ?_ ?_
       ·obtain ⟨g7, ch, dB⟩ := OwnSl.rlb 1006 rfl bn
        refine WC.loop (σ := (List api_Pair × Int × Own)) (fun x k w' => loopN k (label_Sorted_lp2 l m) (x.1, x.2.1) = some fw ∧ Stp [1001, 1002, 1003, 1004, 1005, 1006, 1009] cf bm x.2.2 w' ∧ OwnSl 1006 rep_api_Pair 65 x.2.2 w' d x.1) (fun x => [(0, d), (1, vi l), (2, vi m), (3, Value.func (.func 106) (List.toArray []) (List.toArray [])), (8, vi x.2.1)]) (a1, g6, g7) fx (.cons z (.cons z (.cons z (.cons z (.cons z .nil))))) ⟨h, (su_ ch z), dB⟩ ?_
        rintro ⟨a2, S, ci⟩ fx bp ⟨h, av, bq⟩
        obtain ⟨fL, ie, rfl, h, bx⟩ := rnd1 h
        unfold label_Sorted_lp2 at h
        try dsimp only at h av bq
        refine (show WC _ _ _ _ [(0, d), (1, vi l), (2, vi m), (3, Value.func (.func 106) (List.toArray []) (List.toArray [])), (8, vi S)] _ from ?_)
        refine sq (sq (rg (wY (ym z) z (wY (ym z) z (wY (Y.lss_i z z) z (nl (th ?_)))))))
        rcases cnd h with ⟨ax, h⟩ | ⟨ax, h⟩
        ·refine WC.condT' z ax (sk (th (sq (WC.block (sq (rg (wY (ym z) z (wY (ya z) z (nl ?_)))))))))
         refine th ?_
         obtain ⟨fN, h, dC⟩ := bnd h
         refine WC.join (σ := (List api_Pair × Own)) (fun x w' => x.1 = fN ∧ Stp [1001, 1002, 1003, 1004, 1006] ci bp x.2 w' ∧ OwnSl 1005 rep_api_Pair 65 x.2 w' d x.1) (fun x => [(0, d), (1, vi l), (2, vi m), (3, Value.func (.func 106) (List.toArray []) (List.toArray [])), (8, vi S)]) ?_ ?_
         ·refine WC.block ?_
          obtain ⟨cj, h, dD⟩ := flow1 h
          obtain ⟨ck, h⟩ := loop_some h
          refine WC.joinB 2 (σ := (List api_Pair × Own)) (fun x w' => cj = .go x.1 ∧ Stp [1001, 1006] ci bp x.2 w' ∧ OwnSl 1004 rep_api_Pair 65 x.2 w' d x.1) (fun x => [(0, d), (1, vi l), (2, vi m), (3, Value.func (.func 106) (List.toArray []) (List.toArray [])), (8, vi S)]) ?_ ?_
          ·obtain ⟨fO, cl, dE⟩ := OwnSl.rlb 1001 rfl bq
           refine WC.loop (σ := (List api_Pair × Int × Own)) (fun x k w' => loopN k (label_Sorted_lp3 l) (x.1, x.2.1) = some cj ∧ Stp [1001, 1006] ci bp x.2.2 w' ∧ OwnSl 1001 rep_api_Pair 65 x.2.2 w' d x.1) (fun x => [(0, d), (1, vi l), (2, vi m), (3, Value.func (.func 106) (List.toArray []) (List.toArray [])), (8, vi S), (9, vi x.2.1)]) (a2, S, fO) ck (.cons z (.cons z (.cons z (.cons z (.cons z (.cons z .nil)))))) ⟨h, (su_ cl z), dE⟩ ?_
           rintro ⟨b6, C, ai⟩ ck hw ⟨h, aj, ad⟩
           obtain ⟨fP, ig, rfl, h, bz⟩ := rnd1 h
           unfold label_Sorted_lp3 at h
           try dsimp only at h aj ad
           refine (show WC _ _ _ _ [(0, d), (1, vi l), (2, vi m), (3, Value.func (.func 106) (List.toArray []) (List.toArray [])), (8, vi S), (9, vi C)] _ from ?_)
           refine sq (sq (WC.drawH [] [0, 1, 2, 3, 4, 5, 6, 7, 8, 9, 10, 11, 12, 13, 14, 15, 16] ai 17 fmix z (by kernel_rfl) ?_))
           intro bA T
           refine WD.y 0 z (by kernel_rfl) (fun _ _ _ => ym z) z (WD.y 1 z (by kernel_rfl) (fun _ _ _ => ym z) z (WD.y 2 z (by kernel_rfl) (fun _ _ _ => Y.gtr_i z z) z (WD.y 3 z (by kernel_rfl) (fun _ _ _ => ym z) z ?_)))
           obtain ⟨fQ, h, dF⟩ := bnd h
           refine WD.join (σ := (Bool × Own)) (f' := 0) [16, 15, 14, 13, 12, 11, 10, 9, 8, 7, 6, 5, 4, 3, 2, 1, 0] (fun x O' w' => x.1 = fQ ∧ Stp [] ai bA x.2 w' ∧ x.2 = O') (fun x => [(0, d), (1, vi l), (2, vi m), (3, Value.func (.func 106) (List.toArray []) (List.toArray [])), (8, vi S), (9, vi C), (34, vB x.1)]) (fun bB => ?_) ?_
           ·rcases cnd h with ⟨Z, h⟩ | ⟨Z, h⟩
            ·refine WD.ren 21 z (congrArg vB Z) (WD.gT 4 z (by kernel_rfl) z z (fun _ _ _ => ym z) z (WD.gT 5 z (by kernel_rfl) z z (fun _ _ _ => ym z) z (WD.gT 6 z (by kernel_rfl) z z (fun _ _ _ => ym z) z ?_)))
             obtain ⟨D, dG, h⟩ := bnd h
             have ae := ad.st T z z z
             obtain ⟨ih, g8, hx, bC, dH, dI, ay, cm⟩ := OwnSl.at ae dG
             obtain ⟨_, _, rfl, rfl, rfl⟩ := cm
             replace ay : CellsAt _ _ _ [vs D.Key, vs D.Val] := ay
             have cn := CAt.own ae bC ay
             refine WD.gT 7 z (by kernel_rfl) z z (fun _ _ _ => Y.indexAddr ty25 ty65 z bC z dH dI) z (WD.gT 8 z (by kernel_rfl) z z (fun hy ii co => have dJ := cn.st co z; yL ty65 z z dJ.at_ z) z (WD.gT 9 z (by kernel_rfl) z z (fun _ _ _ => ym z) z (WD.gT 10 z (by kernel_rfl) z z (fun _ _ _ => ym z) z (WD.gT 11 z (by kernel_rfl) z z (fun _ _ _ => Y.sub_i z z) z ?_))))
             obtain ⟨E, dK, h⟩ := bnd h
             obtain ⟨ij, g9, hz, bD, dL, dM, az, cq⟩ := OwnSl.at ae dK
             obtain ⟨_, _, rfl, rfl, rfl⟩ := cq
             replace az : CellsAt _ _ _ [vs E.Key, vs E.Val] := az
             have cr := CAt.own ae bD az
             refine WD.gT 12 z (by kernel_rfl) z z (fun _ _ _ => Y.indexAddr ty25 ty65 z bD z dL dM) z (WD.gT 13 z (by kernel_rfl) z z (fun hA ik cs => have dN := cr.st cs z; yL ty65 z z dN.at_ z) z (WD.heavy 14 z (by kernel_rfl) (ug z z ?_)))
             obtain ⟨fR, h, dO⟩ := bnd h
             refine WL.callV (fv := []) (cv := []) (vals := [ag [vs D.Key, vs D.Val], ag [vs E.Key, vs E.Val]]) (σ := (Int × Own)) (fun x w' => x.1 = fR ∧ Stp [] ai bA x.2 w') (fun x => vi x.1) kok106 z z z ?_ ?_
             ·refine Rets.enter Try.func106 z z ?_
              refine (show WC _ _ _ _ [(0, ag [vs D.Key, vs D.Val]), (1, ag [vs E.Key, vs E.Val])] _ from ?_)
              refine sq (rg (WL.box (O := ai) 12 [vs D.Key, vs D.Val] z z z ?_))
              intro il fT hC ct dP
              refine WL.box (O := fT) 13 [vs E.Key, vs E.Val] z z z ?_
              intro im fU hD a3 dQ
              refine wY (ya z) z (nl (th (sq (rg (wY (yf fo65_0 z) z ?_)))))
              have dR := dP.st a3 z
              refine wY (yl ty9 z z (dR.cell 0 _ z)) z (wY (yf fo65_0 z) z (wY (yl ty9 z z (dQ.cell 0 _ z)) z ?_))
              obtain ⟨fV, dS, h⟩ := bnd h
              refine WL.call (vals := [vs D.Key, vs E.Key]) kok107 z z (c_cmp_Compare_string dS) ?_
              rintro hE hF ⟨rfl, dT⟩
              obtain ⟨fY, gR, gU, cu⟩ := adoptE fU (fun k => 1) dT
              refine wY (ya z) z (nl (th (rt ?_)))
              exact At.res (.inl z) z (.tmp z .nil) ⟨(fV, fY), ⟨some1 h, (tr_ (su_ ct z) (tr_ (su_ a3 z) (su_ cu z)))⟩, z⟩
             ·rintro ⟨cw, f0⟩ hG ⟨rfl, ak⟩
              replace h := dO
              try dsimp only at h ak
              refine (show WL _ _ _ _ _ ((32, vi cw) :: _) _ from ?_)
              refine nl (At.dq (su_ ak z) (WD.gT 15 z (by kernel_rfl) z z (fun _ _ _ => Y.lss_i z z) z (WD.y 16 z (by kernel_rfl) (fun _ _ _ => Y.pick (b := true) z z) z (WD.ren 21 z (congrArg vB Z.symm) ?_))))
              exact bB (decide (cw < 0), f0) _ _ _ ⟨some1 h, (su_ ak z), z⟩ (.cons z (.cons z (.cons z (.cons z (.cons z (.cons z (.cons z .nil)))))))
            ·refine WD.ren 21 z (congrArg vB Z) (WD.gS 4 z (by kernel_rfl) z z z z (WD.gS 5 z (by kernel_rfl) z z z z (WD.gS 6 z (by kernel_rfl) z z z z (WD.gS 7 z (by kernel_rfl) z z z z (WD.gS 8 z (by kernel_rfl) z z z z (WD.gS 9 z (by kernel_rfl) z z z z (WD.gS 10 z (by kernel_rfl) z z z z (WD.gS 11 z (by kernel_rfl) z z z z (WD.gS 12 z (by kernel_rfl) z z z z ?_)))))))))
             refine WD.gS 13 z (by kernel_rfl) z z z z (WD.heavy 14 z (by kernel_rfl) (WL.gS z z z z (nl (At.dq (sr_ _ _ _) (WD.gS 15 z (by kernel_rfl) z z z z (WD.y 16 z (by kernel_rfl) (fun _ _ _ => Y.pick (b := false) z z) z (WD.ren 21 z (congrArg vB Z.symm) ?_)))))))
             exact bB (false, ai) _ _ _ ⟨some1 h, (sr_ _ _ _), z⟩ (.cons z (.cons z (.cons z (.cons z (.cons z (.cons z (.cons z .nil)))))))
           ·rintro ⟨f1, br⟩ _ hH ⟨rfl, U, rfl⟩
            replace h := dF
            try dsimp only at h U
            refine (show WD _ _ _ _ _ _ _ _ [(0, d), (1, vi l), (2, vi m), (3, Value.func (.func 106) (List.toArray []) (List.toArray [])), (8, vi S), (9, vi C), (34, vB f1)] _ _ from ?_)
            refine WD.done_ (by kernel_rfl) (th ?_)
            rcases cnd h with ⟨aA, h⟩ | ⟨aA, h⟩
            ·refine WC.condT' z aA (sk (th (sq (WC.block (WC.drawH [1001] [0, 1, 2, 3, 4, 5, 6, 7, 8, 9, 10, 11, 12, 13, 14, 15, 16] br 18 fmix z (by kernel_rfl) ?_)))))
             intro dU a4
             refine WD.y 0 z (by kernel_rfl) (fun _ _ _ => ym z) z (WD.y 1 z (by kernel_rfl) (fun _ _ _ => ym z) z (WD.y 2 z (by kernel_rfl) (fun _ _ _ => ym z) z (WD.y 3 z (by kernel_rfl) (fun _ _ _ => ym z) z (WD.y 4 z (by kernel_rfl) (fun _ _ _ => Y.sub_i z z) z (WD.y 5 z (by kernel_rfl) (fun _ _ _ => ym z) z (WD.y 6 z (by kernel_rfl) (fun _ _ _ => ym z) z (WD.y 7 z (by kernel_rfl) (fun _ _ _ => Y.sub_i z z) z ?_)))))))
             obtain ⟨F, dV, h⟩ := bnd h
             have G := ((ad.st T z z z).st U z z z).st a4 z z z
             obtain ⟨io, ha, hI, bE, dY, dZ, aC, cx⟩ := OwnSl.at G dV
             obtain ⟨_, _, rfl, rfl, rfl⟩ := cx
             replace aC : CellsAt _ _ _ [vs F.Key, vs F.Val] := aC
             have a5 := CAt.own G bE aC
             refine WD.y 8 z (by kernel_rfl) (fun _ _ _ => Y.indexAddr ty25 ty65 z bE z dY dZ) z (WD.y 10 z (by kernel_rfl) (fun _ _ _ => ym z) z (WD.y 11 z (by kernel_rfl) (fun _ _ _ => ym z) z ?_))
             obtain ⟨H, d0, h⟩ := bnd h
             obtain ⟨ip, hc, hJ, bF, d1, d2, aD, cy⟩ := OwnSl.at G d0
             obtain ⟨_, _, rfl, rfl, rfl⟩ := cy
             replace aD : CellsAt _ _ _ [vs H.Key, vs H.Val] := aD
             have a6 := CAt.own G bF aD
             refine WD.y 12 z (by kernel_rfl) (fun _ _ _ => Y.indexAddr ty25 ty65 z bF z d1 d2) z ?_
             obtain ⟨f2, h, d3⟩ := bnd h
             refine WD.join (σ := Unit) (f' := 4) [13, 12, 11, 10, 9, 8, 7, 6, 5, 4, 3, 2, 1, 0] (fun x O' w' => () = f2 ∧ dU = w' ∧ br = O') (fun x => [(0, d), (1, vi l), (2, vi m), (3, Value.func (.func 106) (List.toArray []) (List.toArray [])), (8, vi S), (9, vi C), (37, d), (38, vi C), (39, d), (41, vi (w64 (C - 1))), (46, ag [vs F.Key, vs F.Val]), (50, ag [vs H.Key, vs H.Val])]) (fun bG => ?_) ?_
             ·refine WD.heavy2 9 13 z z (by kernel_rfl) ?_ ?_
              ·refine wY (yL ty65 z z a5.at_ z) z (nl (At.dq (sr_ _ _ _) (WD.heavy 13 z (by kernel_rfl) (wY (yL ty65 z z a6.at_ z) z (nl (At.dq (sr_ _ _ _) (WD.perm _ [13, 12, 11, 10, 9, 8, 7, 6, 5, 4, 3, 2, 1, 0] (by kernel_rfl) ?_)))))))
               exact bG () _ _ _ ⟨z, z, z⟩ (.cons z (.cons z (.cons z (.cons z (.cons z (.cons z (.cons z (.cons z (.cons z (.cons z (.cons z (.cons z .nil))))))))))))
              ·try simp only [Option.bind_assoc] at h
               try simp only [Option.bind_some] at h
               refine wY (yL ty65 z z a6.at_ z) z (nl (At.dq (sr_ _ _ _) (WD.heavy 9 z (by kernel_rfl) (wY (yL ty65 z z a5.at_ z) z (nl (At.dq (sr_ _ _ _) (WD.perm _ [13, 12, 11, 10, 9, 8, 7, 6, 5, 4, 3, 2, 1, 0] (by kernel_rfl) ?_)))))))
               exact bG () _ _ _ ⟨z, z, z⟩ (.cons z (.cons z (.cons z (.cons z (.cons z (.cons z (.cons z (.cons z (.cons z (.cons z (.cons z (.cons z .nil))))))))))))
             ·rintro _ _ _ ⟨rfl, rfl, rfl⟩
              replace h := d3
              refine (show WD _ _ _ _ _ _ _ _ [(0, d), (1, vi l), (2, vi m), (3, Value.func (.func 106) (List.toArray []) (List.toArray [])), (8, vi S), (9, vi C), (37, d), (38, vi C), (39, d), (41, vi (w64 (C - 1))), (46, ag [vs F.Key, vs F.Val]), (50, ag [vs H.Key, vs H.Val])] _ _ from ?_)
              obtain ⟨cz, d4, h⟩ := bnd h
              obtain ⟨iq, hd, hK, aE, d5, d6, aF, cA⟩ := OwnSl.at G d4
              obtain ⟨_, _, rfl, rfl, rfl⟩ := cA
              replace aF : CellsAt _ _ _ [vs cz.Key, vs cz.Val] := aF
              have he := CAt.own G aE aF
              refine WD.y 14 z (by kernel_rfl) (fun _ _ _ => Y.indexAddr ty25 ty65 z aE z d5 d6) z (WD.heavy 15 z (by kernel_rfl) ?_)
              obtain ⟨hL, cC, h⟩ := bnd h
              refine WL.storeOwn (R := rep_api_Pair) (u := F) (by decide) ty65 z z ⟨[vs F.Key], [vs F.Val], z, z, z⟩ G aE cC ?_
              intro hM a7 aG
              refine nl (At.dq (su_ a7 z) ?_)
              obtain ⟨cD, d7, h⟩ := bnd h
              obtain ⟨ir, hf, hN, aH, d8, d9, aI, cE⟩ := OwnSl.at aG d7
              obtain ⟨_, _, rfl, rfl, rfl⟩ := cE
              replace aI : CellsAt _ _ _ [vs cD.Key, vs cD.Val] := aI
              have hg := CAt.own aG aH aI
              refine WD.y 16 z (by kernel_rfl) (fun _ _ _ => Y.indexAddr ty25 ty65 z aH z d8 d9) z (WD.phase [1001] [0, 1, 2, 3, 4, 5, 6, 7, 8, 9, 10, 11, 12, 13, 14, 15, 16, 17] (by kernel_rfl) (by kernel_rfl) (WD.heavy 17 z (by kernel_rfl) ?_))
              obtain ⟨ea, cF, h⟩ := bnd h
              refine WL.storeOwn (R := rep_api_Pair) (u := H) (by decide) ty65 z z ⟨[vs H.Key], [vs H.Val], z, z, z⟩ aG aH cF ?_
              intro hO a8 eb
              refine nl (At.dq (su_ a8 z) (WD.done_ (by kernel_rfl) (At.inBlock (th (rg (wY (ym z) z (wY (Y.sub_i z z) z ?_)))))))
              obtain ⟨f3, ec, h⟩ := lt1 h
              refine WL.yE (ya z) (congrArg vi ec.symm) z (nl ?_)
              exact At.round (ea, f3, br) fP (Nat.lt_succ_self _) ⟨next1 h bz, (tr_ (su_ aj z) (tr_ (su_ T z) (tr_ (su_ U z) (tr_ (su_ a4 z) (tr_ (su_ a7 z) (su_ a8 z)))))), eb⟩ (.cons z (.cons z (.cons z (.cons z (.cons z (.cons z .nil))))))
            ·refine WC.condF' z aA (WC.exit (At.thenX (At.loopX ?_)))
             have ee := (ad.st T z z z).st U z z z
             obtain ⟨f4, cG, ef⟩ := OwnSl.rlb 1004 rfl ee
             exact At.hitB (σ := (List api_Pair × Own)) (b6, f4) ⟨brk1 h bz, (tr_ (su_ aj z) (tr_ (su_ T z) (tr_ (su_ U z) (su_ cG z)))), ef⟩ (.cons z (.cons z (.cons z (.cons z (.cons z .nil)))))
          ·rintro ⟨b7, it⟩ hP ⟨rfl, a9, bH⟩
           replace h := flowK_go dD
           try dsimp only at h a9 bH
           refine (show At _ _ _ [(0, d), (1, vi l), (2, vi m), (3, Value.func (.func 106) (List.toArray []) (List.toArray [])), (8, vi S)] _ from ?_)
           refine At.inBlockHit ?_
           obtain ⟨f5, cH, eg⟩ := OwnSl.rlb 1005 rfl bH
           exact At.join (σ := (List api_Pair × Own)) (b7, f5) ⟨some1 h, (tr_ (su_ a9 z) (su_ cH z)), eg⟩ (.cons z (.cons z (.cons z (.cons z (.cons z .nil)))))
         ·rintro ⟨b8, iu⟩ hQ ⟨rfl, ba, bI⟩
          replace h := dC
          try dsimp only at h ba bI
          refine (show At _ _ _ [(0, d), (1, vi l), (2, vi m), (3, Value.func (.func 106) (List.toArray []) (List.toArray [])), (8, vi S)] _ from ?_)
          refine At.inBlock (th (rg (wY (ym z) z (wY (Y.add_i z z) z ?_))))
          obtain ⟨f6, eh, h⟩ := lt1 h
          refine WL.yE (ya z) (congrArg vi eh.symm) z (nl ?_)
          obtain ⟨f7, cI, ei⟩ := OwnSl.rlb 1006 rfl bI
          exact At.round (b8, f6, f7) fL (Nat.lt_succ_self _) ⟨next1 h bx, (tr_ (su_ av z) (tr_ (su_ ba z) (su_ cI z))), ei⟩ (.cons z (.cons z (.cons z (.cons z (.cons z .nil)))))
        ·refine WC.condF' z ax (WC.exit (At.thenX (At.loopX ?_)))
         obtain ⟨f8, cJ, ej⟩ := OwnSl.rlb 1007 rfl bq
         exact At.hitB (σ := (List api_Pair × Own)) (a2, f8) ⟨brk1 h bx, (tr_ (su_ av z) (su_ cJ z)), ej⟩ .nil
       ·rintro ⟨hh, iU⟩ iv ⟨rfl, bJ, cK⟩
        replace h := flowK_go fK
        try dsimp only at h bJ cK
        refine (show At _ _ _ [] _ from ?_)
        refine At.inBlockHit ?_
        obtain ⟨f9, cL, ek⟩ := OwnSl.rlb 1008 rfl cK
        exact At.res (.inr z) z .nil ⟨(hh, f9), ⟨some1 h, (tr_ (su_ bJ z) (su_ cL z)), ek⟩, z⟩
      ·rintro ⟨cM, iV⟩ iw ⟨rfl, bK, cN⟩
       replace h := fI
       try dsimp only at h bK cN
       refine (show WL _ _ _ _ _ ((18, tp []) :: _) _ from ?_)
       refine nl (th (sq (rg (wY (ym z) z (wY (ya z) z (nl (th (rg (wY (ym z) z ?_)))))))))
       refine wY (ym z) z (wY (Y.add_i z z) z ?_)
       obtain ⟨ga, em, h⟩ := lt1 h
       refine WL.yE (ya z) (congrArg vi em.symm) z (nl (At.inBlock ?_))
       obtain ⟨gb, cO, en⟩ := OwnSl.rlb 1009 rfl cN
       exact At.round (cM, m, ga, gb) g4 (Nat.lt_succ_self _) ⟨next1 h cg, (tr_ (su_ au z) (tr_ (su_ bK z) (su_ cO z))), en⟩ (.cons z (.cons z (.cons z (.cons z (.cons z (.cons z .nil))))))
     ·refine WC.condF' z bo (WC.exit (At.thenX (At.loopX ?_)))
      obtain ⟨gc, cP, eo⟩ := OwnSl.rlb 1010 rfl bn
      exact At.hitB (σ := (List api_Pair × Int × Own)) (a1, l, gc) ⟨brk1 h cg, (tr_ (su_ au z) (su_ cP z)), eo⟩ (.cons z (.cons z (.cons z (.cons z (.cons z .nil)))))
    ·rintro ⟨cQ, fy, iW⟩ ix ⟨rfl, bL, cR⟩
     replace h := flowK_go fG
     try dsimp only at h bL cR
     refine (show At _ _ _ [(0, d), (1, vi (e.length : Int)), (2, Value.func (.func 106) (List.toArray []) (List.toArray [])), (6, vi 20), (7, vi fy)] _ from ?_)
     refine At.inBlockHit ?_
     obtain ⟨gd, cS, ep⟩ := OwnSl.rlb 1011 rfl cR
     exact At.join (σ := (List api_Pair × Int × Own)) (cQ, fy, gd) ⟨some1 h, (tr_ (su_ bL z) (su_ cS z)), ep⟩ (.cons z (.cons z (.cons z (.cons z (.cons z .nil)))))
   ·rintro ⟨cT, o, cU⟩ bs ⟨rfl, bM, cV⟩
    replace h := fF
    try dsimp only at h bM cV
    refine (show At _ _ _ [(0, d), (1, vi (e.length : Int)), (2, Value.func (.func 106) (List.toArray []) (List.toArray [])), (6, vi 20), (7, vi o)] _ from ?_)
    refine th (sq (rg (wY (ym z) z (wY (ym z) z (wY (ym z) z (wY (ym z) z ?_))))))
    obtain ⟨ge, h, er⟩ := bnd h
    refine WL.callJ (vals := [d, vi o, vi (e.length : Int), Value.func (.func 106) (List.toArray []) (List.toArray [])]) (σ := (List api_Pair × Own)) (fun x w' => x.1 = ge ∧ Stp [1011, 1012, 1013, 1014, 1015, 1016, 1017, 1018] cU bs x.2 w' ∧ OwnSl 1019 rep_api_Pair 65 x.2 w' d x.1) (fun x => tp []) kok125 z z ?_ ?_
    ·refine Rets.enter Try.func125 z z ?_
     refine (show WC _ _ _ _ [(0, d), (1, vi o), (2, vi (e.length : Int)), (3, Value.func (.func 106) (List.toArray []) (List.toArray []))] _ from ?_)
     refine sq (rg (wY (ym z) z (wY (Y.add_i z z) z ?_)))
     obtain ⟨gf, es, h⟩ := lt1 h
     refine WL.yE (ya z) (congrArg vi es.symm) z (nl (th (WC.block ?_)))
     obtain ⟨cW, h, et⟩ := flow1 h
     obtain ⟨cX, h⟩ := loop_some h
     refine WC.joinB 0 (σ := (List api_Pair × Own)) (fun x w' => cW = .go x.1 ∧ Stp [1011, 1012, 1013, 1014, 1015, 1016, 1017] cU bs x.2 w' ∧ OwnSl 1018 rep_api_Pair 65 x.2 w' d x.1) (fun x => []) ?_ ?_
     ·obtain ⟨gg, cY, eu⟩ := OwnSl.rlb 1017 rfl cV
      refine WC.loop (σ := (List api_Pair × Int × Own)) (fun x k w' => loopN k (label_Sorted_lp4 e o) (x.1, x.2.1) = some cW ∧ Stp [1011, 1012, 1013, 1014, 1015, 1016, 1017] cU bs x.2.2 w' ∧ OwnSl 1017 rep_api_Pair 65 x.2.2 w' d x.1) (fun x => [(0, d), (1, vi o), (2, vi (e.length : Int)), (3, Value.func (.func 106) (List.toArray []) (List.toArray [])), (8, vi x.2.1)]) (cT, gf, gg) cX (.cons z (.cons z (.cons z (.cons z (.cons z .nil))))) ⟨h, (su_ cY z), eu⟩ ?_
      rintro ⟨ar, t, bt⟩ cX aJ ⟨h, al, aK⟩
      obtain ⟨gh, iy, rfl, h, bO⟩ := rnd1 h
      unfold label_Sorted_lp4 at h
      try dsimp only at h al aK
      refine (show WC _ _ _ _ [(0, d), (1, vi o), (2, vi (e.length : Int)), (3, Value.func (.func 106) (List.toArray []) (List.toArray [])), (8, vi t)] _ from ?_)
      refine sq (sq (rg (wY (ym z) z (wY (ym z) z (wY (Y.lss_i z z) z (nl (th ?_)))))))
      rcases cnd h with ⟨aL, h⟩ | ⟨aL, h⟩
      ·refine WC.condT' z aL (sk (th (sq (WC.block (sq (rg (wY (ym z) z (wY (ya z) z (nl ?_)))))))))
       refine th ?_
       obtain ⟨gi, h, ew⟩ := bnd h
       refine WC.join (σ := (List api_Pair × Own)) (fun x w' => x.1 = gi ∧ Stp [1012, 1013, 1014, 1015, 1017] bt aJ x.2 w' ∧ OwnSl 1016 rep_api_Pair 65 x.2 w' d x.1) (fun x => [(0, d), (1, vi o), (2, vi (e.length : Int)), (3, Value.func (.func 106) (List.toArray []) (List.toArray [])), (8, vi t)]) ?_ ?_
       ·refine WC.block ?_
        obtain ⟨cZ, h, ex⟩ := flow1 h
        obtain ⟨c0, h⟩ := loop_some h
        refine WC.joinB 2 (σ := (List api_Pair × Own)) (fun x w' => cZ = .go x.1 ∧ Stp [1012, 1017] bt aJ x.2 w' ∧ OwnSl 1015 rep_api_Pair 65 x.2 w' d x.1) (fun x => [(0, d), (1, vi o), (2, vi (e.length : Int)), (3, Value.func (.func 106) (List.toArray []) (List.toArray [])), (8, vi t)]) ?_ ?_
        ·obtain ⟨gj, c1, ey⟩ := OwnSl.rlb 1012 rfl aK
         refine WC.loop (σ := (List api_Pair × Int × Own)) (fun x k w' => loopN k (label_Sorted_lp5 o) (x.1, x.2.1) = some cZ ∧ Stp [1012, 1017] bt aJ x.2.2 w' ∧ OwnSl 1012 rep_api_Pair 65 x.2.2 w' d x.1) (fun x => [(0, d), (1, vi o), (2, vi (e.length : Int)), (3, Value.func (.func 106) (List.toArray []) (List.toArray [])), (8, vi t), (9, vi x.2.1)]) (ar, t, gj) c0 (.cons z (.cons z (.cons z (.cons z (.cons z (.cons z .nil)))))) ⟨h, (su_ c1 z), ey⟩ ?_
         rintro ⟨b9, I, am⟩ c0 hR ⟨h, an, af⟩
         obtain ⟨gk, iz, rfl, h, bP⟩ := rnd1 h
         unfold label_Sorted_lp5 at h
         try dsimp only at h an af
         refine (show WC _ _ _ _ [(0, d), (1, vi o), (2, vi (e.length : Int)), (3, Value.func (.func 106) (List.toArray []) (List.toArray [])), (8, vi t), (9, vi I)] _ from ?_)
         refine sq (sq (WC.drawH [] [0, 1, 2, 3, 4, 5, 6, 7, 8, 9, 10, 11, 12, 13, 14, 15, 16] am 17 fmix z (by kernel_rfl) ?_))
         intro bQ V
         refine WD.y 0 z (by kernel_rfl) (fun _ _ _ => ym z) z (WD.y 1 z (by kernel_rfl) (fun _ _ _ => ym z) z (WD.y 2 z (by kernel_rfl) (fun _ _ _ => Y.gtr_i z z) z (WD.y 3 z (by kernel_rfl) (fun _ _ _ => ym z) z ?_)))
         obtain ⟨gl, h, ez⟩ := bnd h
         refine WD.join (σ := (Bool × Own)) (f' := 0) [16, 15, 14, 13, 12, 11, 10, 9, 8, 7, 6, 5, 4, 3, 2, 1, 0] (fun x O' w' => x.1 = gl ∧ Stp [] am bQ x.2 w' ∧ x.2 = O') (fun x => [(0, d), (1, vi o), (2, vi (e.length : Int)), (3, Value.func (.func 106) (List.toArray []) (List.toArray [])), (8, vi t), (9, vi I), (34, vB x.1)]) (fun bR => ?_) ?_
         ·rcases cnd h with ⟨aa, h⟩ | ⟨aa, h⟩
          ·refine WD.ren 21 z (congrArg vB aa) (WD.gT 4 z (by kernel_rfl) z z (fun _ _ _ => ym z) z (WD.gT 5 z (by kernel_rfl) z z (fun _ _ _ => ym z) z (WD.gT 6 z (by kernel_rfl) z z (fun _ _ _ => ym z) z ?_)))
           obtain ⟨J, eA, h⟩ := bnd h
           have ah := af.st V z z z
           obtain ⟨iA, hj, hS, bS, eB, eC, aM, c2⟩ := OwnSl.at ah eA
           obtain ⟨_, _, rfl, rfl, rfl⟩ := c2
           replace aM : CellsAt _ _ _ [vs J.Key, vs J.Val] := aM
           have c3 := CAt.own ah bS aM
           refine WD.gT 7 z (by kernel_rfl) z z (fun _ _ _ => Y.indexAddr ty25 ty65 z bS z eB eC) z (WD.gT 8 z (by kernel_rfl) z z (fun hT iB c4 => have eD := c3.st c4 z; yL ty65 z z eD.at_ z) z (WD.gT 9 z (by kernel_rfl) z z (fun _ _ _ => ym z) z (WD.gT 10 z (by kernel_rfl) z z (fun _ _ _ => ym z) z (WD.gT 11 z (by kernel_rfl) z z (fun _ _ _ => Y.sub_i z z) z ?_))))
           obtain ⟨K, eE, h⟩ := bnd h
           obtain ⟨iC, hm, hU, bT, eF, eG, aN, c5⟩ := OwnSl.at ah eE
           obtain ⟨_, _, rfl, rfl, rfl⟩ := c5
           replace aN : CellsAt _ _ _ [vs K.Key, vs K.Val] := aN
           have c6 := CAt.own ah bT aN
           refine WD.gT 12 z (by kernel_rfl) z z (fun _ _ _ => Y.indexAddr ty25 ty65 z bT z eF eG) z (WD.gT 13 z (by kernel_rfl) z z (fun hV iD c7 => have eH := c6.st c7 z; yL ty65 z z eH.at_ z) z (WD.heavy 14 z (by kernel_rfl) (ug z z ?_)))
           obtain ⟨gm, h, eI⟩ := bnd h
           refine WL.callV (fv := []) (cv := []) (vals := [ag [vs J.Key, vs J.Val], ag [vs K.Key, vs K.Val]]) (σ := (Int × Own)) (fun x w' => x.1 = gm ∧ Stp [] am bQ x.2 w') (fun x => vi x.1) kok106 z z z ?_ ?_
           ·refine Rets.enter Try.func106 z z ?_
            refine (show WC _ _ _ _ [(0, ag [vs J.Key, vs J.Val]), (1, ag [vs K.Key, vs K.Val])] _ from ?_)
            refine sq (rg (WL.box (O := am) 14 [vs J.Key, vs J.Val] z z z ?_))
            intro iE gn hW c8 eJ
            refine WL.box (O := gn) 15 [vs K.Key, vs K.Val] z z z ?_
            intro iF gp hX bb eK
            refine wY (ya z) z (nl (th (sq (rg (wY (yf fo65_0 z) z ?_)))))
            have eL := eJ.st bb z
            refine wY (yl ty9 z z (eL.cell 0 _ z)) z (wY (yf fo65_0 z) z (wY (yl ty9 z z (eK.cell 0 _ z)) z ?_))
            obtain ⟨gq, eM, h⟩ := bnd h
            refine WL.call (vals := [vs J.Key, vs K.Key]) kok107 z z (c_cmp_Compare_string eM) ?_
            rintro hY hZ ⟨rfl, eN⟩
            obtain ⟨gr, gV, gW, c9⟩ := adoptE gp (fun k => 1) eN
            refine wY (ya z) z (nl (th (rt ?_)))
            exact At.res (.inl z) z (.tmp z .nil) ⟨(gq, gr), ⟨some1 h, (tr_ (su_ c8 z) (tr_ (su_ bb z) (su_ c9 z)))⟩, z⟩
           ·rintro ⟨da, gs⟩ h0 ⟨rfl, ao⟩
            replace h := eI
            try dsimp only at h ao
            refine (show WL _ _ _ _ _ ((32, vi da) :: _) _ from ?_)
            refine nl (At.dq (su_ ao z) (WD.gT 15 z (by kernel_rfl) z z (fun _ _ _ => Y.lss_i z z) z (WD.y 16 z (by kernel_rfl) (fun _ _ _ => Y.pick (b := true) z z) z (WD.ren 21 z (congrArg vB aa.symm) ?_))))
            exact bR (decide (da < 0), gs) _ _ _ ⟨some1 h, (su_ ao z), z⟩ (.cons z (.cons z (.cons z (.cons z (.cons z (.cons z (.cons z .nil)))))))
          ·refine WD.ren 21 z (congrArg vB aa) (WD.gS 4 z (by kernel_rfl) z z z z (WD.gS 5 z (by kernel_rfl) z z z z (WD.gS 6 z (by kernel_rfl) z z z z (WD.gS 7 z (by kernel_rfl) z z z z (WD.gS 8 z (by kernel_rfl) z z z z (WD.gS 9 z (by kernel_rfl) z z z z (WD.gS 10 z (by kernel_rfl) z z z z (WD.gS 11 z (by kernel_rfl) z z z z (WD.gS 12 z (by kernel_rfl) z z z z ?_)))))))))
           refine WD.gS 13 z (by kernel_rfl) z z z z (WD.heavy 14 z (by kernel_rfl) (WL.gS z z z z (nl (At.dq (sr_ _ _ _) (WD.gS 15 z (by kernel_rfl) z z z z (WD.y 16 z (by kernel_rfl) (fun _ _ _ => Y.pick (b := false) z z) z (WD.ren 21 z (congrArg vB aa.symm) ?_)))))))
           exact bR (false, am) _ _ _ ⟨some1 h, (sr_ _ _ _), z⟩ (.cons z (.cons z (.cons z (.cons z (.cons z (.cons z (.cons z .nil)))))))
         ·rintro ⟨gt, bu⟩ _ h1 ⟨rfl, W, rfl⟩
          replace h := ez
          try dsimp only at h W
          refine (show WD _ _ _ _ _ _ _ _ [(0, d), (1, vi o), (2, vi (e.length : Int)), (3, Value.func (.func 106) (List.toArray []) (List.toArray [])), (8, vi t), (9, vi I), (34, vB gt)] _ _ from ?_)
          refine WD.done_ (by kernel_rfl) (th ?_)
          rcases cnd h with ⟨aO, h⟩ | ⟨aO, h⟩
          ·refine WC.condT' z aO (sk (th (sq (WC.block (WC.drawH [1012] [0, 1, 2, 3, 4, 5, 6, 7, 8, 9, 10, 11, 12, 13, 14, 15, 16] bu 18 fmix z (by kernel_rfl) ?_)))))
           intro eO bc
           refine WD.y 0 z (by kernel_rfl) (fun _ _ _ => ym z) z (WD.y 1 z (by kernel_rfl) (fun _ _ _ => ym z) z (WD.y 2 z (by kernel_rfl) (fun _ _ _ => ym z) z (WD.y 3 z (by kernel_rfl) (fun _ _ _ => ym z) z (WD.y 4 z (by kernel_rfl) (fun _ _ _ => Y.sub_i z z) z (WD.y 5 z (by kernel_rfl) (fun _ _ _ => ym z) z (WD.y 6 z (by kernel_rfl) (fun _ _ _ => ym z) z (WD.y 7 z (by kernel_rfl) (fun _ _ _ => Y.sub_i z z) z ?_)))))))
           obtain ⟨L, eP, h⟩ := bnd h
           have M := ((af.st V z z z).st W z z z).st bc z z z
           obtain ⟨iG, hn, h2, bU, eS, eT, aP, db⟩ := OwnSl.at M eP
           obtain ⟨_, _, rfl, rfl, rfl⟩ := db
           replace aP : CellsAt _ _ _ [vs L.Key, vs L.Val] := aP
           have bd := CAt.own M bU aP
           refine WD.y 8 z (by kernel_rfl) (fun _ _ _ => Y.indexAddr ty25 ty65 z bU z eS eT) z (WD.y 10 z (by kernel_rfl) (fun _ _ _ => ym z) z (WD.y 11 z (by kernel_rfl) (fun _ _ _ => ym z) z ?_))
           obtain ⟨P, eU, h⟩ := bnd h
           obtain ⟨iH, ho, h3, bW, eV, eW, aQ, dc⟩ := OwnSl.at M eU
           obtain ⟨_, _, rfl, rfl, rfl⟩ := dc
           replace aQ : CellsAt _ _ _ [vs P.Key, vs P.Val] := aQ
           have bf := CAt.own M bW aQ
           refine WD.y 12 z (by kernel_rfl) (fun _ _ _ => Y.indexAddr ty25 ty65 z bW z eV eW) z ?_
           obtain ⟨gu, h, eX⟩ := bnd h
           refine WD.join (σ := Unit) (f' := 4) [13, 12, 11, 10, 9, 8, 7, 6, 5, 4, 3, 2, 1, 0] (fun x O' w' => () = gu ∧ eO = w' ∧ bu = O') (fun x => [(0, d), (1, vi o), (2, vi (e.length : Int)), (3, Value.func (.func 106) (List.toArray []) (List.toArray [])), (8, vi t), (9, vi I), (37, d), (38, vi I), (39, d), (41, vi (w64 (I - 1))), (46, ag [vs L.Key, vs L.Val]), (50, ag [vs P.Key, vs P.Val])]) (fun bX => ?_) ?_
           ·refine WD.heavy2 9 13 z z (by kernel_rfl) ?_ ?_
            ·refine wY (yL ty65 z z bd.at_ z) z (nl (At.dq (sr_ _ _ _) (WD.heavy 13 z (by kernel_rfl) (wY (yL ty65 z z bf.at_ z) z (nl (At.dq (sr_ _ _ _) (WD.perm _ [13, 12, 11, 10, 9, 8, 7, 6, 5, 4, 3, 2, 1, 0] (by kernel_rfl) ?_)))))))
             exact bX () _ _ _ ⟨z, z, z⟩ (.cons z (.cons z (.cons z (.cons z (.cons z (.cons z (.cons z (.cons z (.cons z (.cons z (.cons z (.cons z .nil))))))))))))
            ·try simp only [Option.bind_assoc] at h
             try simp only [Option.bind_some] at h
             refine wY (yL ty65 z z bf.at_ z) z (nl (At.dq (sr_ _ _ _) (WD.heavy 9 z (by kernel_rfl) (wY (yL ty65 z z bd.at_ z) z (nl (At.dq (sr_ _ _ _) (WD.perm _ [13, 12, 11, 10, 9, 8, 7, 6, 5, 4, 3, 2, 1, 0] (by kernel_rfl) ?_)))))))
             exact bX () _ _ _ ⟨z, z, z⟩ (.cons z (.cons z (.cons z (.cons z (.cons z (.cons z (.cons z (.cons z (.cons z (.cons z (.cons z (.cons z .nil))))))))))))
           ·rintro _ _ _ ⟨rfl, rfl, rfl⟩
            replace h := eX
            refine (show WD _ _ _ _ _ _ _ _ [(0, d), (1, vi o), (2, vi (e.length : Int)), (3, Value.func (.func 106) (List.toArray []) (List.toArray [])), (8, vi t), (9, vi I), (37, d), (38, vi I), (39, d), (41, vi (w64 (I - 1))), (46, ag [vs L.Key, vs L.Val]), (50, ag [vs P.Key, vs P.Val])] _ _ from ?_)
            obtain ⟨dd, eY, h⟩ := bnd h
            obtain ⟨iI, hp, h4, aR, eZ, e0, aS, de⟩ := OwnSl.at M eY
            obtain ⟨_, _, rfl, rfl, rfl⟩ := de
            replace aS : CellsAt _ _ _ [vs dd.Key, vs dd.Val] := aS
            have hq := CAt.own M aR aS
            refine WD.y 14 z (by kernel_rfl) (fun _ _ _ => Y.indexAddr ty25 ty65 z aR z eZ e0) z (WD.heavy 15 z (by kernel_rfl) ?_)
            obtain ⟨h5, df, h⟩ := bnd h
            refine WL.storeOwn (R := rep_api_Pair) (u := L) (by decide) ty65 z z ⟨[vs L.Key], [vs L.Val], z, z, z⟩ M aR df ?_
            intro h6 bg aT
            refine nl (At.dq (su_ bg z) ?_)
            obtain ⟨dg, e1, h⟩ := bnd h
            obtain ⟨iJ, hr, h7, aU, e2, e5, aW, dh⟩ := OwnSl.at aT e1
            obtain ⟨_, _, rfl, rfl, rfl⟩ := dh
            replace aW : CellsAt _ _ _ [vs dg.Key, vs dg.Val] := aW
            have ht := CAt.own aT aU aW
            refine WD.y 16 z (by kernel_rfl) (fun _ _ _ => Y.indexAddr ty25 ty65 z aU z e2 e5) z (WD.phase [1012] [0, 1, 2, 3, 4, 5, 6, 7, 8, 9, 10, 11, 12, 13, 14, 15, 16, 17] (by kernel_rfl) (by kernel_rfl) (WD.heavy 17 z (by kernel_rfl) ?_))
            obtain ⟨e6, di, h⟩ := bnd h
            refine WL.storeOwn (R := rep_api_Pair) (u := P) (by decide) ty65 z z ⟨[vs P.Key], [vs P.Val], z, z, z⟩ aT aU di ?_
            intro h8 bh e7
            refine nl (At.dq (su_ bh z) (WD.done_ (by kernel_rfl) (At.inBlock (th (rg (wY (ym z) z (wY (Y.sub_i z z) z ?_)))))))
            obtain ⟨gw, e8, h⟩ := lt1 h
            refine WL.yE (ya z) (congrArg vi e8.symm) z (nl ?_)
            exact At.round (e6, gw, bu) gk (Nat.lt_succ_self _) ⟨next1 h bP, (tr_ (su_ an z) (tr_ (su_ V z) (tr_ (su_ W z) (tr_ (su_ bc z) (tr_ (su_ bg z) (su_ bh z)))))), e7⟩ (.cons z (.cons z (.cons z (.cons z (.cons z (.cons z .nil))))))
          ·refine WC.condF' z aO (WC.exit (At.thenX (At.loopX ?_)))
           have fa := (af.st V z z z).st W z z z
           obtain ⟨gz, dj, fc⟩ := OwnSl.rlb 1015 rfl fa
           exact At.hitB (σ := (List api_Pair × Own)) (b9, gz) ⟨brk1 h bP, (tr_ (su_ an z) (tr_ (su_ V z) (tr_ (su_ W z) (su_ dj z)))), fc⟩ (.cons z (.cons z (.cons z (.cons z (.cons z .nil)))))
        ·rintro ⟨ca, iK⟩ h9 ⟨rfl, bi, bY⟩
         replace h := flowK_go ex
         try dsimp only at h bi bY
         refine (show At _ _ _ [(0, d), (1, vi o), (2, vi (e.length : Int)), (3, Value.func (.func 106) (List.toArray []) (List.toArray [])), (8, vi t)] _ from ?_)
         refine At.inBlockHit ?_
         obtain ⟨gB, dk, fd⟩ := OwnSl.rlb 1016 rfl bY
         exact At.join (σ := (List api_Pair × Own)) (ca, gB) ⟨some1 h, (tr_ (su_ bi z) (su_ dk z)), fd⟩ (.cons z (.cons z (.cons z (.cons z (.cons z .nil)))))
       ·rintro ⟨cb, iL⟩ ia ⟨rfl, bj, bZ⟩
        replace h := ew
        try dsimp only at h bj bZ
        refine (show At _ _ _ [(0, d), (1, vi o), (2, vi (e.length : Int)), (3, Value.func (.func 106) (List.toArray []) (List.toArray [])), (8, vi t)] _ from ?_)
        refine At.inBlock (th (rg (wY (ym z) z (wY (Y.add_i z z) z ?_))))
        obtain ⟨gC, fe, h⟩ := lt1 h
        refine WL.yE (ya z) (congrArg vi fe.symm) z (nl ?_)
        obtain ⟨gE, dl, ff⟩ := OwnSl.rlb 1017 rfl bZ
        exact At.round (cb, gC, gE) gh (Nat.lt_succ_self _) ⟨next1 h bO, (tr_ (su_ al z) (tr_ (su_ bj z) (su_ dl z))), ff⟩ (.cons z (.cons z (.cons z (.cons z (.cons z .nil)))))
      ·refine WC.condF' z aL (WC.exit (At.thenX (At.loopX ?_)))
       obtain ⟨gG, dm, fg⟩ := OwnSl.rlb 1018 rfl aK
       exact At.hitB (σ := (List api_Pair × Own)) (ar, gG) ⟨brk1 h bO, (tr_ (su_ al z) (su_ dm z)), fg⟩ .nil
     ·rintro ⟨gH, iM⟩ ib ⟨rfl, bk, b0⟩
      replace h := flowK_go et
      try dsimp only at h bk b0
      refine (show At _ _ _ [] _ from ?_)
      refine At.inBlockHit ?_
      obtain ⟨gI, dn, fh⟩ := OwnSl.rlb 1019 rfl b0
      exact At.res (.inr z) z .nil ⟨(gH, gI), ⟨some1 h, (tr_ (su_ bk z) (su_ dn z)), fh⟩, z⟩
    ·rintro ⟨cc, iN⟩ Q ⟨rfl, bl, b1⟩
     replace h := er
     try dsimp only at h bl b1
     refine (show WL _ _ _ _ _ ((27, tp []) :: _) _ from ?_)
     refine nl (th (WC.block ?_))
     obtain ⟨dp, h, fi⟩ := flow1 h
     obtain ⟨dr, h⟩ := loop_some h
     refine WC.joinB 2 (σ := Unit) (fun x w' => dp = .go () ∧ Q = w') (fun x => []) ?_ ?_
     ·refine WC.loop (σ := Int) (fun x k w' => loopN k (label_Sorted_lp6 e) x = some dp ∧ Q = w') (fun x => [(0, d), (1, vi (e.length : Int)), (2, Value.func (.func 106) (List.toArray []) (List.toArray [])), (6, vi x)]) 20 dr (.cons z (.cons z (.cons z (.cons z .nil)))) ⟨h, z⟩ ?_
      rintro j dr _ ⟨h, rfl⟩
      obtain ⟨gJ, iO, rfl, h, b2⟩ := rnd1 h
      unfold label_Sorted_lp6 at h
      try dsimp only at h
      refine (show WC _ _ _ _ [(0, d), (1, vi (e.length : Int)), (2, Value.func (.func 106) (List.toArray []) (List.toArray [])), (6, vi j)] _ from ?_)
      refine sq (sq (rg (wY (ym z) z (wY (ym z) z (wY (Y.lss_i z z) z (nl (th ?_)))))))
      rcases cnd h with ⟨aX, h⟩ | ⟨aX, h⟩
      ·refine WC.condT' z aX (sk (th ?_))
       obtain ⟨gK, h, fj⟩ := bnd h
       refine WC.join (σ := Int) (fun x w' => x = gK ∧ Q = w') (fun x => [(0, d), (1, vi (e.length : Int)), (2, Value.func (.func 106) (List.toArray []) (List.toArray [])), (6, vi x)]) ?_ ?_
       ·refine WC.block (sq (rg (wY (ym z) z (wY (Y.mul_i z z) z (wY (ya z) z ?_)))))
        obtain ⟨bw, fk, h⟩ := lt1 h
        refine WL.yE (ya z) (congrArg vi fk.symm) z (nl (th (sq ?_)))
        obtain ⟨gL, h, fl⟩ := bnd h
        refine WC.join (σ := Unit) (fun x w' => () = gL ∧ Q = w') (fun x => [(0, d), (1, vi (e.length : Int)), (2, Value.func (.func 106) (List.toArray []) (List.toArray [])), (6, vi j), (7, vi 0)]) ?_ ?_
        ·refine WC.block ?_
         obtain ⟨ds, h, fm⟩ := flow1 h
         obtain ⟨dt, h⟩ := loop_some h
         refine WC.joinB 4 (σ := Unit) (fun x w' => ds = .go () ∧ Q = w') (fun x => [(0, d), (1, vi (e.length : Int)), (2, Value.func (.func 106) (List.toArray []) (List.toArray [])), (6, vi j), (7, vi 0)]) ?_ ?_
         ·refine WC.loop (σ := Unit) (fun x k w' => loopN k (label_Sorted_lp7 e bw) () = some ds ∧ Q = w') (fun x => [(0, d), (1, vi (e.length : Int)), (2, Value.func (.func 106) (List.toArray []) (List.toArray [])), (6, vi j), (7, vi 0), (8, vi bw)]) () dt (.cons z (.cons z (.cons z (.cons z (.cons z (.cons z .nil)))))) ⟨h, z⟩ ?_
          rintro _ dt _ ⟨h, rfl⟩
          obtain ⟨iP, iQ, rfl, h, fn⟩ := rnd1 h
          unfold label_Sorted_lp7 at h
          refine (show WC _ _ _ _ [(0, d), (1, vi (e.length : Int)), (2, Value.func (.func 106) (List.toArray []) (List.toArray [])), (6, vi j), (7, vi 0), (8, vi bw)] _ from ?_)
          refine sq (sq (rg (wY (ym z) z (wY (ym z) z (wY (Y.leq_i z z) z (nl (th ?_)))))))
          rcases cnd h with ⟨aY, h⟩ | ⟨aY, h⟩
          ·refine WC.condT' z aY (sk (th (WC.block (sq (rg (wY (ym z) z (wY (ym z) z (wY (ym z) z (wY (ym z) z ?_)))))))))
           refine wY (Y.add_i z z) z (wY (ym z) z (wY (ym z) z ?_))
           cases h
          ·refine WC.condF' z aY (WC.exit (At.thenX (At.loopX ?_)))
           exact At.hitB (σ := Unit) () ⟨brk1 h fn, z⟩ (.cons z (.cons z (.cons z (.cons z (.cons z .nil)))))
         ·rintro _ _ ⟨rfl, rfl⟩
          replace h := flowK_go fm
          refine (show At _ _ _ [(0, d), (1, vi (e.length : Int)), (2, Value.func (.func 106) (List.toArray []) (List.toArray [])), (6, vi j), (7, vi 0)] _ from ?_)
          refine At.inBlockHit ?_
          exact At.join (σ := Unit) () ⟨some1 h, z⟩ (.cons z (.cons z (.cons z (.cons z (.cons z .nil)))))
        ·rintro _ _ ⟨rfl, rfl⟩
         replace h := fl
         refine (show At _ _ _ [(0, d), (1, vi (e.length : Int)), (2, Value.func (.func 106) (List.toArray []) (List.toArray [])), (6, vi j), (7, vi 0)] _ from ?_)
         refine th (sq ?_)
         obtain ⟨gM, h, fo⟩ := bnd h
         refine WC.join (σ := Unit) (fun x w' => () = gM ∧ Q = w') (fun x => [(0, d), (1, vi (e.length : Int)), (2, Value.func (.func 106) (List.toArray []) (List.toArray [])), (6, vi j)]) ?_ ?_
         ·refine sq (rg (wY (ym z) z (wY (ym z) z (wY (Y.add_i z z) z ?_))))
          obtain ⟨iR, fp, h⟩ := lt1 h
          refine WL.yE (ya z) (congrArg vi fp.symm) z (nl (th (sq (rg (wY (ym z) z (wY (ym z) z (wY (Y.lss_i z z) z (nl (th ?_)))))))))
          rcases cnd h with ⟨aZ, h⟩ | ⟨aZ, h⟩
          ·refine WC.condT' z aZ (rg (wY (ym z) z (wY (ym z) z (wY (ym z) z (wY (ym z) z (wY (ym z) z ?_))))))
           cases h
          ·refine WC.condF' z aZ (sk ?_)
           exact At.join (σ := Unit) () ⟨some1 h, z⟩ (.cons z (.cons z (.cons z (.cons z .nil))))
         ·rintro _ _ ⟨rfl, rfl⟩
          replace h := fo
          refine (show At _ _ _ [(0, d), (1, vi (e.length : Int)), (2, Value.func (.func 106) (List.toArray []) (List.toArray [])), (6, vi j)] _ from ?_)
          refine th (rg (wY (ym z) z (wY (Y.mul_i z z) z ?_)))
          obtain ⟨ap, ac, h⟩ := lt1 h
          refine WL.yE (ya z) (congrArg vi ac.symm) z (nl (At.inBlock ?_))
          exact At.join (σ := Int) ap ⟨some1 h, z⟩ (.cons z (.cons z (.cons z (.cons z .nil))))
       ·rintro X _ ⟨rfl, rfl⟩
        replace h := fj
        try dsimp only at h
        refine (show At _ _ _ [(0, d), (1, vi (e.length : Int)), (2, Value.func (.func 106) (List.toArray []) (List.toArray [])), (6, vi X)] _ from ?_)
        exact At.round X gJ (Nat.lt_succ_self _) ⟨next1 h b2, z⟩ (.cons z (.cons z (.cons z (.cons z .nil))))
      ·refine WC.condF' z aX (WC.exit (At.thenX (At.loopX ?_)))
       exact At.hitB (σ := Unit) () ⟨brk1 h b2, z⟩ .nil
     ·rintro _ _ ⟨rfl, rfl⟩
      replace h := flowK_go fi
      refine (show At _ _ _ [] _ from ?_)
      refine At.inBlockHit ?_
      obtain ⟨gO, du, fq⟩ := OwnSl.rlb 1020 rfl b1
      exact At.res (.inr z) z .nil ⟨(cc, gO), ⟨some1 h, (tr_ (su_ bM z) (tr_ (su_ bl z) (su_ du z))), fq⟩, z⟩
  ·rintro ⟨hu, iX⟩ iS ⟨rfl, b3, dw⟩
   replace h := fD
   try dsimp only at h b3 dw
   refine (show WL _ _ _ _ _ ((8, tp []) :: _) _ from ?_)
   refine nl ?_
   obtain ⟨gP, dx, fs⟩ := OwnSl.rlb 1022 rfl dw
   exact At.res (.inr z) z .nil ⟨(hu, gP), ⟨some1 h, (tr_ (su_ b3 z) (su_ dx z)), fs⟩, z⟩
 ·rintro ⟨ic, hv⟩ gQ ⟨rfl, b4, dy⟩
  replace h := fC
  try dsimp only at h b4 dy
  refine (show WL _ _ _ _ _ ((7, tp []) :: _) _ from ?_)
  refine nl (th (sq (rg (wY (ym z) z (wY (ya z) z (nl (th (rt ?_))))))))
  obtain rfl := some1 h
  have b5 : Stp [11, 1001, 1002, 1003, 1004, 1005, 1006, 1007, 1008, 1009, 1010, 1011, 1012, 1013, 1014, 1015, 1016, 1017, 1018, 1019, 1020] (Lg.O0 A) w hv gQ := (tr_ (su_ dz z) (su_ b4 z))
  exact At.res (.inl z) z (.tmp z .nil) ⟨d, z, (se_ b5 z z), (OwnSl.outF dy b5 low0 z)⟩
theorem c_label_Text {A : Nat → Prop} {a0 : List UInt8} {a1 : List api_Pair} {v1 : Value} {w : World} (hs1 : Sl rep_api_Pair w A v1 a1) {r0 : List UInt8} {r1 : Int} (h : label_Text a0 a1 = some (r0, r1)) : Rets Try.prog 78 [vs a0, v1] w (fun v w' => v = tp [vs r0, vi r1] ∧ Ext w w') := by
 unfold label_Text at h
 refine Rets.enter Try.func78 z z ?_
 have az : Sl rep_api_Pair w (imm (Lg.O0 A)) v1 a1 := (Sl.start hs1)
 refine (show WC _ _ _ _ [(0, vs a0), (1, v1)] _ from ?_)
 refine sq (rg (wY (ya (v := vs []) z) z (wY (ya z) z (nl (th (sq (sq (rg (wY (ym z) z ?_)))))))))
 refine wY (ym z) z ?_
 obtain ⟨db, bM, h⟩ := bnd h
 refine WL.call (vals := [vs a0, v1]) kok37 z z (c_label_Check (A := fun _ => True) (Sl.all az) bM) ?_
 rintro cU bO ⟨rfl, bP⟩
 obtain ⟨bG, cr, cs, C⟩ := adoptE (Lg.O0 A) (fun k => 1) bP
 refine wY (ya z) z (nl (th (sq (rg (wY (ym z) z (wY (Y.neq_i z z) z (nl (th ?_))))))))
 rcases cnd h with ⟨V, h⟩ | ⟨V, h⟩
 ·refine WC.condT' z V (sq (rg (wY (ym z) z (wY (ya (v := vs []) z) z (wY (ya z) z (nl (th (rt (At.thenR ?_)))))))))
  obtain ⟨rfl, rfl⟩ := tup2 h
  have bQ : Stp [] (Lg.O0 A) w bG bO := (su_ C z)
  exact At.res (.inl z) z (.tmp z (.tmp z .nil)) ⟨z, (se_ bQ z z)⟩
 ·refine WC.condF' z V (sk (th (sq (rg (WL.alloc (O := bG) 11 [Value.pointer none, sn] ty152 z z ?_)))))
  intro d aA aC ae D
  refine nl (th (sq (rg (wY (ym z) z ?_))))
  obtain ⟨ct, h, bR⟩ := bnd h
  refine WL.callJ (vals := [pt d 0, vs a0]) (σ := (List UInt8 × Int × Own × Value)) (fun x w' => (x.1, x.2.1) = ct ∧ Stp [11, 12] aA aC x.2.2.1 w' ∧ OwnSl 1002 Rep.b 5 x.2.2.1 w' x.2.2.2 x.1 ∧ Blk 11 x.2.2.1 w' d 152 [pt d 0, x.2.2.2]) (fun x => tp [vi x.2.1, Value.nilIface]) kok100 z z ?_ ?_
  ·refine Rets.enter Try.func100 z z ?_
   refine (show WC _ _ _ _ [(0, pt d 0), (1, vs a0)] _ from ?_)
   refine sq (rg (wY (ya z) z (wY (ya (v := Value.nilIface) z) z (nl (th (sq (rg (wY (ym z) z ?_))))))))
   obtain ⟨cu, h, bS⟩ := bnd h
   refine WL.callJ (vals := [pt d 0]) (σ := Own) (fun x w' => () = cu ∧ Stp [11] aA aC x w' ∧ Blk 11 x w' d 152 [pt d 0, sn]) (fun x => tp []) kok116 z z ?_ ?_
   ·refine Rets.enter Try.func116 z z ?_
    refine (show WC _ _ _ _ [(0, pt d 0)] _ from ?_)
    refine sq (rg (wY (ym z) z (wY (yn z) z (wY (yf fo152_0 z) z (wY (yl ty150 z z (D.cell 0 _ z)) z (wY (Y.eql_nil (r := true) ty150.u z z z) z (nl (th (WC.condT z ?_)))))))))
    refine rg (wY (ym z) z (wY (ym z) z (wY (Y.toUnsafe ty150.u ty180.u ty152 (by decide) D (by decide) z) z (wY (Y.noesc xne_123 z) z (wY (Y.ofUnsafe ty180.u ty150.u ty152 D (by kernel_rfl) z) z (wY (yn z) z (wY (yf fo152_0 z) z (WL.store (v := pt d 0) (cells' := [pt d 0, sn]) ty150 z z D z (le_ z) z z ?_))))))))
    intro cV aU bT
    refine nl ?_
    exact At.res (.inr z) z .nil ⟨aA, ⟨some1 h, (su_ aU z), bT⟩, z⟩
   ·rintro cw bU ⟨rfl, aW, aD⟩
    replace h := bS
    refine (show WL _ _ _ _ _ ((7, tp []) :: _) _ from ?_)
    refine nl (th (sq (rg (wY (ym z) z (wY (ym z) z (wY (yn z) z (wY (yf fo152_1 z) z (wY (yl ty45 z z (aD.cell 1 _ z)) z (wY (ym z) z ?_)))))))))
    obtain ⟨bW, aX, h⟩ := bnd h
    have bX := OwnSl.nil (O := cw) (w := bU) 12 Rep.b 5
    refine WL.appendS (by decide) ty45 ty9 ty5 z z bX aX z ?_
    intro dc dd cW af aE
    refine wY (yn z) z (wY (yf fo152_1 z) z ?_)
    have bY := h
    obtain ⟨aF, aG, aH, rfl⟩ := aE.shape
    have h := bY
    have bZ := aD.st af z
    refine WL.store (v := (vl aF aG aH)) (cells' := [pt d 0, (vl aF aG aH)]) ty45 z z bZ z (le_ z) z z ?_
    intro cX ah b0
    refine nl (th (sq (rg (wY (ym z) z (wY (Y.len_s ty9 z) z ?_)))))
    obtain ⟨cx, b1, h⟩ := lt1 h
    refine WL.yE (ya z) (congrArg vi b1.symm) z (wY (ya (v := Value.nilIface) z) z (nl (th (rt ?_))))
    have b2 := aE.st ah z z z
    obtain ⟨cy, ai, b3⟩ := OwnSl.rlb 1002 rfl b2
    have b4 := b0.st ai z
    exact At.res (.inl z) z (.tmp z (.tmp z .nil)) ⟨(bW, cx, cy, (vl aF aG aH)), ⟨some1 h, (tr_ (su_ aW z) (tr_ (su_ af z) (tr_ (su_ ah z) (su_ ai z)))), b3, b4⟩, z⟩
  ·rintro ⟨cz, cA, cC, cD⟩ cY ⟨rfl, E, aI, aJ⟩
   replace h := bR
   try dsimp only at h E aI aJ
   refine (show WL _ _ _ _ _ ((17, tp [vi cA, Value.nilIface]) :: _) _ from ?_)
   refine nl (th (sq (sq (rg (wY (ym z) z ?_)))))
   have b7 := ((az.i C z z).i ae z z).i E z z
   obtain ⟨aj, b8, h⟩ := bnd h
   refine WL.call (vals := [v1]) kok87 z z (c_label_Sorted (A := fun _ => True) (Sl.all b7) b8) ?_
   rintro F W ⟨_, rfl, b9, cE⟩
   obtain ⟨aK, cF, aL, G⟩ := adoptE cC (fun k => if ob F = some k then 13 else 1) b9
   have aM : OwnSl 13 rep_api_Pair 65 aK W F aj := RowF.adopt 13 flat_api_Pair cE aL (fun k hk => if_pos hk)
   refine wY (Y.len ty25 z aM.src.sl) z (wY (ym z) z (nl (th (WC.block ?_))))
   obtain ⟨bH, h, aY⟩ := flow1 h
   obtain ⟨bI, h⟩ := loop_some h
   refine WC.joinB 0 (σ := (List UInt8 × Own × Value)) (fun x w' => bH = .go x.1 ∧ Stp [11, 14, 1002, 1003, 1004] aK W x.2.1 w' ∧ OwnSl 1005 Rep.b 5 x.2.1 w' x.2.2 x.1 ∧ Blk 11 x.2.1 w' d 152 [pt d 0, x.2.2]) (fun x => [(7, pt d 0)]) ?_ ?_
   ·have aZ := aI.st G z z z
    obtain ⟨ca, K, a2⟩ := OwnSl.rlb 1004 rfl aZ
    have a4 := (aJ.st G z).st K z
    refine WC.loop (σ := (List UInt8 × Int × Own × Value)) (fun x k w' => loopN k (label_Text_lp1 aj) (x.1, x.2.1) = some bH ∧ Stp [11, 14, 1002, 1003, 1004] aK W x.2.2.1 w' ∧ OwnSl 1004 Rep.b 5 x.2.2.1 w' x.2.2.2 x.1 ∧ Blk 11 x.2.2.1 w' d 152 [pt d 0, x.2.2.2]) (fun x => [(7, pt d 0), (19, F), (20, vi (aj.length : Int)), (21, vi x.2.1)]) (cz, 0, ca, cD) bI (.cons z (.cons z (.cons z (.cons z .nil)))) ⟨h, (su_ K z), a2, a4⟩ ?_
    rintro ⟨cG, bJ, cH, cI⟩ bI cZ ⟨h, o, X, H⟩
    obtain ⟨cb, c0, rfl, h, ak⟩ := rnd1 h
    unfold label_Text_lp1 at h
    try dsimp only at h o X H
    refine (show WC _ _ _ _ [(7, pt d 0), (19, F), (20, vi (aj.length : Int)), (21, vi bJ)] _ from ?_)
    refine sq (rg (wY (Y.lss_i z z) z (nl (th (sq ?_)))))
    rcases cnd h with ⟨I, h⟩ | ⟨I, h⟩
    ·refine WC.condT' z I (sk (th (sq (WC.block (sq (rg ?_))))))
     obtain ⟨m, a5, h⟩ := bnd h
     have al := aM.st o z z z
     obtain ⟨c1, cJ, cK, am, a6, a7, J, aN⟩ := OwnSl.at al a5
     obtain ⟨_, _, rfl, rfl, rfl⟩ := aN
     replace J : CellsAt _ _ _ [vs m.Key, vs m.Val] := J
     have aO := CAt.own al am J
     refine wY (Y.indexAddr ty25 ty65 z am z a6 a7) z (wY (yL ty65 z z aO.at_ z) z (WL.alloc (O := cH) 14 [vs [], vs []] ty65 z z ?_))
     intro c2 cc cL e a8
     refine WL.store (v := ag [vs m.Key, vs m.Val]) (cells' := [vs m.Key, vs m.Val]) ty65 z z a8 z (le_ z) z z ?_
     intro an j ao
     refine nl (th (rg (wY (yf fo65_0 z) z (wY (yl ty9 z z (ao.cell 0 _ z)) z ?_))))
     obtain ⟨c3, a9, h⟩ := bnd h
     refine wY (Y.add_s (a := [59]) a9 z z) z ?_
     obtain ⟨c4, ba, h⟩ := bnd h
     refine wY (Y.add_s (b := [61]) ba z z) z (wY (yf fo65_1 z) z (wY (yl ty9 z z (ao.cell 1 _ z)) z ?_))
     obtain ⟨aP, bb, h⟩ := bnd h
     refine wY (Y.add_s bb z z) z ?_
     obtain ⟨cd, h, bc⟩ := bnd h
     refine WL.callJ (vals := [pt d 0, vs aP]) (σ := (List UInt8 × Int × Own × Value)) (fun x w' => (x.1, x.2.1) = cd ∧ Stp [11, 1004] cc an x.2.2.1 w' ∧ OwnSl 1003 Rep.b 5 x.2.2.1 w' x.2.2.2 x.1 ∧ Blk 11 x.2.2.1 w' d 152 [pt d 0, x.2.2.2]) (fun x => tp [vi x.2.1, Value.nilIface]) kok100 z z ?_ ?_
     ·refine Rets.enter Try.func100 z z ?_
      refine (show WC _ _ _ _ [(0, pt d 0), (1, vs aP)] _ from ?_)
      refine sq (rg (wY (ya z) z (wY (ya (v := Value.nilIface) z) z (nl (th (sq (rg (wY (ym z) z ?_))))))))
      obtain ⟨ce, h, bd⟩ := bnd h
      refine WL.callJ (vals := [pt d 0]) (σ := Unit) (fun x w' => () = ce ∧ an = w') (fun x => tp []) kok116 z z ?_ ?_
      ·refine Rets.enter Try.func116 z z ?_
       refine (show WC _ _ _ _ [(0, pt d 0)] _ from ?_)
       refine sq (rg (wY (ym z) z (wY (yn z) z (wY (yf fo152_0 z) z ?_))))
       have ap := (H.st e z).st j z
       refine wY (yl ty150 z z (ap.cell 0 _ z)) z (wY (Y.eql_nil (r := false) ty150.u z z z) z (nl (th (WC.condF z (sq (rg (wY (ym z) z (wY (yn z) z (wY (yf fo152_0 z) z ?_)))))))))
       refine wY (yl ty150 z z (ap.cell 0 _ z)) z (wY (ym z) z (wY (Y.neq_same ty150.u ty152 z z) z (nl (th (WC.condF z (sk ?_))))))
       exact At.res (.inr z) z .nil ⟨(), ⟨some1 h, z⟩, z⟩
      ·rintro _ _ ⟨rfl, rfl⟩
       replace h := bd
       refine (show WL _ _ _ _ _ ((7, tp []) :: _) _ from ?_)
       refine nl (th (sq (rg (wY (ym z) z (wY (ym z) z (wY (yn z) z (wY (yf fo152_1 z) z ?_)))))))
       have aq := (H.st e z).st j z
       refine wY (yl ty45 z z (aq.cell 1 _ z)) z (wY (ym z) z ?_)
       obtain ⟨bh, aQ, h⟩ := bnd h
       have bj := (X.st e z z z).st j z z z
       refine WL.appendS (by decide) ty45 ty9 ty5 z z bj aQ z ?_
       intro c5 c6 cM L ar
       refine wY (yn z) z (wY (yf fo152_1 z) z ?_)
       have bk := h
       obtain ⟨Z, aa, ab, rfl⟩ := ar.shape
       have h := bk
       have bl := aq.st L z
       refine WL.store (v := (vl Z aa ab)) (cells' := [pt d 0, (vl Z aa ab)]) ty45 z z bl z (le_ z) z z ?_
       intro cN M bm
       refine nl (th (sq (rg (wY (ym z) z (wY (Y.len_s ty9 z) z ?_)))))
       obtain ⟨cf, bn, h⟩ := lt1 h
       refine WL.yE (ya z) (congrArg vi bn.symm) z (wY (ya (v := Value.nilIface) z) z (nl (th (rt ?_))))
       have bo := ar.st M z z z
       obtain ⟨cg, P, bp⟩ := OwnSl.rlb 1003 rfl bo
       have bq := bm.st P z
       exact At.res (.inl z) z (.tmp z (.tmp z .nil)) ⟨(bh, cf, cg, (vl Z aa ab)), ⟨some1 h, (tr_ (su_ L z) (tr_ (su_ M z) (su_ P z))), bp, bq⟩, z⟩
     ·rintro ⟨ch, ci, c7, cj⟩ cO ⟨rfl, Q, au, av⟩
      replace h := bc
      try dsimp only at h Q au av
      refine (show WL _ _ _ _ _ ((32, tp [vi ci, Value.nilIface]) :: _) _ from ?_)
      refine nl (At.inBlock (th (rg (wY (Y.add_i z z) z (wY (ym z) z (nl ?_))))))
      obtain ⟨ck, S, br⟩ := OwnSl.rlb 1004 rfl au
      have bs := av.st S z
      exact At.round (ch, w64 (bJ + 1), ck, cj) cb (Nat.lt_succ_self _) ⟨next1 h ak, (tr_ (su_ o z) (tr_ (su_ e z) (tr_ (su_ j z) (tr_ (su_ Q z) (su_ S z))))), br, bs⟩ (.cons z (.cons z (.cons z (.cons z .nil))))
    ·refine WC.condF' z I (WC.exit (At.thenX (At.loopX ?_)))
     obtain ⟨cl, T, bt⟩ := OwnSl.rlb 1005 rfl X
     have bu := H.st T z
     exact At.hitB (σ := (List UInt8 × Own × Value)) (cG, cl, cI) ⟨brk1 h ak, (tr_ (su_ o z) (su_ T z)), bt, bu⟩ (.cons z .nil)
   ·rintro ⟨bK, bL, de⟩ cm ⟨rfl, ax, ac, ad⟩
    replace h := flowK_go aY
    try dsimp only at h ax ac ad
    refine (show At _ _ _ [(7, pt d 0)] _ from ?_)
    refine At.inBlockHit (th (sq (rg ?_)))
    obtain ⟨cn, h, bw⟩ := bnd h
    refine WL.callJ (vals := [pt d 0]) (σ := Own) (fun x w' => () = cn ∧ Stp [1005] bL cm x w') (fun x => vs bK) kok101 z z ?_ ?_
    ·refine Rets.enter Try.func101 z z ?_
     refine (show WC _ _ _ _ [(0, pt d 0)] _ from ?_)
     refine sq (rg (wY (ya (v := vs []) z) z (nl (th (sq (WC.drawH [1005] [0, 1, 2, 3, 4, 5, 6, 7, 8, 9, 10, 11] bL 12 fmix z (by kernel_rfl) ?_))))))
     intro cP l
     refine WD.y 0 z (by kernel_rfl) (fun _ _ _ => ym z) z (WD.y 1 z (by kernel_rfl) (fun _ _ _ => yn z) z (WD.y 2 z (by kernel_rfl) (fun _ _ _ => yf fo152_1 z) z (WD.y 3 z (by kernel_rfl) (fun cQ c8 aR => have bx := ad.st l z; have bz := bx.st aR z; yl ty45 z z (bz.cell 1 _ z)) z (WD.y 5 z (by kernel_rfl) (fun _ _ _ => ym z) z (WD.y 6 z (by kernel_rfl) (fun _ _ _ => yn z) z (WD.y 7 z (by kernel_rfl) (fun _ _ _ => yf fo152_1 z) z (WD.y 8 z (by kernel_rfl) (fun cR c9 aS => have bA := ad.st l z; have bB := bA.st aS z; yl ty45 z z (bB.cell 1 _ z)) z (WD.y 9 z (by kernel_rfl) (fun _ _ _ => Y.lenF ty45 z ac.isl) z (WD.heavy 4 z (by kernel_rfl) ?_)))))))))
     have ay := ac.st l z z z
     refine WL.sdata ty175.u z ay z ?_
     intro da co cS t bC
     refine nl (At.dq (su_ t z) (WD.heavy 10 z (by kernel_rfl) ?_))
     have bD := ay.st t z z z
     refine WL.ustr ty175.u ty5 z z bD bC z ?_
     intro cT U
     refine nl (At.dq (su_ U z) (WD.y 11 z (by kernel_rfl) (fun _ _ _ => ya z) z (WD.done_ (by kernel_rfl) (th (rt ?_)))))
     exact At.res (.inl z) z (.tmp z .nil) ⟨co, ⟨some1 h, (tr_ (su_ l z) (tr_ (su_ t z) (su_ U z)))⟩, z⟩
    ·rintro cq bE ⟨rfl, aT⟩
     replace h := bw
     refine (show WL _ _ _ _ _ ((34, vs bK) :: _) _ from ?_)
     refine wY (ya z) z (wY (ya z) z (nl (th (rt ?_))))
     obtain ⟨rfl, rfl⟩ := tup2 h
     have bF : Stp [11, 12, 14, 1002, 1003, 1004, 1005] (Lg.O0 A) w cq bE := (tr_ (su_ C z) (tr_ (su_ ae z) (tr_ (su_ E z) (tr_ (su_ G z) (tr_ (su_ ax z) (su_ aT z))))))
     exact At.res (.inl z) z (.tmp z (.tmp z .nil)) ⟨z, (se_ bF z z)⟩
theorem c_point_bit {a0 : Bool} {w : World} {r0 : Int} (h : point_bit a0 = some r0) : Rets Try.prog 79 [vB a0] w (fun v w' => v = vi r0 ∧ Ext w w') := by
 unfold point_bit at h
 refine Rets.enter Try.func79 z z ?_
 refine (show WC _ _ _ _ [(0, vB a0)] _ from ?_)
 refine sq (rg (wY (ya z) z (nl (th (sq (sq (rg (wY (ym z) z (nl ?_)))))))))
 refine th ?_
 rcases cnd h with ⟨d, h⟩ | ⟨d, h⟩
 ·refine WC.condT' z d (sq (rg (wY (ya z) z (nl (th (rt (At.thenR ?_)))))))
  obtain rfl := some1 h
  have e : Stp [] (Lg.O0 (fun _ => False)) w (Lg.O0 (fun _ => False)) w := (sr_ _ _ _)
  exact At.res (.inl z) z (.tmp z .nil) ⟨z, (se_ e z z)⟩
 ·refine WC.condF' z d (sk (th (sq (rg (wY (ya z) z (nl (th (rt ?_))))))))
  obtain rfl := some1 h
  have j : Stp [] (Lg.O0 (fun _ => False)) w (Lg.O0 (fun _ => False)) w := (sr_ _ _ _)
  exact At.res (.inl z) z (.tmp z .nil) ⟨z, (se_ j z z)⟩
theorem c_point_Key {A : Nat → Prop} {v0_1 : Value} {v0_13 : Value} {v0_15 : Value} {a0 : api_Point} {w : World} (hs0_1 : Sl rep_api_Pair w A v0_1 a0.Attrs) (hs0_13 : Sl Rep.u w A v0_13 a0.Hist.Pos.Counts) (hs0_15 : Sl Rep.u w A v0_15 a0.Hist.Neg.Counts) {r0 : List UInt8} {r1 : Int} (h : point_Key a0 = some (r0, r1)) : Rets Try.prog 44 [ag (cp a0 v0_1 v0_13 v0_15)] w (fun v w' => v = tp [vs r0, vi r1] ∧ Ext w w') := by
 unfold point_Key at h
 refine Rets.enter Try.func44 z z ?_
 have H : Sl rep_api_Pair w (imm (Lg.O0 A)) v0_1 a0.Attrs := (Sl.start hs0_1)
 have I : Sl Rep.u w (imm (Lg.O0 A)) v0_13 a0.Hist.Pos.Counts := (Sl.start hs0_13)
 have J : Sl Rep.u w (imm (Lg.O0 A)) v0_15 a0.Hist.Neg.Counts := (Sl.start hs0_15)
 refine (show WC _ _ _ _ [(0, ag (cp a0 v0_1 v0_13 v0_15))] _ from ?_)
 refine sq (rg ?_)
 have an := h
 obtain ⟨E, F, G, rfl⟩ := H.shape
 have h := an
 have ao := h
 obtain ⟨K, L, M, rfl⟩ := I.shape
 have h := ao
 have ap := h
 obtain ⟨P, Q, S, rfl⟩ := J.shape
 have h := ap
 refine WL.box (O := (Lg.O0 A)) 11 (cp a0 (vl E F G) (vl K L M) (vl P Q S)) z z z ?_
 intro a9 aO aY d T
 refine wY (ya (v := vs []) z) z (wY (ya z) z (nl (th (sq (sq (rg (wY (yL ty33 z z (T.cells 0 (cp a0 (vl E F G) (vl K L M) (vl P Q S)) z) z) z ?_)))))))
 have U := H.i d z z
 have aq := I.i d z z
 have ar := J.i d z z
 obtain ⟨ba, au, h⟩ := bnd h
 refine WL.call (vals := [ag (cp a0 (vl E F G) (vl K L M) (vl P Q S))]) kok19 z z (c_point_Check (A := fun _ => True) (a0 := a0) (Sl.all U) (Sl.all aq) (Sl.all ar) au) ?_
 rintro aZ av ⟨rfl, ax⟩
 obtain ⟨al, aP, aQ, j⟩ := adoptE aO (fun k => 1) ax
 refine wY (ya z) z (nl (th (sq (rg (wY (ym z) z (wY (Y.neq_i z z) z (nl (th ?_))))))))
 rcases cnd h with ⟨D, h⟩ | ⟨D, h⟩
 ·refine WC.condT' z D (sq (rg (wY (ym z) z (wY (ya (v := vs []) z) z (wY (ya z) z (nl (th (rt (At.thenR ?_)))))))))
  obtain ⟨rfl, rfl⟩ := tup2 h
  have ay : Stp [] (Lg.O0 A) w al av := (tr_ (su_ d z) (su_ j z))
  exact At.res (.inl z) z (.tmp z (.tmp z .nil)) ⟨z, (se_ ay z z)⟩
 ·refine WC.condF' z D (sk (th (sq (rg (wY (yf fo33_0 z) z ?_)))))
  have o := T.st j z
  refine wY (yl ty9 z z (o.cell 0 _ z)) z (wY (yf fo33_1 z) z (wY (yl ty25 z z (o.cell 1 _ z)) z ?_))
  have az := U.i j z z
  obtain ⟨⟨bb, bc⟩, aA, h⟩ := bnd h
  refine WL.call (vals := [vs a0.Name, (vl E F G)]) kok78 z z (c_label_Text (A := fun _ => True) (Sl.all az) aA) ?_
  rintro a1 a2 ⟨rfl, aC⟩
  obtain ⟨am, aR, aS, l⟩ := adoptE al (fun k => 1) aC
  refine wY (ym z) z (wY (yx z z) z (wY (yx z z) z (wY (ya z) z (wY (ya z) z (nl (th (sq (WC.drawH [] [0, 1, 2, 3, 4, 5, 6, 7, 8, 9, 10, 11, 12, 13, 14, 15, 16, 17, 18, 19] am 20 fmix z (by kernel_rfl) ?_))))))))
  intro a3 m
  refine WD.y 0 z (by kernel_rfl) (fun _ _ _ => ym z) z ?_
  obtain ⟨bd, aD, h⟩ := bnd h
  refine WD.y 1 z (by kernel_rfl) (fun _ _ _ => Y.add_s (b := [32]) aD z z) z (WD.y 2 z (by kernel_rfl) (fun _ _ _ => yf fo33_2 z) z (WD.y 3 z (by kernel_rfl) (fun a4 bf X => have aE := o.st l z; have aF := aE.st m z; have aG := aF.st X z; yl ty3 z z (aG.cell 2 _ z)) z (WD.y 4 z (by kernel_rfl) (fun _ _ _ => Y.add_i z z) z (WD.y 5 z (by kernel_rfl) (fun _ _ _ => Y.conv_ib ty3.u ty5.u z) z (WD.y 6 z (by kernel_rfl) (fun _ _ _ => yf fo33_3 z) z (WD.y 7 z (by kernel_rfl) (fun a5 bg Z => have aH := o.st l z; have aI := aH.st m z; have aJ := aI.st Z z; yl ty3 z z (aJ.cell 3 _ z)) z (WD.y 8 z (by kernel_rfl) (fun _ _ _ => Y.add_i z z) z (WD.y 9 z (by kernel_rfl) (fun _ _ _ => Y.conv_ib ty3.u ty5.u z) z (WD.y 10 z (by kernel_rfl) (fun _ _ _ => yf fo33_4 z) z ?_)))))))))
  refine WD.y 11 z (by kernel_rfl) (fun aT bh V => have aa := o.st l z; have ab := aa.st m z; have ac := ab.st V z; yl ty4 z z (ac.cell 4 _ z)) z (WD.heavy 12 z (by kernel_rfl) ?_)
  obtain ⟨e, ad, h⟩ := bnd h
  refine WL.call (vals := [vB a0.Mono]) kok79 z z (c_point_bit ad) ?_
  rintro aU aW ⟨rfl, ae⟩
  obtain ⟨aK, aM, aN, t⟩ := adoptE am (fun k => 1) ae
  refine nl (At.dq (su_ t z) (WD.y 13 z (by kernel_rfl) (fun _ _ _ => Y.add_i z z) z (WD.y 14 z (by kernel_rfl) (fun _ _ _ => Y.conv_ib ty3.u ty5.u z) z (WD.heavy 15 z (by kernel_rfl) (WL.buildSlice (O := aK) (R := Rep.b) (vals := [(0, vb (toU8 (w64 (48 + a0.Kind)))), (1, vb (toU8 (w64 (48 + a0.Temp)))), (2, vb (toU8 (w64 (48 + e))))]) 12 [vb (toU8 (w64 (48 + a0.Kind))), vb (toU8 (w64 (48 + a0.Temp))), vb (toU8 (w64 (48 + e)))] (xs := [toU8 (w64 (48 + a0.Kind)), toU8 (w64 (48 + a0.Temp)), toU8 (w64 (48 + e))]) (by decide) ty45 ty5 (by decide) (by decide) (fe_ z) (by kernel_rfl) z ⟨[vb (toU8 (w64 (48 + a0.Kind)))], [vb (toU8 (w64 (48 + a0.Temp))), vb (toU8 (w64 (48 + e)))], z, z, ⟨[vb (toU8 (w64 (48 + a0.Temp)))], [vb (toU8 (w64 (48 + e)))], z, z, ⟨[vb (toU8 (w64 (48 + e)))], [], z, z, z⟩⟩⟩ z ?_)))))
  intro a6 aL af C ah
  refine nl (At.dq (su_ C z) (WD.y 16 z (by kernel_rfl) (fun aX a7 W => have ai := ah.st W z z z; Y.b2s ty45 ty5 ty9 z ai.src.sl) z ?_))
  obtain ⟨a8, aj, h⟩ := bnd h
  refine WD.y 17 z (by kernel_rfl) (fun _ _ _ => Y.add_s aj z z) z (WD.y 18 z (by kernel_rfl) (fun _ _ _ => ya z) z (WD.y 19 z (by kernel_rfl) (fun _ _ _ => ya z) z (WD.done_ (by kernel_rfl) (th (rt ?_)))))
  obtain ⟨rfl, rfl⟩ := tup2 h
  have ak : Stp [] (Lg.O0 A) w aL af := (tr_ (su_ d z) (tr_ (su_ j z) (tr_ (su_ l z) (tr_ (su_ m z) (tr_ (su_ t z) (su_ C z))))))
  exact At.res (.inl z) z (.tmp z (.tmp z .nil)) ⟨z, (se_ ak z z)⟩
end Go.Lg
