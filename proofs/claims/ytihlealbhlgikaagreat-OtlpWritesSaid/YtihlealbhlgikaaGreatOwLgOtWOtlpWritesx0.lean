/- The walks of OtlpWrites and of what it calls, printed by gen.py. -/
import Derived.Test.YtihlealbhlgikaaGreatOwLgPart0
import Derived.Test.YtihlealbhlgikaaGreatOwLgPart1
import Derived.Test.YtihlealbhlgikaaGreatProg
set_option linter.unusedVariables false
namespace Go.Lg
open Go Go.Proofs
set_option maxRecDepth 100000
set_option maxHeartbeats 4000000
abbrev cp (p : api_Point) (a b c : Value) : List Value := [vs p.Name, a, vi p.Kind, vi p.Temp, .bool p.Mono, vi p.Start, vi p.Time, vi p.Int_, vu p.Re, vu p.Im, vi p.Hist.Scale, vu p.Hist.Zero, vi p.Hist.Pos.Offset, b, vi p.Hist.Neg.Offset, c, vi p.Flags]
abbrev hl (h : api_Hist) (a b : Value) : List Value := [vi h.Scale, vu h.Zero, vi h.Pos.Offset, a, vi h.Neg.Offset, b]
abbrev hzr : List Value := [vi 0, vu 0, vi 0, sn, vi 0, sn]
theorem fmix : Tryz.prog.follows .mixedOrders = true := by kernel_rfl
theorem ty3 : TyOk Tryz.prog 3 (.int .i64) 1 8 (.int .i64 0) := tyOk Tryz.underlying3 (by kernel_rfl)
theorem ty4 : TyOk Tryz.prog 4 .bool 1 1 (.bool false) := tyOk Tryz.underlying4 (by kernel_rfl)
theorem ty5 : TyOk Tryz.prog 5 (.int .u8) 1 1 (.int .u8 0) := tyOk Tryz.underlying5 (by kernel_rfl)
theorem ty9 : TyOk Tryz.prog 9 .string 1 16 (.string ⟨#[]⟩) := tyOk Tryz.underlying9 (by kernel_rfl)
theorem ty22 : TyOk Tryz.prog 22 (.slice 40) 1 24 (.slice none 0 0) := tyOk Tryz.underlying22 (by kernel_rfl)
theorem ty25 : TyOk Tryz.prog 25 (.int .i64) 1 8 (.int .i64 0) := tyOk Tryz.underlying25 (by kernel_rfl)
theorem ty32 : TyOk Tryz.prog 32 (.slice 67) 1 24 (.slice none 0 0) := tyOk Tryz.underlying32 (by kernel_rfl)
theorem ty33 : TyOk Tryz.prog 33 (.int .u64) 1 8 (.int .u64 0) := tyOk Tryz.underlying33 (by kernel_rfl)
theorem ty34 : TyOk Tryz.prog 34 (.slice 33) 1 24 (.slice none 0 0) := tyOk Tryz.underlying34 (by kernel_rfl)
theorem ty36 : TyOk Tryz.prog 36 (.struct #[(Field.mk "Offset" 3 0 false "" "" 0), (Field.mk "Counts" 34 1 false "" "" 8)]) 2 32 (.agg #[(.int .i64 0), (.slice none 0 0)]) := tyOk Tryz.underlying36 (by kernel_rfl)
theorem ty38 : TyOk Tryz.prog 38 (.struct #[(Field.mk "Scale" 3 0 false "" "" 0), (Field.mk "Zero" 33 1 false "" "" 8), (Field.mk "Pos" 36 2 false "" "" 16), (Field.mk "Neg" 36 4 false "" "" 48)]) 6 80 (.agg #[(.int .i64 0), (.int .u64 0), (.int .i64 0), (.slice none 0 0), (.int .i64 0), (.slice none 0 0)]) := tyOk Tryz.underlying38 (by kernel_rfl)
theorem ty40 : TyOk Tryz.prog 40 (.struct #[(Field.mk "Name" 9 0 false "" "" 0), (Field.mk "Attrs" 32 1 false "" "" 16), (Field.mk "Kind" 3 2 false "" "" 40), (Field.mk "Temp" 3 3 false "" "" 48), (Field.mk "Mono" 4 4 false "" "" 56), (Field.mk "Start" 3 5 false "" "" 64), (Field.mk "Time" 3 6 false "" "" 72), (Field.mk "Int" 3 7 false "" "" 80), (Field.mk "Re" 33 8 false "" "" 88), (Field.mk "Im" 33 9 false "" "" 96), (Field.mk "Hist" 38 10 false "" "" 104), (Field.mk "Flags" 3 16 false "" "" 184)]) 17 192 (.agg #[(.string ⟨#[]⟩), (.slice none 0 0), (.int .i64 0), (.int .i64 0), (.bool false), (.int .i64 0), (.int .i64 0), (.int .i64 0), (.int .u64 0), (.int .u64 0), (.int .i64 0), (.int .u64 0), (.int .i64 0), (.slice none 0 0), (.int .i64 0), (.slice none 0 0), (.int .i64 0)]) := tyOk Tryz.underlying40 (by kernel_rfl)
theorem ty51 : TyOk Tryz.prog 51 (.slice 5) 1 24 (.slice none 0 0) := tyOk Tryz.underlying51 (by kernel_rfl)
theorem ty67 : TyOk Tryz.prog 67 (.struct #[(Field.mk "Key" 9 0 false "" "" 0), (Field.mk "Val" 9 1 false "" "" 16)]) 2 32 (.agg #[(.string ⟨#[]⟩), (.string ⟨#[]⟩)]) := tyOk Tryz.underlying67 (by kernel_rfl)
theorem ty70 : TyOk Tryz.prog 70 (.slice 72) 1 24 (.slice none 0 0) := tyOk Tryz.underlying70 (by kernel_rfl)
theorem ty72 : TyOk Tryz.prog 72 (.struct #[(Field.mk "Num" 3 0 false "" "" 0), (Field.mk "Type" 3 1 false "" "" 8), (Field.mk "V" 33 2 false "" "" 16), (Field.mk "B" 51 3 false "" "" 24)]) 4 48 (.agg #[(.int .i64 0), (.int .i64 0), (.int .u64 0), (.slice none 0 0)]) := tyOk Tryz.underlying72 (by kernel_rfl)
theorem ty94 : TyOk Tryz.prog 94 (.array 2 36) 4 64 (.agg #[(.int .i64 0), (.slice none 0 0), (.int .i64 0), (.slice none 0 0)]) := tyOk Tryz.underlying94 (by kernel_rfl)
theorem ty104 : TyOk Tryz.prog 104 (.map 3 3) 1 8 (.map none) := tyOk Tryz.underlying104 (by kernel_rfl)
theorem ty113 : TyOk Tryz.prog 113 (.slice 3) 1 24 (.slice none 0 0) := tyOk Tryz.underlying113 (by kernel_rfl)
theorem ty142 : TyOk Tryz.prog 142 (.int .u64) 1 8 (.int .u64 0) := tyOk Tryz.underlying142 (by kernel_rfl)
theorem ty188 : TyOk Tryz.prog 188 (.slice 32) 1 24 (.slice none 0 0) := tyOk Tryz.underlying188 (by kernel_rfl)
theorem fo36_0 : FieldOk Tryz.prog 36 0 0 := fieldOk Tryz.underlying36 rfl rfl (by kernel_rfl)
theorem fo36_1 : FieldOk Tryz.prog 36 1 1 := fieldOk Tryz.underlying36 rfl rfl (by kernel_rfl)
theorem fo38_0 : FieldOk Tryz.prog 38 0 0 := fieldOk Tryz.underlying38 rfl rfl (by kernel_rfl)
theorem fo38_1 : FieldOk Tryz.prog 38 1 1 := fieldOk Tryz.underlying38 rfl rfl (by kernel_rfl)
theorem fo38_2 : FieldOk Tryz.prog 38 2 2 := fieldOk Tryz.underlying38 rfl rfl (by kernel_rfl)
theorem fo38_3 : FieldOk Tryz.prog 38 3 4 := fieldOk Tryz.underlying38 rfl rfl (by kernel_rfl)
theorem fo40_0 : FieldOk Tryz.prog 40 0 0 := fieldOk Tryz.underlying40 rfl rfl (by kernel_rfl)
theorem fo40_1 : FieldOk Tryz.prog 40 1 1 := fieldOk Tryz.underlying40 rfl rfl (by kernel_rfl)
theorem fo40_2 : FieldOk Tryz.prog 40 2 2 := fieldOk Tryz.underlying40 rfl rfl (by kernel_rfl)
theorem fo40_3 : FieldOk Tryz.prog 40 3 3 := fieldOk Tryz.underlying40 rfl rfl (by kernel_rfl)
theorem fo40_4 : FieldOk Tryz.prog 40 4 4 := fieldOk Tryz.underlying40 rfl rfl (by kernel_rfl)
theorem fo40_5 : FieldOk Tryz.prog 40 5 5 := fieldOk Tryz.underlying40 rfl rfl (by kernel_rfl)
theorem fo40_6 : FieldOk Tryz.prog 40 6 6 := fieldOk Tryz.underlying40 rfl rfl (by kernel_rfl)
theorem fo40_7 : FieldOk Tryz.prog 40 7 7 := fieldOk Tryz.underlying40 rfl rfl (by kernel_rfl)
theorem fo40_8 : FieldOk Tryz.prog 40 8 8 := fieldOk Tryz.underlying40 rfl rfl (by kernel_rfl)
theorem fo40_9 : FieldOk Tryz.prog 40 9 9 := fieldOk Tryz.underlying40 rfl rfl (by kernel_rfl)
theorem fo40_10 : FieldOk Tryz.prog 40 10 10 := fieldOk Tryz.underlying40 rfl rfl (by kernel_rfl)
theorem fo40_11 : FieldOk Tryz.prog 40 11 16 := fieldOk Tryz.underlying40 rfl rfl (by kernel_rfl)
theorem fo67_0 : FieldOk Tryz.prog 67 0 0 := fieldOk Tryz.underlying67 rfl rfl (by kernel_rfl)
theorem fo67_1 : FieldOk Tryz.prog 67 1 1 := fieldOk Tryz.underlying67 rfl rfl (by kernel_rfl)
theorem fo72_0 : FieldOk Tryz.prog 72 0 0 := fieldOk Tryz.underlying72 rfl rfl (by kernel_rfl)
theorem fo72_1 : FieldOk Tryz.prog 72 1 1 := fieldOk Tryz.underlying72 rfl rfl (by kernel_rfl)
theorem fo72_2 : FieldOk Tryz.prog 72 2 2 := fieldOk Tryz.underlying72 rfl rfl (by kernel_rfl)
theorem fo72_3 : FieldOk Tryz.prog 72 3 3 := fieldOk Tryz.underlying72 rfl rfl (by kernel_rfl)
theorem fo101_0 : FieldOk Tryz.prog 101 0 0 := fieldOk Tryz.underlying101 rfl rfl (by kernel_rfl)
theorem fo101_1 : FieldOk Tryz.prog 101 1 1 := fieldOk Tryz.underlying101 rfl rfl (by kernel_rfl)
theorem x64_110 : X64 Tryz.prog 110 := x64 Tryz.func110 (by kernel_rfl) rfl (by kernel_rfl) (by kernel_rfl)
theorem xfrom_109 : XFrom Tryz.prog 109 := xfrom Tryz.func109 (by kernel_rfl) rfl (by kernel_rfl) (by kernel_rfl)
theorem kok7 : CallOk Tryz.prog 7 := callOk Tryz.func7 (by kernel_rfl) rfl
theorem kok11 : CallOk Tryz.prog 11 := callOk Tryz.func11 (by kernel_rfl) rfl
theorem kok17 : CallOk Tryz.prog 17 := callOk Tryz.func17 (by kernel_rfl) rfl
theorem kok18 : CallOk Tryz.prog 18 := callOk Tryz.func18 (by kernel_rfl) rfl
theorem kok19 : CallOk Tryz.prog 19 := callOk Tryz.func19 (by kernel_rfl) rfl
theorem kok20 : CallOk Tryz.prog 20 := callOk Tryz.func20 (by kernel_rfl) rfl
theorem kok24 : CallOk Tryz.prog 24 := callOk Tryz.func24 (by kernel_rfl) rfl
theorem kok27 : CallOk Tryz.prog 27 := callOk Tryz.func27 (by kernel_rfl) rfl
theorem kok28 : CallOk Tryz.prog 28 := callOk Tryz.func28 (by kernel_rfl) rfl
theorem kok30 : CallOk Tryz.prog 30 := callOk Tryz.func30 (by kernel_rfl) rfl
theorem kok31 : CallOk Tryz.prog 31 := callOk Tryz.func31 (by kernel_rfl) rfl
theorem kok32 : CallOk Tryz.prog 32 := callOk Tryz.func32 (by kernel_rfl) rfl
theorem kok33 : CallOk Tryz.prog 33 := callOk Tryz.func33 (by kernel_rfl) rfl
theorem kok34 : CallOk Tryz.prog 34 := callOk Tryz.func34 (by kernel_rfl) rfl
theorem kok35 : CallOk Tryz.prog 35 := callOk Tryz.func35 (by kernel_rfl) rfl
theorem kok36 : CallOk Tryz.prog 36 := callOk Tryz.func36 (by kernel_rfl) rfl
theorem kok37 : CallOk Tryz.prog 37 := callOk Tryz.func37 (by kernel_rfl) rfl
theorem kok38 : CallOk Tryz.prog 38 := callOk Tryz.func38 (by kernel_rfl) rfl
theorem kok39 : CallOk Tryz.prog 39 := callOk Tryz.func39 (by kernel_rfl) rfl
theorem kok40 : CallOk Tryz.prog 40 := callOk Tryz.func40 (by kernel_rfl) rfl
theorem kok41 : CallOk Tryz.prog 41 := callOk Tryz.func41 (by kernel_rfl) rfl
theorem kok42 : CallOk Tryz.prog 42 := callOk Tryz.func42 (by kernel_rfl) rfl
theorem kok43 : CallOk Tryz.prog 43 := callOk Tryz.func43 (by kernel_rfl) rfl
theorem kok44 : CallOk Tryz.prog 44 := callOk Tryz.func44 (by kernel_rfl) rfl
theorem kok45 : CallOk Tryz.prog 45 := callOk Tryz.func45 (by kernel_rfl) rfl
theorem kok46 : CallOk Tryz.prog 46 := callOk Tryz.func46 (by kernel_rfl) rfl
theorem kok47 : CallOk Tryz.prog 47 := callOk Tryz.func47 (by kernel_rfl) rfl
theorem kok49 : CallOk Tryz.prog 49 := callOk Tryz.func49 (by kernel_rfl) rfl
theorem kok52 : CallOk Tryz.prog 52 := callOk Tryz.func52 (by kernel_rfl) rfl
theorem kok53 : CallOk Tryz.prog 53 := callOk Tryz.func53 (by kernel_rfl) rfl
theorem kok54 : CallOk Tryz.prog 54 := callOk Tryz.func54 (by kernel_rfl) rfl
theorem kok55 : CallOk Tryz.prog 55 := callOk Tryz.func55 (by kernel_rfl) rfl
theorem kok56 : CallOk Tryz.prog 56 := callOk Tryz.func56 (by kernel_rfl) rfl
theorem kok62 : CallOk Tryz.prog 62 := callOk Tryz.func62 (by kernel_rfl) rfl
theorem kok63 : CallOk Tryz.prog 63 := callOk Tryz.func63 (by kernel_rfl) rfl
theorem kok64 : CallOk Tryz.prog 64 := callOk Tryz.func64 (by kernel_rfl) rfl
theorem kok65 : CallOk Tryz.prog 65 := callOk Tryz.func65 (by kernel_rfl) rfl
theorem kok66 : CallOk Tryz.prog 66 := callOk Tryz.func66 (by kernel_rfl) rfl
theorem kok67 : CallOk Tryz.prog 67 := callOk Tryz.func67 (by kernel_rfl) rfl
theorem kok68 : CallOk Tryz.prog 68 := callOk Tryz.func68 (by kernel_rfl) rfl
theorem kok69 : CallOk Tryz.prog 69 := callOk Tryz.func69 (by kernel_rfl) rfl
theorem kok70 : CallOk Tryz.prog 70 := callOk Tryz.func70 (by kernel_rfl) rfl
theorem kok71 : CallOk Tryz.prog 71 := callOk Tryz.func71 (by kernel_rfl) rfl
theorem kok72 : CallOk Tryz.prog 72 := callOk Tryz.func72 (by kernel_rfl) rfl
theorem kok73 : CallOk Tryz.prog 73 := callOk Tryz.func73 (by kernel_rfl) rfl
theorem kok74 : CallOk Tryz.prog 74 := callOk Tryz.func74 (by kernel_rfl) rfl
theorem kok75 : CallOk Tryz.prog 75 := callOk Tryz.func75 (by kernel_rfl) rfl
theorem kok76 : CallOk Tryz.prog 76 := callOk Tryz.func76 (by kernel_rfl) rfl
theorem kok77 : CallOk Tryz.prog 77 := callOk Tryz.func77 (by kernel_rfl) rfl
theorem kok78 : CallOk Tryz.prog 78 := callOk Tryz.func78 (by kernel_rfl) rfl
theorem kok79 : CallOk Tryz.prog 79 := callOk Tryz.func79 (by kernel_rfl) rfl
theorem kok80 : CallOk Tryz.prog 80 := callOk Tryz.func80 (by kernel_rfl) rfl
theorem kok81 : CallOk Tryz.prog 81 := callOk Tryz.func81 (by kernel_rfl) rfl
theorem kok82 : CallOk Tryz.prog 82 := callOk Tryz.func82 (by kernel_rfl) rfl
theorem kok83 : CallOk Tryz.prog 83 := callOk Tryz.func83 (by kernel_rfl) rfl
theorem kok84 : CallOk Tryz.prog 84 := callOk Tryz.func84 (by kernel_rfl) rfl
theorem kok85 : CallOk Tryz.prog 85 := callOk Tryz.func85 (by kernel_rfl) rfl
theorem kok86 : CallOk Tryz.prog 86 := callOk Tryz.func86 (by kernel_rfl) rfl
theorem kok93 : CallOk Tryz.prog 93 := callOk Tryz.func93 (by kernel_rfl) rfl
theorem kok94 : CallOk Tryz.prog 94 := callOk Tryz.func94 (by kernel_rfl) rfl
theorem kok95 : CallOk Tryz.prog 95 := callOk Tryz.func95 (by kernel_rfl) rfl
theorem kok96 : CallOk Tryz.prog 96 := callOk Tryz.func96 (by kernel_rfl) rfl
theorem kok97 : CallOk Tryz.prog 97 := callOk Tryz.func97 (by kernel_rfl) rfl
theorem kok107 : CallOk Tryz.prog 107 := callOk Tryz.func107 (by kernel_rfl) rfl
theorem kok108 : CallOk Tryz.prog 108 := callOk Tryz.func108 (by kernel_rfl) rfl
theorem kok111 : CallOk Tryz.prog 111 := callOk Tryz.func111 (by kernel_rfl) rfl
theorem kok112 : CallOk Tryz.prog 112 := callOk Tryz.func112 (by kernel_rfl) rfl
theorem kok113 : CallOk Tryz.prog 113 := callOk Tryz.func113 (by kernel_rfl) rfl
theorem kok114 : CallOk Tryz.prog 114 := callOk Tryz.func114 (by kernel_rfl) rfl
theorem kok115 : CallOk Tryz.prog 115 := callOk Tryz.func115 (by kernel_rfl) rfl
theorem kok116 : CallOk Tryz.prog 116 := callOk Tryz.func116 (by kernel_rfl) rfl
theorem kok117 : CallOk Tryz.prog 117 := callOk Tryz.func117 (by kernel_rfl) rfl
theorem kok118 : CallOk Tryz.prog 118 := callOk Tryz.func118 (by kernel_rfl) rfl
theorem kok119 : CallOk Tryz.prog 119 := callOk Tryz.func119 (by kernel_rfl) rfl
theorem kok120 : CallOk Tryz.prog 120 := callOk Tryz.func120 (by kernel_rfl) rfl
theorem kok129 : CallOk Tryz.prog 129 := callOk Tryz.func129 (by kernel_rfl) rfl
theorem kok133 : CallOk Tryz.prog 133 := callOk Tryz.func133 (by kernel_rfl) rfl
theorem kok134 : CallOk Tryz.prog 134 := callOk Tryz.func134 (by kernel_rfl) rfl
theorem kok135 : CallOk Tryz.prog 135 := callOk Tryz.func135 (by kernel_rfl) rfl
theorem kok136 : CallOk Tryz.prog 136 := callOk Tryz.func136 (by kernel_rfl) rfl
theorem kok137 : CallOk Tryz.prog 137 := callOk Tryz.func137 (by kernel_rfl) rfl
theorem kok138 : CallOk Tryz.prog 138 := callOk Tryz.func138 (by kernel_rfl) rfl
theorem kok139 : CallOk Tryz.prog 139 := callOk Tryz.func139 (by kernel_rfl) rfl
theorem kok140 : CallOk Tryz.prog 140 := callOk Tryz.func140 (by kernel_rfl) rfl
theorem kok141 : CallOk Tryz.prog 141 := callOk Tryz.func141 (by kernel_rfl) rfl
theorem kok142 : CallOk Tryz.prog 142 := callOk Tryz.func142 (by kernel_rfl) rfl
theorem kok143 : CallOk Tryz.prog 143 := callOk Tryz.func143 (by kernel_rfl) rfl
theorem kok153 : CallOk Tryz.prog 153 := callOk Tryz.func153 (by kernel_rfl) rfl
theorem kok154 : CallOk Tryz.prog 154 := callOk Tryz.func154 (by kernel_rfl) rfl
theorem kok155 : CallOk Tryz.prog 155 := callOk Tryz.func155 (by kernel_rfl) rfl
theorem kok156 : CallOk Tryz.prog 156 := callOk Tryz.func156 (by kernel_rfl) rfl
theorem kok157 : CallOk Tryz.prog 157 := callOk Tryz.func157 (by kernel_rfl) rfl
theorem kok158 : CallOk Tryz.prog 158 := callOk Tryz.func158 (by kernel_rfl) rfl
theorem kok159 : CallOk Tryz.prog 159 := callOk Tryz.func159 (by kernel_rfl) rfl
theorem kok160 : CallOk Tryz.prog 160 := callOk Tryz.func160 (by kernel_rfl) rfl
theorem kok161 : CallOk Tryz.prog 161 := callOk Tryz.func161 (by kernel_rfl) rfl
theorem kok166 : CallOk Tryz.prog 166 := callOk Tryz.func166 (by kernel_rfl) rfl
theorem kok167 : CallOk Tryz.prog 167 := callOk Tryz.func167 (by kernel_rfl) rfl
theorem kok168 : CallOk Tryz.prog 168 := callOk Tryz.func168 (by kernel_rfl) rfl
theorem c_ref11_Light {A : Nat → Prop} {a0 : List api_Pair} {v0 : Value} {w : World} (hs0 : Sl rep_api_Pair w A v0 a0) {r0 : Bool} (h : ref11_Light a0 = some r0) : Rets Tryz.prog 27 [v0] w (fun v w' => v = vB r0 ∧ Ext w w') := by
 unfold ref11_Light at h
 refine Rets.enter Tryz.func27 z z ?_
 have a : Sl rep_api_Pair w (imm (Lg.O0 A)) v0 a0 := (Sl.start hs0)
 refine (show WC _ _ _ _ [(0, v0)] _ from ?_)
 refine sq (rg (wY (ya z) z (nl (th (sq (sq (rg (wY (ym z) z (wY (Y.len ty32 z a) z ?_)))))))))
 refine wY (Y.gtr_i z z) z (nl (th ?_))
 rcases cnd h with ⟨d, h⟩ | ⟨d, h⟩
 ·refine WC.condT' z d (sq (rg (wY (ya z) z (nl (th (rt (At.thenR ?_)))))))
  obtain rfl := some1 h
  have M : Stp [] (Lg.O0 A) w (Lg.O0 A) w := (sr_ _ _ _)
  exact At.res (.inl z) z (.tmp z .nil) ⟨z, (se_ M z z)⟩
 ·refine WC.condF' z d (sk (th (sq (sq (rg (wY (ya z) z (nl (th (WC.block ?_)))))))))
  obtain ⟨K, h, D⟩ := flow1 h
  obtain ⟨L, h⟩ := loop_some h
  refine WC.joinB 0 (σ := Unit) (fun x w' => K = .go () ∧ w = w') (fun x => []) ?_ ?_
  ·refine WC.loop (σ := Int) (fun x k w' => loopN k (ref11_Light_lp1 a0) x = some K ∧ w = w') (fun x => [(0, v0), (3, vi x)]) 0 L (.cons z (.cons z .nil)) ⟨h, z⟩ ?_
   rintro E L _ ⟨h, rfl⟩
   obtain ⟨ah, ar, rfl, h, e⟩ := rnd1 h
   unfold ref11_Light_lp1 at h
   try dsimp only at h
   refine (show WC _ _ _ _ [(0, v0), (3, vi E)] _ from ?_)
   refine sq (sq (rg (wY (ym z) z (wY (ym z) z (wY (Y.len ty32 z a) z (wY (Y.lss_i z z) z (nl (th ?_))))))))
   rcases cnd h with ⟨j, h⟩ | ⟨j, h⟩
   ·refine WC.condT' z j (sk (th (sq (WC.block (sq (rg (wY (ym z) z (wY (ym z) z ?_))))))))
    obtain ⟨F, P, h⟩ := bnd h
    obtain ⟨au, al, am, ap, Q, S, T, l, G, U⟩ := Sl.at2 a P
    obtain ⟨_, _, rfl, rfl, rfl⟩ := G
    replace l : CellsAt _ _ _ [vs F.Key, vs F.Val] := l
    have H := CAt.imm l U
    refine wY (Y.indexAddr ty32 ty67 z Q z S T) z (wY (yf fo67_0 z) z (wY (yl ty9 z z (H.at_.sub 0 [vs F.Key] z)) z (wY (Y.len_s ty9 z) z (wY (Y.gtr_i z z) z (wY (ym z) z ?_)))))
    obtain ⟨ai, h, W⟩ := bnd h
    refine WL.cut 8 (σ := Bool) (fun x w' => x = ai ∧ w = w') (fun x => [(0, v0), (3, vi E), (28, vB x)]) ?_ ?_
    ·rcases cnd h with ⟨o, h⟩ | ⟨o, h⟩
     ·refine WL.ren 20 z (congrArg vB o) (WL.gS z z z z (WL.gS z z z z (WL.gS z z z z (WL.gS z z z z (WL.gS z z z z (WL.gS z z z z (WL.gS z z z z (wY (Y.pick (b := true) z z) z ?_))))))))
      exact nl (At.join (σ := Bool) true ⟨some1 h, z⟩ (.cons z (.cons z (.cons z .nil))))
     ·refine WL.ren 20 z (congrArg vB o) (ug z z (wY (ym z) z (ug z z (wY (ym z) z (ug z z ?_)))))
      obtain ⟨C, X, h⟩ := bnd h
      obtain ⟨av, an, ao, aq, Z, aa, ab, r, I, ac⟩ := Sl.at2 a X
      obtain ⟨_, _, rfl, rfl, rfl⟩ := I
      replace r : CellsAt _ _ _ [vs C.Key, vs C.Val] := r
      have J := CAt.imm r ac
      refine wY (Y.indexAddr ty32 ty67 z Z z aa ab) z (ug z z (wY (yf fo67_1 z) z (ug z z (wY (yl ty9 z z (J.at_.sub 1 [vs C.Val] z)) z (ug z z (wY (Y.len_s ty9 z) z (ug z z (wY (Y.gtr_i z z) z (wY (Y.pick (b := false) z z) z ?_)))))))))
      exact nl (At.join (σ := Bool) (decide (100 < (C.Val.length : Int))) ⟨some1 h, z⟩ (.cons z (.cons z (.cons z .nil))))
    ·rintro aj _ ⟨rfl, rfl⟩
     replace h := W
     try dsimp only at h
     refine (show WL _ _ _ _ _ [(0, v0), (3, vi E), (28, vB aj)] _ from ?_)
     refine nl (th ?_)
     rcases cnd h with ⟨t, h⟩ | ⟨t, h⟩
     ·refine WC.condT' z t (sq (rg (wY (ya z) z (nl (th (rt (At.inBlockR (At.thenR (At.loopR ?_)))))))))
      have h := outr1 h e D
      refine At.joinBR (At.inBlockR (At.thenR ?_))
      obtain rfl := some1 h
      have ad : Stp [] (Lg.O0 A) w (Lg.O0 A) w := (sr_ _ _ _)
      exact At.res (.inl z) z (.tmp z .nil) ⟨z, (se_ ad z z)⟩
     ·refine WC.condF' z t (sk (At.inBlock (th (rg (wY (ym z) z (wY (Y.add_i z z) z ?_))))))
      obtain ⟨ak, ae, h⟩ := lt1 h
      refine WL.yE (ya z) (congrArg vi ae.symm) z (nl ?_)
      exact At.round ak ah (Nat.lt_succ_self _) ⟨next1 h e, z⟩ (.cons z (.cons z .nil))
   ·refine WC.condF' z j (WC.exit (At.thenX (At.loopX ?_)))
    exact At.hitB (σ := Unit) () ⟨brk1 h e, z⟩ .nil
  ·rintro _ _ ⟨rfl, rfl⟩
   replace h := flowK_go D
   refine (show At _ _ _ [] _ from ?_)
   refine At.inBlockHit (th (sq (rg (wY (ya z) z (nl (th (rt ?_)))))))
   obtain rfl := some1 h
   have af : Stp [] (Lg.O0 A) w (Lg.O0 A) w := (sr_ _ _ _)
   exact At.res (.inl z) z (.tmp z .nil) ⟨z, (se_ af z z)⟩
theorem c_ref08_Light {A : Nat → Prop} {v0_3 : Value} {v0_5 : Value} {a0 : api_Hist} {w : World} (hs0_3 : Sl Rep.u w A v0_3 a0.Pos.Counts) (hs0_5 : Sl Rep.u w A v0_5 a0.Neg.Counts) {r0 : Bool} (h : ref08_Light a0 = some r0) : Rets Tryz.prog 28 [ag (hl a0 v0_3 v0_5)] w (fun v w' => v = vB r0 ∧ Ext w w') := by
 unfold ref08_Light at h
 refine Rets.enter Tryz.func28 z z ?_
 have e : Sl Rep.u w (imm (Lg.O0 A)) v0_3 a0.Pos.Counts := (Sl.start hs0_3)
 have j : Sl Rep.u w (imm (Lg.O0 A)) v0_5 a0.Neg.Counts := (Sl.start hs0_5)
 refine (show WC _ _ _ _ [(0, ag (hl a0 v0_3 v0_5))] _ from ?_)
 refine sq (rg ?_)
 have r := h
 obtain ⟨G, H, I, rfl⟩ := e.shape
 have h := r
 have t := h
 obtain ⟨J, K, L, rfl⟩ := j.shape
 have h := t
 refine WL.box (O := (Lg.O0 A)) 11 (hl a0 (vl G H I) (vl J K L)) z z z ?_
 intro P M l a o
 refine wY (ya z) z (nl (th (sq (rg (wY (yf fo38_2 z) z (wY (yf fo36_1 z) z (wY (yl ty34 z z (o.cell 3 _ z)) z ?_)))))))
 have C := e.i a z z
 refine wY (Y.len ty34 z C) z (wY (Y.leq_i z z) z (wY (ym z) z ?_))
 refine WL.cut 6 (σ := Unit) (fun _ w' => l = w') (fun _ => [(14, vB ((decide ((a0.Pos.Counts.length : Int) ≤ 300)) && (decide ((a0.Neg.Counts.length : Int) ≤ 300))))]) ?_ ?_
 ·refine WL.part 8 z (fun d => ?_) (fun d => ?_)
  ·refine ug z z (wY (yf fo38_3 z) z (ug z z (wY (yf fo36_1 z) z (ug z z (wY (yl ty34 z z (o.cell 5 _ z)) z (ug z z ?_))))))
   have D := j.i a z z
   refine wY (Y.len ty34 z D) z (ug z z (wY (Y.leq_i z z) z (wY (Y.pick (b := true) z z) z (WL.ren (v' := vB ((decide ((a0.Pos.Counts.length : Int) ≤ 300)) && (decide ((a0.Neg.Counts.length : Int) ≤ 300)))) 14 z (congrArg vB (andT d)) ?_))))
   exact nl (At.join () z (.cons z .nil))
  ·refine WL.gS z z z z (WL.gS z z z z (WL.gS z z z z (WL.gS z z z z (WL.gS z z z z (wY (Y.pick (b := false) z z) z (WL.ren (v' := vB ((decide ((a0.Pos.Counts.length : Int) ≤ 300)) && (decide ((a0.Neg.Counts.length : Int) ≤ 300)))) 14 z (congrArg vB (andF d)) ?_))))))
   exact nl (At.join () z (.cons z .nil))
 ·rintro _ _ rfl
  refine (show WL _ _ _ _ _ [(14, vB ((decide ((a0.Pos.Counts.length : Int) ≤ 300)) && (decide ((a0.Neg.Counts.length : Int) ≤ 300))))] _ from ?_)
  obtain ⟨Q, E, h⟩ := lt1 h
  refine WL.yE (ya z) (congrArg vB E.symm) z (nl (th (rt ?_)))
  obtain rfl := some1 h
  have F : Stp [] (Lg.O0 A) w M l := (su_ a z)
  exact At.res (.inl z) z (.tmp z .nil) ⟨z, (se_ F z z)⟩
theorem c_ref12_Light {A : Nat → Prop} {v0_1 : Value} {v0_13 : Value} {v0_15 : Value} {a0 : api_Point} {w : World} (hs0_1 : Sl rep_api_Pair w A v0_1 a0.Attrs) (hs0_13 : Sl Rep.u w A v0_13 a0.Hist.Pos.Counts) (hs0_15 : Sl Rep.u w A v0_15 a0.Hist.Neg.Counts) {r0 : Bool} (h : ref12_Light a0 = some r0) : Rets Tryz.prog 11 [ag (cp a0 v0_1 v0_13 v0_15)] w (fun v w' => v = vB r0 ∧ Ext w w') := by
 unfold ref12_Light at h
 refine Rets.enter Tryz.func11 z z ?_
 have r : Sl rep_api_Pair w (imm (Lg.O0 A)) v0_1 a0.Attrs := (Sl.start hs0_1)
 have t : Sl Rep.u w (imm (Lg.O0 A)) v0_13 a0.Hist.Pos.Counts := (Sl.start hs0_13)
 have C : Sl Rep.u w (imm (Lg.O0 A)) v0_15 a0.Hist.Neg.Counts := (Sl.start hs0_15)
 refine (show WC _ _ _ _ [(0, ag (cp a0 v0_1 v0_13 v0_15))] _ from ?_)
 refine sq (rg ?_)
 have U := h
 obtain ⟨P, Q, S, rfl⟩ := r.shape
 have h := U
 have W := h
 obtain ⟨D, E, F, rfl⟩ := t.shape
 have h := W
 have X := h
 obtain ⟨G, H, I, rfl⟩ := C.shape
 have h := X
 refine WL.box (O := (Lg.O0 A)) 11 (cp a0 (vl P Q S) (vl D E F) (vl G H I)) z z z ?_
 intro T J Z d e
 refine wY (ya z) z (nl (th (sq (rg (wY (yf fo40_0 z) z (wY (yl ty9 z z (e.cell 0 _ z)) z (wY (Y.len_s ty9 z) z (wY (Y.leq_i z z) z (wY (ym z) z ?_)))))))))
 obtain ⟨aq, h, aa⟩ := bnd h
 refine WL.cut 4 (σ := (Bool × Own)) (fun x w' => x.1 = aq ∧ Stp [] J Z x.2 w') (fun x => [(1, pt T 0), (11, vB x.1)]) ?_ ?_
 ·rcases cnd h with ⟨j, h⟩ | ⟨j, h⟩
  ·refine WL.ren 7 z (congrArg vB j) (ug z z (wY (yf fo40_1 z) z (ug z z (wY (yl ty32 z z (e.cell 1 _ z)) z (ug z z ?_)))))
   have ab := r.i d z z
   obtain ⟨ar, ac, h⟩ := bnd h
   refine WL.call (vals := [(vl P Q S)]) kok27 z z (c_ref11_Light (A := fun _ => True) (Sl.all ab) ac) ?_
   rintro aH aI ⟨rfl, ad⟩
   obtain ⟨au, av, ax, L⟩ := adoptE J (fun k => 1) ad
   refine wY (Y.pick (b := true) z z) z ?_
   exact nl (At.join (σ := (Bool × Own)) (ar, au) ⟨some1 h, (su_ L z)⟩ (.cons z (.cons z .nil)))
  ·refine WL.ren 7 z (congrArg vB j) (WL.gS z z z z (WL.gS z z z z (WL.gS z z z z (wY (Y.pick (b := false) z z) z ?_))))
   exact nl (At.join (σ := (Bool × Own)) (false, J) ⟨some1 h, (sr_ _ _ _)⟩ (.cons z (.cons z .nil)))
 ·rintro ⟨ay, K⟩ ae ⟨rfl, a⟩
  replace h := aa
  try dsimp only at h a
  refine (show WL _ _ _ _ _ [(1, pt T 0), (11, vB ay)] _ from ?_)
  refine wY (ym z) z ?_
  obtain ⟨az, h, af⟩ := bnd h
  refine WL.cut 4 (σ := (Bool × Own)) (fun x w' => x.1 = az ∧ Stp [] K ae x.2 w') (fun x => [(16, vB x.1)]) ?_ ?_
  ·rcases cnd h with ⟨l, h⟩ | ⟨l, h⟩
   ·refine WL.ren 12 z (congrArg vB l) (ug z z (wY (yf fo40_10 z) z (ug z z ?_)))
    have ah := e.st a z
    refine wY (yL ty38 z z (ah.cells 10 (hl a0.Hist (vl D E F) (vl G H I)) z) z) z (ug z z ?_)
    have aj := (t.i d z z).i a z z
    have al := (C.i d z z).i a z z
    obtain ⟨aA, am, h⟩ := bnd h
    refine WL.call (vals := [ag (hl a0.Hist (vl D E F) (vl G H I))]) kok28 z z (c_ref08_Light (A := fun _ => True) (a0 := a0.Hist) (Sl.all aj) (Sl.all al) am) ?_
    rintro aJ aK ⟨rfl, an⟩
    obtain ⟨aC, aD, aE, M⟩ := adoptE K (fun k => 1) an
    refine wY (Y.pick (b := true) z z) z ?_
    exact nl (At.join (σ := (Bool × Own)) (aA, aC) ⟨some1 h, (su_ M z)⟩ (.cons z .nil))
   ·refine WL.ren 12 z (congrArg vB l) (WL.gS z z z z (WL.gS z z z z (WL.gS z z z z (wY (Y.pick (b := false) z z) z ?_))))
    exact nl (At.join (σ := (Bool × Own)) (false, K) ⟨some1 h, (sr_ _ _ _)⟩ (.cons z .nil))
  ·rintro ⟨aF, aG⟩ ao ⟨rfl, o⟩
   replace h := af
   try dsimp only at h o
   refine (show WL _ _ _ _ _ [(16, vB aF)] _ from ?_)
   refine wY (ya z) z (nl (th (rt ?_)))
   obtain rfl := some1 h
   have ap : Stp [] (Lg.O0 A) w aG ao := (tr_ (su_ d z) (tr_ (su_ a z) (su_ o z)))
   exact At.res (.inl z) z (.tmp z .nil) ⟨z, (se_ ap z z)⟩
theorem c_ref12_Some {A : Nat → Prop} {a0 : List api_Point} {v0 : Value} {a1 : Int} {w : World} (hs0 : Sl rep_api_Point w A v0 a0) {r0 : Bool} (h : ref12_Some a0 a1 = some r0) : Rets Tryz.prog 7 [v0, vi a1] w (fun v w' => v = vB r0 ∧ Ext w w') := by
 unfold ref12_Some at h
 refine Rets.enter Tryz.func7 z z ?_
 have t : Sl rep_api_Point w (imm (Lg.O0 A)) v0 a0 := (Sl.start hs0)
 refine (show WC _ _ _ _ [(0, v0), (1, vi a1)] _ from ?_)
 refine sq (rg (wY (ya z) z (nl (th (sq (sq (rg (wY (ym z) z (wY (Y.len ty22 z t) z ?_)))))))))
 refine wY (ym z) z (wY (Y.gtr_i z z) z (nl (th ?_)))
 rcases cnd h with ⟨d, h⟩ | ⟨d, h⟩
 ·refine WC.condT' z d (sq (rg (wY (ya z) z (nl (th (rt (At.thenR ?_)))))))
  obtain rfl := some1 h
  have S : Stp [] (Lg.O0 A) w (Lg.O0 A) w := (sr_ _ _ _)
  exact At.res (.inl z) z (.tmp z .nil) ⟨z, (se_ S z z)⟩
 ·refine WC.condF' z d (sk (th (sq (sq (rg (wY (ya z) z (nl (th (WC.block ?_)))))))))
  obtain ⟨I, h, C⟩ := flow1 h
  obtain ⟨J, h⟩ := loop_some h
  refine WC.joinB 0 (σ := Own) (fun x w' => I = .go () ∧ Stp [] (Lg.O0 A) w x w') (fun x => []) ?_ ?_
  ·refine WC.loop (σ := (Int × Own)) (fun x k w' => loopN k (ref12_Some_lp1 a0) x.1 = some I ∧ Stp [] (Lg.O0 A) w x.2 w') (fun x => [(0, v0), (5, vi x.1)]) (0, (Lg.O0 A)) J (.cons z (.cons z .nil)) ⟨h, (sr_ _ _ _)⟩ ?_
   rintro ⟨al, K⟩ J av ⟨h, a⟩
   obtain ⟨am, az, rfl, h, e⟩ := rnd1 h
   unfold ref12_Some_lp1 at h
   try dsimp only at h a
   refine (show WC _ _ _ _ [(0, v0), (5, vi al)] _ from ?_)
   refine sq (sq (rg (wY (ym z) z (wY (ym z) z ?_))))
   have D := t.i a z z
   refine wY (Y.len ty22 z D) z (wY (Y.lss_i z z) z (nl (th ?_)))
   rcases cnd h with ⟨j, h⟩ | ⟨j, h⟩
   ·refine WC.condT' z j (sk (th (sq (WC.block (sq (rg (wY (ym z) z (wY (ym z) z ?_))))))))
    obtain ⟨E, T, h⟩ := bnd h
    obtain ⟨aA, ar, au, ax, U, W, X, l, F, Z⟩ := Sl.at2 D T
    obtain ⟨_, _, rfl, rfl, ⟨_, _, rfl, ⟨L, rfl, aa⟩, ⟨_, _, rfl, rfl, ⟨_, _, rfl, rfl, ⟨_, _, rfl, rfl, ⟨_, _, rfl, rfl, ⟨_, _, rfl, rfl, ⟨_, _, rfl, rfl, ⟨_, _, rfl, rfl, ⟨_, _, rfl, rfl, ⟨_, _, rfl, ⟨_, _, rfl, rfl, ⟨_, _, rfl, rfl, ⟨_, _, rfl, ⟨_, _, rfl, rfl, ⟨M, rfl, ab⟩⟩, ⟨_, _, rfl, rfl, ⟨P, rfl, ac⟩⟩⟩⟩⟩, rfl⟩⟩⟩⟩⟩⟩⟩⟩⟩⟩⟩ := F
    replace l : CellsAt _ _ _ (cp E L M P) := l
    have G := CAt.imm l Z
    refine wY (Y.indexAddr ty22 ty40 z U z W X) z (wY (yL ty40 z z G.at_ z) z ?_)
    obtain ⟨aC, ad, h⟩ := bnd h
    refine WL.call (vals := [ag (cp E L M P)]) kok11 z z (c_ref12_Light (A := fun _ => True) (a0 := E) (Sl.all aa) (Sl.all ab) (Sl.all ac) ad) ?_
    rintro ay ae ⟨rfl, af⟩
    obtain ⟨Q, an, ao, r⟩ := adoptE K (fun k => 1) af
    refine wY (Y.not z) z (nl (th ?_))
    rcases cnd h with ⟨o, h⟩ | ⟨o, h⟩
    ·refine WC.condT' z o (sq (rg (wY (ya z) z (nl (th (rt (At.inBlockR (At.thenR (At.loopR ?_)))))))))
     have h := outr1 h e C
     refine At.joinBR (At.inBlockR (At.thenR ?_))
     obtain rfl := some1 h
     have ah : Stp [] (Lg.O0 A) w Q ae := (tr_ (su_ a z) (su_ r z))
     exact At.res (.inl z) z (.tmp z .nil) ⟨z, (se_ ah z z)⟩
    ·refine WC.condF' z o (sk (At.inBlock (th (rg (wY (ym z) z (wY (Y.add_i z z) z ?_))))))
     obtain ⟨ap, ai, h⟩ := lt1 h
     refine WL.yE (ya z) (congrArg vi ai.symm) z (nl ?_)
     exact At.round (ap, Q) am (Nat.lt_succ_self _) ⟨next1 h e, (tr_ (su_ a z) (su_ r z))⟩ (.cons z (.cons z .nil))
   ·refine WC.condF' z j (WC.exit (At.thenX (At.loopX ?_)))
    exact At.hitB (σ := Own) K ⟨brk1 h e, (su_ a z)⟩ .nil
  ·rintro aq aj ⟨rfl, H⟩
   replace h := flowK_go C
   refine (show At _ _ _ [] _ from ?_)
   refine At.inBlockHit (th (sq (rg (wY (ya z) z (nl (th (rt ?_)))))))
   obtain rfl := some1 h
   have ak : Stp [] (Lg.O0 A) w aq aj := (su_ H z)
   exact At.res (.inl z) z (.tmp z .nil) ⟨z, (se_ ak z z)⟩
theorem c_label_small {a0 : UInt8} {w : World} {r0 : Bool} (h : label_small a0 = some r0) : Rets Tryz.prog 107 [vb a0] w (fun v w' => v = vB r0 ∧ Ext w w') := by
 unfold label_small at h
 refine Rets.enter Tryz.func107 z z ?_
 refine (show WC _ _ _ _ [(0, vb a0)] _ from ?_)
 refine sq (rg (wY (ya z) z (nl (th (sq (rg (wY (ym z) z (wY (Y.geq_b (b := 97) z z) z (wY (ym z) z ?_)))))))))
 refine WL.cut 3 (σ := Unit) (fun _ w' => w = w') (fun _ => [(8, vB ((decide (97 ≤ a0)) && (decide (a0 ≤ 122))))]) ?_ ?_
 ·refine WL.part 5 z (fun a => ?_) (fun a => ?_)
  ·refine ug z z (wY (ym z) z (ug z z (wY (Y.leq_b (b := 122) z z) z (wY (Y.pick (b := true) z z) z (WL.ren (v' := vB ((decide (97 ≤ a0)) && (decide (a0 ≤ 122)))) 8 z (congrArg vB (andT a)) ?_)))))
   exact nl (At.join () z (.cons z .nil))
  ·refine WL.gS z z z z (WL.gS z z z z (wY (Y.pick (b := false) z z) z (WL.ren (v' := vB ((decide (97 ≤ a0)) && (decide (a0 ≤ 122)))) 8 z (congrArg vB (andF a)) ?_)))
   exact nl (At.join () z (.cons z .nil))
 ·rintro _ _ rfl
  refine (show WL _ _ _ _ _ [(8, vB ((decide (97 ≤ a0)) && (decide (a0 ≤ 122))))] _ from ?_)
  obtain ⟨j, d, h⟩ := lt1 h
  refine WL.yE (ya z) (congrArg vB d.symm) z (nl (th (rt ?_)))
  obtain rfl := some1 h
  have e : Stp [] (Lg.O0 (fun _ => False)) w (Lg.O0 (fun _ => False)) w := (sr_ _ _ _)
  exact At.res (.inl z) z (.tmp z .nil) ⟨z, (se_ e z z)⟩
theorem c_label_isName {a0 : List UInt8} {w : World} {r0 : Bool} (h : label_isName a0 = some r0) : Rets Tryz.prog 63 [vs a0] w (fun v w' => v = vB r0 ∧ Ext w w') := by
 unfold label_isName at h
 refine Rets.enter Tryz.func63 z z ?_
 refine (show WC _ _ _ _ [(0, vs a0)] _ from ?_)
 refine sq (rg (wY (ya z) z (nl (th (sq (sq (rg (wY (ym z) z (wY (Y.eql_s (b := []) z z) z ?_)))))))))
 refine wY (ym z) z ?_
 refine WL.cut 4 (σ := Unit) (fun _ w' => w = w') (fun _ => [(0, vs a0), (11, vB ((decide (a0 = [])) || (decide (32 < (a0.length : Int)))))]) ?_ ?_
 ·refine WL.part 7 z (fun C => ?_) (fun C => ?_)
  ·refine WL.gS z z z z (WL.gS z z z z (WL.gS z z z z (wY (Y.pick (b := true) z z) z (WL.ren (v' := vB ((decide (a0 = [])) || (decide (32 < (a0.length : Int))))) 11 z (congrArg vB (orT C)) ?_))))
   exact nl (At.join () z (.cons z (.cons z .nil)))
  ·refine ug z z (wY (ym z) z (ug z z (wY (Y.len_s ty9 z) z (ug z z (wY (Y.gtr_i z z) z (wY (Y.pick (b := false) z z) z (WL.ren (v' := vB ((decide (a0 = [])) || (decide (32 < (a0.length : Int))))) 11 z (congrArg vB (orF C)) ?_)))))))
   exact nl (At.join () z (.cons z (.cons z .nil)))
 ·rintro _ _ rfl
  refine (show WL _ _ _ _ _ [(0, vs a0), (11, vB ((decide (a0 = [])) || (decide (32 < (a0.length : Int)))))] _ from ?_)
  refine wY (ym z) z ?_
  obtain ⟨aC, h, ah⟩ := bnd h
  refine WL.cut 5 (σ := (Bool × Own)) (fun x w' => x.1 = aC ∧ Stp [] (Lg.O0 (fun _ => False)) w x.2 w') (fun x => [(0, vs a0), (17, vB x.1)]) ?_ ?_
  ·rcases cnd h with ⟨D, h⟩ | ⟨D, h⟩
   ·refine WL.ren 12 z (congrArg vB D) (WL.gS z z z z (WL.gS z z z z (WL.gS z z z z (WL.gS z z z z (wY (Y.pick (b := true) z z) z ?_)))))
    exact nl (At.join (σ := (Bool × Own)) (true, (Lg.O0 (fun _ => False))) ⟨some1 h, (sr_ _ _ _)⟩ (.cons z (.cons z .nil)))
   ·refine WL.ren 12 z (congrArg vB D) (ug z z (wY (ym z) z (ug z z ?_)))
    obtain ⟨aD, ai, h⟩ := bnd h
    refine wY (Y.index_s ty9 z z ai) z (ug z z ?_)
    obtain ⟨aE, aj, h⟩ := bnd h
    refine WL.call (vals := [vb aD]) kok107 z z (c_label_small aj) ?_
    rintro aP aQ ⟨rfl, ak⟩
    obtain ⟨aF, aG, aH, W⟩ := adoptE (Lg.O0 (fun _ => False)) (fun k => 1) ak
    refine ug z z (wY (Y.not z) z (wY (Y.pick (b := false) z z) z ?_))
    exact nl (At.join (σ := (Bool × Own)) ((!aE), aF) ⟨some1 h, (su_ W z)⟩ (.cons z (.cons z .nil)))
  ·rintro ⟨aI, ab⟩ al ⟨rfl, o⟩
   replace h := ah
   try dsimp only at h o
   refine (show WL _ _ _ _ _ [(0, vs a0), (17, vB aI)] _ from ?_)
   refine nl (th ?_)
   rcases cnd h with ⟨E, h⟩ | ⟨E, h⟩
   ·refine WC.condT' z E (sq (rg (wY (ya z) z (nl (th (rt (At.thenR ?_)))))))
    obtain rfl := some1 h
    have am : Stp [] (Lg.O0 (fun _ => False)) w ab al := (su_ o z)
    exact At.res (.inl z) z (.tmp z .nil) ⟨z, (se_ am z z)⟩
   ·refine WC.condF' z E (sk (th (sq (sq (rg (wY (ym z) z (WL.s2b (O := ab) ty9 ty51 ty5 z z ?_)))))))
    intro e Q S M T
    refine wY (Y.len ty51 z T) z (wY (ym z) z (nl (th (WC.block ?_))))
    obtain ⟨ac, h, U⟩ := flow1 h
    obtain ⟨ad, h⟩ := loop_some h
    refine WC.joinB 0 (σ := Own) (fun x w' => ac = .go () ∧ Stp [] Q S x w') (fun x => []) ?_ ?_
    ·refine WC.loop (σ := (Int × Own)) (fun x k w' => loopN k (label_isName_lp1 a0) x.1 = some ac ∧ Stp [] Q S x.2 w') (fun x => [(19, e), (20, vi (a0.length : Int)), (21, vi x.1)]) (0, Q) ad (.cons z (.cons z (.cons z .nil))) ⟨h, (sr_ _ _ _)⟩ ?_
     rintro ⟨j, ae⟩ ad aR ⟨h, l⟩
     obtain ⟨aJ, aU, rfl, h, F⟩ := rnd1 h
     unfold label_isName_lp1 at h
     try dsimp only at h l
     refine (show WC _ _ _ _ [(19, e), (20, vi (a0.length : Int)), (21, vi j)] _ from ?_)
     refine sq (rg (wY (Y.lss_i z z) z (nl (th (sq ?_)))))
     rcases cnd h with ⟨G, h⟩ | ⟨G, h⟩
     ·refine WC.condT' z G (sk (th (sq (WC.block (sq (rg ?_))))))
      obtain ⟨a, an, h⟩ := bnd h
      have ao := T.f l z
      obtain ⟨aW, aN, aO, aS, ap, aq, ar, H, X, au⟩ := Sl.at2 ao an
      obtain rfl := X
      replace H : CellsAt _ _ _ [vb a] := H
      have Z := CAt.frs H au
      refine wY (Y.indexAddr ty51 ty5 z ap z aq ar) z (wY (yl ty5 z z Z.at_) z (wY (ya z) z (nl (th (sq (rg (wY (ym z) z ?_)))))))
      obtain ⟨d, av, h⟩ := bnd h
      refine WL.call (vals := [vb a]) kok107 z z (c_label_small av) ?_
      rintro aT r ⟨rfl, ax⟩
      obtain ⟨af, aK, aL, P⟩ := adoptE ae (fun k => 1) ax
      refine wY (Y.not z) z (wY (ym z) z ?_)
      refine WL.cut 7 (σ := Unit) (fun _ w' => r = w') (fun _ => [(4, vb a), (19, e), (20, vi (a0.length : Int)), (21, vi j), (35, vB ((!d) && ((decide (a < 48)) || (decide (57 < a)))))]) ?_ ?_
      ·refine WL.part 28 z (fun I => ?_) (fun I => ?_)
       ·refine ug z z (wY (ym z) z (ug z z (wY (Y.lss_b (b := 48) z z) z (ug z z (wY (ym z) z ?_)))))
        refine WL.cut 3 (σ := Unit) (fun _ w' => r = w') (fun _ => [(4, vb a), (19, e), (20, vi (a0.length : Int)), (21, vi j), (28, vB true), (29, vb a), (30, vB (decide (a < 48))), (31, vB (decide (a < 48))), (34, vB ((decide (a < 48)) || (decide (57 < a))))]) ?_ ?_
        ·refine WL.part 31 z (fun t => ?_) (fun t => ?_)
         ·refine WL.gS z z z z (WL.gS z z z z (ug z z (wY (Y.pick (b := true) z z) z (WL.ren (v' := vB ((decide (a < 48)) || (decide (57 < a)))) 34 z (congrArg vB (orT t)) (WL.ren 31 z (congrArg vB t.symm) ?_)))))
          exact nl (At.join () z (.cons z (.cons z (.cons z (.cons z (.cons z (.cons z (.cons z (.cons z (.cons z .nil))))))))))
         ·refine ug z z (wY (ym z) z (ug z z (wY (Y.gtr_b (b := 57) z z) z (ug z z (wY (Y.pick (b := false) z z) z (WL.ren (v' := vB ((decide (a < 48)) || (decide (57 < a)))) 34 z (congrArg vB (orF t)) (WL.ren 31 z (congrArg vB t.symm) ?_)))))))
          exact nl (At.join () z (.cons z (.cons z (.cons z (.cons z (.cons z (.cons z (.cons z (.cons z (.cons z .nil))))))))))
        ·rintro _ _ rfl
         refine (show WL _ _ _ _ _ [(4, vb a), (19, e), (20, vi (a0.length : Int)), (21, vi j), (28, vB true), (29, vb a), (30, vB (decide (a < 48))), (31, vB (decide (a < 48))), (34, vB ((decide (a < 48)) || (decide (57 < a))))] _ from ?_)
         refine wY (Y.pick (b := true) z z) z (WL.ren (v' := vB ((!d) && ((decide (a < 48)) || (decide (57 < a))))) 35 z (congrArg vB (andT I)) ?_)
         exact nl (At.join () z (.cons z (.cons z (.cons z (.cons z (.cons z .nil))))))
       ·refine WL.gS z z z z (WL.gS z z z z (WL.gS z z z z (WL.gS z z z z (WL.gS z z z z (WL.gS z z z z (wY (Y.pick (b := false) z z) z (WL.ren (v' := vB ((!d) && ((decide (a < 48)) || (decide (57 < a))))) 35 z (congrArg vB (andF I)) ?_)))))))
        exact nl (At.join () z (.cons z (.cons z (.cons z (.cons z (.cons z .nil))))))
      ·rintro _ _ rfl
       refine (show WL _ _ _ _ _ [(4, vb a), (19, e), (20, vi (a0.length : Int)), (21, vi j), (35, vB ((!d) && ((decide (a < 48)) || (decide (57 < a)))))] _ from ?_)
       refine wY (ym z) z ?_
       refine WL.cut 3 (σ := Unit) (fun _ w' => r = w') (fun _ => [(4, vb a), (19, e), (20, vi (a0.length : Int)), (21, vi j), (39, vB (((!d) && ((decide (a < 48)) || (decide (57 < a)))) && (!decide (a = 95))))]) ?_ ?_
       ·refine WL.part 36 z (fun J => ?_) (fun J => ?_)
        ·refine ug z z (wY (ym z) z (ug z z (wY (Y.neq_b (b := 95) z z) z (wY (Y.pick (b := true) z z) z (WL.ren (v' := vB (((!d) && ((decide (a < 48)) || (decide (57 < a)))) && (!decide (a = 95)))) 39 z (congrArg vB (andT J)) ?_)))))
         exact nl (At.join () z (.cons z (.cons z (.cons z (.cons z (.cons z .nil))))))
        ·refine WL.gS z z z z (WL.gS z z z z (wY (Y.pick (b := false) z z) z (WL.ren (v' := vB (((!d) && ((decide (a < 48)) || (decide (57 < a)))) && (!decide (a = 95)))) 39 z (congrArg vB (andF J)) ?_)))
         exact nl (At.join () z (.cons z (.cons z (.cons z (.cons z (.cons z .nil))))))
       ·rintro _ _ rfl
        refine (show WL _ _ _ _ _ [(4, vb a), (19, e), (20, vi (a0.length : Int)), (21, vi j), (39, vB (((!d) && ((decide (a < 48)) || (decide (57 < a)))) && (!decide (a = 95))))] _ from ?_)
        refine wY (ym z) z ?_
        refine WL.cut 3 (σ := Unit) (fun _ w' => r = w') (fun _ => [(19, e), (20, vi (a0.length : Int)), (21, vi j), (43, vB ((((!d) && ((decide (a < 48)) || (decide (57 < a)))) && (!decide (a = 95))) && (!decide (a = 46))))]) ?_ ?_
        ·refine WL.part 40 z (fun K => ?_) (fun K => ?_)
         ·refine ug z z (wY (ym z) z (ug z z (wY (Y.neq_b (b := 46) z z) z (wY (Y.pick (b := true) z z) z (WL.ren (v' := vB ((((!d) && ((decide (a < 48)) || (decide (57 < a)))) && (!decide (a = 95))) && (!decide (a = 46)))) 43 z (congrArg vB (andT K)) ?_)))))
          exact nl (At.join () z (.cons z (.cons z (.cons z (.cons z .nil)))))
         ·refine WL.gS z z z z (WL.gS z z z z (wY (Y.pick (b := false) z z) z (WL.ren (v' := vB ((((!d) && ((decide (a < 48)) || (decide (57 < a)))) && (!decide (a = 95))) && (!decide (a = 46)))) 43 z (congrArg vB (andF K)) ?_)))
          exact nl (At.join () z (.cons z (.cons z (.cons z (.cons z .nil)))))
        ·rintro _ _ rfl
         refine (show WL _ _ _ _ _ [(19, e), (20, vi (a0.length : Int)), (21, vi j), (43, vB ((((!d) && ((decide (a < 48)) || (decide (57 < a)))) && (!decide (a = 95))) && (!decide (a = 46))))] _ from ?_)
         refine nl (th ?_)
         rcases cnd h with ⟨L, h⟩ | ⟨L, h⟩
         ·refine WC.condT' z L (sq (rg (wY (ya z) z (nl (th (rt (At.inBlockR (At.thenR (At.loopR ?_)))))))))
          have h := outr1 h F U
          refine At.joinBR (At.inBlockR (At.thenR ?_))
          obtain rfl := some1 h
          have ay : Stp [] (Lg.O0 (fun _ => False)) w af r := (tr_ (su_ o z) (tr_ (su_ M z) (tr_ (su_ l z) (su_ P z))))
          exact At.res (.inl z) z (.tmp z .nil) ⟨z, (se_ ay z z)⟩
         ·refine WC.condF' z L (sk (At.inBlock (th (rg (wY (Y.add_i z z) z (wY (ym z) z (nl ?_)))))))
          exact At.round (w64 (j + 1), af) aJ (Nat.lt_succ_self _) ⟨next1 h F, (tr_ (su_ l z) (su_ P z))⟩ (.cons z (.cons z (.cons z .nil)))
     ·refine WC.condF' z G (WC.exit (At.thenX (At.loopX ?_)))
      exact At.hitB (σ := Own) ae ⟨brk1 h F, (su_ l z)⟩ .nil
    ·rintro aM az ⟨rfl, aa⟩
     replace h := flowK_go U
     refine (show At _ _ _ [] _ from ?_)
     refine At.inBlockHit (th (sq (rg (wY (ya z) z (nl (th (rt ?_)))))))
     obtain rfl := some1 h
     have aA : Stp [] (Lg.O0 (fun _ => False)) w aM az := (tr_ (su_ o z) (tr_ (su_ M z) (su_ aa z)))
     exact At.res (.inl z) z (.tmp z .nil) ⟨z, (se_ aA z z)⟩
theorem c_label_isValue {a0 : List UInt8} {w : World} {r0 : Bool} (h : label_isValue a0 = some r0) : Rets Tryz.prog 64 [vs a0] w (fun v w' => v = vB r0 ∧ Ext w w') := by
 unfold label_isValue at h
 refine Rets.enter Tryz.func64 z z ?_
 refine (show WC _ _ _ _ [(0, vs a0)] _ from ?_)
 refine sq (rg (wY (ya z) z (nl (th (sq (sq (rg (wY (ym z) z (wY (Y.eql_s (b := []) z z) z ?_)))))))))
 refine wY (ym z) z ?_
 refine WL.cut 4 (σ := Unit) (fun _ w' => w = w') (fun _ => [(0, vs a0), (11, vB ((decide (a0 = [])) || (decide (32 < (a0.length : Int)))))]) ?_ ?_
 ·refine WL.part 7 z (fun j => ?_) (fun j => ?_)
  ·refine WL.gS z z z z (WL.gS z z z z (WL.gS z z z z (wY (Y.pick (b := true) z z) z (WL.ren (v' := vB ((decide (a0 = [])) || (decide (32 < (a0.length : Int))))) 11 z (congrArg vB (orT j)) ?_))))
   exact nl (At.join () z (.cons z (.cons z .nil)))
  ·refine ug z z (wY (ym z) z (ug z z (wY (Y.len_s ty9 z) z (ug z z (wY (Y.gtr_i z z) z (wY (Y.pick (b := false) z z) z (WL.ren (v' := vB ((decide (a0 = [])) || (decide (32 < (a0.length : Int))))) 11 z (congrArg vB (orF j)) ?_)))))))
   exact nl (At.join () z (.cons z (.cons z .nil)))
 ·rintro _ _ rfl
  refine (show WL _ _ _ _ _ [(0, vs a0), (11, vB ((decide (a0 = [])) || (decide (32 < (a0.length : Int)))))] _ from ?_)
  refine nl (th ?_)
  rcases cnd h with ⟨l, h⟩ | ⟨l, h⟩
  ·refine WC.condT' z l (sq (rg (wY (ya z) z (nl (th (rt (At.thenR ?_)))))))
   obtain rfl := some1 h
   have T : Stp [] (Lg.O0 (fun _ => False)) w (Lg.O0 (fun _ => False)) w := (sr_ _ _ _)
   exact At.res (.inl z) z (.tmp z .nil) ⟨z, (se_ T z z)⟩
  ·refine WC.condF' z l (sk (th (sq (sq (rg (wY (ym z) z (WL.s2b (O := (Lg.O0 (fun _ => False))) ty9 ty51 ty5 z z ?_)))))))
   intro d P a H I
   refine wY (Y.len ty51 z I) z (wY (ym z) z (nl (th (WC.block ?_))))
   obtain ⟨Q, h, J⟩ := flow1 h
   obtain ⟨S, h⟩ := loop_some h
   refine WC.joinB 0 (σ := Unit) (fun x w' => Q = .go () ∧ a = w') (fun x => []) ?_ ?_
   ·refine WC.loop (σ := Int) (fun x k w' => loopN k (label_isValue_lp1 a0) x = some Q ∧ a = w') (fun x => [(13, d), (14, vi (a0.length : Int)), (15, vi x)]) 0 S (.cons z (.cons z (.cons z .nil))) ⟨h, z⟩ ?_
    rintro e S _ ⟨h, rfl⟩
    obtain ⟨ak, aA, rfl, h, o⟩ := rnd1 h
    unfold label_isValue_lp1 at h
    try dsimp only at h
    refine (show WC _ _ _ _ [(13, d), (14, vi (a0.length : Int)), (15, vi e)] _ from ?_)
    refine sq (rg (wY (Y.lss_i z z) z (nl (th (sq ?_)))))
    rcases cnd h with ⟨r, h⟩ | ⟨r, h⟩
    ·refine WC.condT' z r (sk (th (sq (WC.block (sq (rg ?_))))))
     obtain ⟨al, U, h⟩ := bnd h
     obtain ⟨aC, ax, ay, az, W, X, Z, t, L, aa⟩ := Sl.at2 I U
     obtain rfl := L
     replace t : CellsAt _ _ _ [vb al] := t
     have M := CAt.frs t aa
     refine wY (Y.indexAddr ty51 ty5 z W z X Z) z (wY (yl ty5 z z M.at_) z (wY (ya z) z (nl (th ?_))))
     obtain ⟨am, h, K⟩ := flow1 h
     refine WC.join (σ := Unit) (fun x w' => am = .go () ∧ a = w') (fun x => [(13, d), (14, vi (a0.length : Int)), (15, vi e)]) ?_ ?_
     ·refine WC.block (sq ?_)
      obtain ⟨an, h, ab⟩ := bnd h
      refine WC.join (σ := Bool) (fun x w' => x = an ∧ a = w') (fun x => [(13, d), (14, vi (a0.length : Int)), (15, vi e), (19, vB x)]) ?_ ?_
      ·refine sq (rg (wY (ym z) z (wY (Y.lss_b (b := 33) z z) z ?_)))
       obtain ⟨ao, ac, h⟩ := lt1 h
       refine WL.yE (ya z) (congrArg vB ac.symm) z (nl (th ?_))
       rcases cnd h with ⟨C, h⟩ | ⟨C, h⟩
       ·refine WC.condT' z C (sk ?_)
        exact At.join (σ := Bool) ao ⟨some1 h, z⟩ (.cons z (.cons z (.cons z (.cons z .nil))))
       ·refine WC.condF' z C (sq (rg (wY (ym z) z (wY (Y.gtr_b (b := 126) z z) z ?_))))
        obtain ⟨ap, ad, h⟩ := lt1 h
        refine WL.yE (ya z) (congrArg vB ad.symm) z (nl (th ?_))
        rcases cnd h with ⟨D, h⟩ | ⟨D, h⟩
        ·refine WC.condT' z D (sk ?_)
         exact At.join (σ := Bool) ap ⟨some1 h, z⟩ (.cons z (.cons z (.cons z (.cons z .nil))))
        ·refine WC.condF' z D (sq (rg (wY (ym z) z (wY (Y.eql_b (b := 61) z z) z ?_))))
         obtain ⟨aq, ae, h⟩ := lt1 h
         refine WL.yE (ya z) (congrArg vB ae.symm) z (nl (th ?_))
         rcases cnd h with ⟨E, h⟩ | ⟨E, h⟩
         ·refine WC.condT' z E (sk ?_)
          exact At.join (σ := Bool) aq ⟨some1 h, z⟩ (.cons z (.cons z (.cons z (.cons z .nil))))
         ·refine WC.condF' z E (sq (rg (wY (ym z) z (wY (Y.eql_b (b := 59) z z) z ?_))))
          obtain ⟨ar, af, h⟩ := lt1 h
          refine WL.yE (ya z) (congrArg vB af.symm) z (nl (th ?_))
          rcases cnd h with ⟨F, h⟩ | ⟨F, h⟩
          ·refine WC.condT' z F (sk ?_)
           exact At.join (σ := Bool) ar ⟨some1 h, z⟩ (.cons z (.cons z (.cons z (.cons z .nil))))
          ·refine WC.condF' z F (rg (wY (ym z) z (wY (Y.eql_b (b := 44) z z) z ?_)))
           obtain ⟨au, ah, h⟩ := lt1 h
           refine WL.yE (ya z) (congrArg vB ah.symm) z (nl ?_)
           exact At.join (σ := Bool) au ⟨some1 h, z⟩ (.cons z (.cons z (.cons z (.cons z .nil))))
      ·rintro av _ ⟨rfl, rfl⟩
       replace h := ab
       try dsimp only at h
       refine (show At _ _ _ [(13, d), (14, vi (a0.length : Int)), (15, vi e), (19, vB av)] _ from ?_)
       refine th ?_
       rcases cnd h with ⟨G, h⟩ | ⟨G, h⟩
       ·refine WC.condT' z G (sq (rg (wY (ya z) z (nl (th (rt (At.inBlockR ?_)))))))
        have h := outs1 h K
        refine At.joinR (At.inBlockR (At.thenR (At.loopR ?_)))
        have h := outr1 h o J
        refine At.joinBR (At.inBlockR (At.thenR ?_))
        obtain rfl := some1 h
        have ai : Stp [] (Lg.O0 (fun _ => False)) w P a := (su_ H z)
        exact At.res (.inl z) z (.tmp z .nil) ⟨z, (se_ ai z z)⟩
       ·refine WC.condF' z G (sk (At.inBlock ?_))
        exact At.join (σ := Unit) () ⟨go2 h, z⟩ (.cons z (.cons z (.cons z .nil)))
     ·rintro _ _ ⟨rfl, rfl⟩
      replace h := flowK_go K
      refine (show At _ _ _ [(13, d), (14, vi (a0.length : Int)), (15, vi e)] _ from ?_)
      refine At.inBlock (th (rg (wY (Y.add_i z z) z (wY (ym z) z (nl ?_)))))
      exact At.round (w64 (e + 1)) ak (Nat.lt_succ_self _) ⟨next1 h o, z⟩ (.cons z (.cons z (.cons z .nil)))
    ·refine WC.condF' z r (WC.exit (At.thenX (At.loopX ?_)))
     exact At.hitB (σ := Unit) () ⟨brk1 h o, z⟩ .nil
   ·rintro _ _ ⟨rfl, rfl⟩
    replace h := flowK_go J
    refine (show At _ _ _ [] _ from ?_)
    refine At.inBlockHit (th (sq (rg (wY (ya z) z (nl (th (rt ?_)))))))
    obtain rfl := some1 h
    have aj : Stp [] (Lg.O0 (fun _ => False)) w P a := (su_ H z)
    exact At.res (.inl z) z (.tmp z .nil) ⟨z, (se_ aj z z)⟩
theorem c_label_Check {A : Nat → Prop} {a0 : List UInt8} {a1 : List api_Pair} {v1 : Value} {w : World} (hs1 : Sl rep_api_Pair w A v1 a1) {r0 : Int} (h : label_Check a0 a1 = some r0) : Rets Tryz.prog 32 [vs a0, v1] w (fun v w' => v = vi r0 ∧ Ext w w') := by
 unfold label_Check at h
 refine Rets.enter Tryz.func32 z z ?_
 have a4 : Sl rep_api_Pair w (imm (Lg.O0 A)) v1 a1 := (Sl.start hs1)
 refine (show WC _ _ _ _ [(0, vs a0), (1, v1)] _ from ?_)
 refine sq (rg (wY (ya z) z (nl (th (sq (sq (rg (wY (ym z) z ?_))))))))
 obtain ⟨ck, a5, h⟩ := bnd h
 refine WL.call (vals := [vs a0]) kok63 z z (c_label_isName a5) ?_
 rintro b9 K ⟨rfl, a6⟩
 obtain ⟨U, bK, bL, j⟩ := adoptE (Lg.O0 A) (fun k => 1) a6
 refine wY (Y.not z) z (nl (th ?_))
 rcases cnd h with ⟨Z, h⟩ | ⟨Z, h⟩
 ·refine WC.condT' z Z (sq (rg (wY (ya z) z (nl (th (rt (At.thenR ?_)))))))
  obtain rfl := some1 h
  have a7 : Stp [] (Lg.O0 A) w U K := (su_ j z)
  exact At.res (.inl z) z (.tmp z .nil) ⟨z, (se_ a7 z z)⟩
 ·refine WC.condF' z Z (sk (th (sq (sq (rg (wY (ym z) z ?_))))))
  have aa := a4.i j z z
  refine wY (Y.len ty32 z aa) z (wY (Y.gtr_i z z) z (nl (th ?_)))
  rcases cnd h with ⟨ab, h⟩ | ⟨ab, h⟩
  ·refine WC.condT' z ab (sq (rg (wY (ya z) z (nl (th (rt (At.thenR ?_)))))))
   obtain rfl := some1 h
   have a8 : Stp [] (Lg.O0 A) w U K := (su_ j z)
   exact At.res (.inl z) z (.tmp z .nil) ⟨z, (se_ a8 z z)⟩
  ·refine WC.condF' z ab (sk (th (sq (sq (rg (wY (ym z) z (wY (Y.len ty32 z aa) z (wY (ym z) z (nl ?_)))))))))
   refine th (WC.block ?_)
   obtain ⟨aY, h, ac⟩ := flow1 h
   obtain ⟨aZ, h⟩ := loop_some h
   refine WC.joinB 0 (σ := Own) (fun x w' => aY = .go () ∧ Stp [11] U K x w') (fun x => []) ?_ ?_
   ·refine WC.loop (σ := (Int × Own)) (fun x k w' => loopN k (label_Check_lp1 a1) x.1 = some aY ∧ Stp [11] U K x.2 w') (fun x => [(1, v1), (13, v1), (14, vi (a1.length : Int)), (15, vi x.1)]) (0, U) aZ (.cons z (.cons z (.cons z (.cons z .nil)))) ⟨h, (sr_ _ _ _)⟩ ?_
    rintro ⟨E, a2⟩ aZ ca ⟨h, l⟩
    obtain ⟨bM, cl, rfl, h, L⟩ := rnd1 h
    unfold label_Check_lp1 at h
    try dsimp only at h l
    refine (show WC _ _ _ _ [(1, v1), (13, v1), (14, vi (a1.length : Int)), (15, vi E)] _ from ?_)
    refine sq (rg (wY (Y.lss_i z z) z (nl (th (sq ?_)))))
    rcases cnd h with ⟨ad, h⟩ | ⟨ad, h⟩
    ·refine WC.condT' z ad (sk (th (sq (WC.block (sq (rg (wY (ym z) z ?_)))))))
     obtain ⟨t, a9, h⟩ := bnd h
     have am := aa.i l z z
     obtain ⟨cm, b2, b3, cb, ba, bb, bc, ae, az, bd⟩ := Sl.at2 am a9
     obtain ⟨_, _, rfl, rfl, rfl⟩ := az
     replace ae : CellsAt _ _ _ [vs t.Key, vs t.Val] := ae
     have aA := CAt.imm ae bd
     refine wY (Y.indexAddr ty32 ty67 z ba z bb bc) z (wY (yL ty67 z z aA.at_ z) z (WL.alloc (O := a2) 11 [vs [], vs []] ty67 z z ?_))
     intro d bO cc C bf
     refine wY (ya z) z (WL.store (v := ag [vs t.Key, vs t.Val]) (cells' := [vs t.Key, vs t.Val]) ty67 z z bf z (le_ z) z z ?_)
     intro cd D af
     refine nl (th (sq (sq (rg (wY (yf fo67_0 z) z (wY (yl ty9 z z (af.cell 0 _ z)) z ?_))))))
     obtain ⟨cn, bg, h⟩ := bnd h
     refine WL.call (vals := [vs t.Key]) kok63 z z (c_label_isName bg) ?_
     rintro ce bh ⟨rfl, bi⟩
     obtain ⟨an, bP, bQ, o⟩ := adoptE bO (fun k => 1) bi
     refine wY (Y.not z) z (wY (ym z) z ?_)
     obtain ⟨bR, h, bj⟩ := bnd h
     refine WL.cut 5 (σ := (Bool × Own)) (fun x w' => x.1 = bR ∧ Stp [] an bh x.2 w') (fun x => [(1, v1), (5, vi E), (6, pt d 0), (13, v1), (14, vi (a1.length : Int)), (15, vi E), (29, vB x.1)]) ?_ ?_
     ·rcases cnd h with ⟨ah, h⟩ | ⟨ah, h⟩
      ·refine WL.ren 24 z (congrArg vB ah) (WL.gS z z z z (WL.gS z z z z (WL.gS z z z z (WL.gS z z z z (wY (Y.pick (b := true) z z) z ?_)))))
       exact nl (At.join (σ := (Bool × Own)) (true, an) ⟨some1 h, (sr_ _ _ _)⟩ (.cons z (.cons z (.cons z (.cons z (.cons z (.cons z (.cons z .nil))))))))
      ·refine WL.ren 24 z (congrArg vB ah) (ug z z (wY (yf fo67_1 z) z (ug z z ?_)))
       have bk := af.st o z
       refine wY (yl ty9 z z (bk.cell 1 _ z)) z (ug z z ?_)
       obtain ⟨bS, bl, h⟩ := bnd h
       refine WL.call (vals := [vs t.Val]) kok64 z z (c_label_isValue bl) ?_
       rintro cf cg ⟨rfl, bm⟩
       obtain ⟨bT, bU, bW, aC⟩ := adoptE an (fun k => 1) bm
       refine ug z z (wY (Y.not z) z (wY (Y.pick (b := false) z z) z ?_))
       exact nl (At.join (σ := (Bool × Own)) ((!bS), bT) ⟨some1 h, (su_ aC z)⟩ (.cons z (.cons z (.cons z (.cons z (.cons z (.cons z (.cons z .nil))))))))
     ·rintro ⟨bX, I⟩ F ⟨rfl, r⟩
      replace h := bj
      try dsimp only at h r
      refine (show WL _ _ _ _ _ [(1, v1), (5, vi E), (6, pt d 0), (13, v1), (14, vi (a1.length : Int)), (15, vi E), (29, vB bX)] _ from ?_)
      refine nl (th ?_)
      rcases cnd h with ⟨ai, h⟩ | ⟨ai, h⟩
      ·refine WC.condT' z ai (sq (rg (wY (ya z) z (nl (th (rt (At.thenR (At.inBlockR (At.thenR ?_)))))))))
       refine At.loopR ?_
       have h := outr1 h L ac
       refine At.joinBR (At.inBlockR (At.thenR ?_))
       obtain rfl := some1 h
       have bn : Stp [11] (Lg.O0 A) w I F := (tr_ (su_ j z) (tr_ (su_ l z) (tr_ (su_ C z) (tr_ (su_ D z) (tr_ (su_ o z) (su_ r z))))))
       exact At.res (.inl z) z (.tmp z .nil) ⟨z, (se_ bn z z)⟩
      ·refine WC.condF' z ai (sk (th (sq (rg (wY (ym z) z (wY (ym z) z ?_))))))
       obtain ⟨ao, bo, h⟩ := bnd h
       have bs := (((am.i C z z).i D z z).i o z z).i r z z
       obtain ⟨J, bt, ap⟩ := Sl.slice (ρ := [(30, v1), (31, vi E)]) (x := (.tmp 30)) (lo := none) (hi := (some (.tmp 31))) ty32 ty67 rfl rfl rfl bs bo
       refine wY (Y.sub (.cons z (.cons z .nil)) (bt _ _)) z (wY (Y.mkfunc (fv := []) (cv := [pt d 0]) z z) z ?_)
       obtain ⟨bu, h, aD⟩ := bnd h
       refine WL.callJ (vals := [J, Value.func (.func 66) (List.toArray []) (List.toArray [pt d 0])]) (σ := (Bool × Own)) (fun x w' => x.1 = bu ∧ Stp [] I F x.2 w') (fun x => vB x.1) kok65 z z ?_ ?_
       ·refine Rets.enter Tryz.func65 z z ?_
        refine (show WC _ _ _ _ [(0, J), (1, Value.func (.func 66) (List.toArray []) (List.toArray [pt d 0]))] _ from ?_)
        refine sq (rg (wY (ya z) z (nl (th (sq (rg (wY (ym z) z (wY (ym z) z ?_))))))))
        obtain ⟨bw, h, aE⟩ := bnd h
        refine WL.callJ (vals := [J, Value.func (.func 66) (List.toArray []) (List.toArray [pt d 0])]) (σ := (Int × Own)) (fun x w' => x.1 = bw ∧ Stp [] I F x.2 w') (fun x => vi x.1) kok108 z z ?_ ?_
        ·refine Rets.enter Tryz.func108 z z ?_
         refine (show WC _ _ _ _ [(0, J), (1, Value.func (.func 66) (List.toArray []) (List.toArray [pt d 0]))] _ from ?_)
         refine sq (rg (wY (ya z) z (nl (th (sq (sq (rg (wY (ym z) z (wY (Y.len ty32 z ap) z ?_)))))))))
         refine wY (ym z) z (nl (th (WC.block ?_)))
         obtain ⟨aq, h, al⟩ := flow1 h
         obtain ⟨ar, h⟩ := loop_some h
         refine WC.joinB 0 (σ := Own) (fun x w' => aq = .go () ∧ Stp [] I F x w') (fun x => []) ?_ ?_
         ·refine WC.loop (σ := (Int × Own)) (fun x k w' => loopN k (label_Check_lp2 t ao) x.1 = some aq ∧ Stp [] I F x.2 w') (fun x => [(0, J), (1, Value.func (.func 66) (List.toArray []) (List.toArray [pt d 0])), (7, vi (ao.length : Int)), (8, vi x.1)]) (0, I) ar (.cons z (.cons z (.cons z (.cons z .nil)))) ⟨h, (sr_ _ _ _)⟩ ?_
          rintro ⟨aj, ak⟩ ar aF ⟨h, a⟩
          obtain ⟨bx, ch, rfl, h, M⟩ := rnd1 h
          unfold label_Check_lp2 at h
          try dsimp only at h a
          refine (show WC _ _ _ _ [(0, J), (1, Value.func (.func 66) (List.toArray []) (List.toArray [pt d 0])), (7, vi (ao.length : Int)), (8, vi aj)] _ from ?_)
          refine sq (rg (wY (Y.lss_i z z) z (nl (th (sq ?_)))))
          rcases cnd h with ⟨P, h⟩ | ⟨P, h⟩
          ·refine WC.condT' z P (sk (th (sq (WC.block (sq (rg (wY (ym z) z (wY (ya z) z (nl ?_)))))))))
           refine th (sq (rg (wY (ym z) z (wY (ym z) z (wY (ym z) z ?_)))))
           obtain ⟨e, aG, h⟩ := bnd h
           have aH := ap.i a z z
           obtain ⟨ci, bY, bZ, b4, aI, aJ, aK, Q, au, aL⟩ := Sl.at2 aH aG
           obtain ⟨_, _, rfl, rfl, rfl⟩ := au
           replace Q : CellsAt _ _ _ [vs e.Key, vs e.Val] := Q
           have av := CAt.imm Q aL
           refine wY (Y.indexAddr ty32 ty67 z aI z aJ aK) z (wY (yL ty67 z z av.at_ z) z ?_)
           obtain ⟨bz, h, aM⟩ := bnd h
           refine WL.callV (fv := []) (cv := [pt d 0]) (vals := [ag [vs e.Key, vs e.Val]]) (σ := (Bool × Own)) (fun x w' => x.1 = bz ∧ Stp [] ak aF x.2 w') (fun x => vB x.1) kok66 z z z ?_ ?_
           ·refine Rets.enter Tryz.func66 z z ?_
            refine (show WC _ _ _ _ [(0, ag [vs e.Key, vs e.Val]), (1, pt d 0)] _ from ?_)
            refine sq (rg (WL.box (O := ak) 12 [vs e.Key, vs e.Val] z z z ?_))
            intro cj bA b5 W aN
            refine wY (ya z) z (nl (th (sq (rg (wY (yf fo67_0 z) z (wY (yl ty9 z z (aN.cell 0 _ z)) z (wY (yf fo67_0 z) z ?_)))))))
            have aR := (((af.st o z).st r z).st a z).st W z
            refine wY (yl ty9 z z (aR.cell 0 _ z)) z (wY (Y.eql_s z z) z ?_)
            obtain ⟨bB, aS, h⟩ := lt1 h
            refine WL.yE (ya z) (congrArg vB aS.symm) z (nl (th (rt ?_)))
            exact At.res (.inl z) z (.tmp z .nil) ⟨(bB, bA), ⟨some1 h, (su_ W z)⟩, z⟩
           ·rintro ⟨bC, ax⟩ b6 ⟨rfl, G⟩
            replace h := aM
            try dsimp only at h G
            refine (show WL _ _ _ _ _ ((16, vB bC) :: _) _ from ?_)
            refine nl (th ?_)
            rcases cnd h with ⟨S, h⟩ | ⟨S, h⟩
            ·refine WC.condT' z S (sq (rg (wY (ym z) z (wY (ya z) z (nl (th (rt (At.inBlockR (At.thenR ?_)))))))))
             refine At.loopR ?_
             have h := outr1 h M al
             refine At.joinBR (At.inBlockR (At.thenR ?_))
             exact At.res (.inl z) z (.tmp z .nil) ⟨(aj, ax), ⟨some1 h, (tr_ (su_ a z) (su_ G z))⟩, z⟩
            ·refine WC.condF' z S (sk (At.inBlock (th (rg (wY (Y.add_i z z) z (wY (ym z) z (nl ?_)))))))
             exact At.round (w64 (aj + 1), ax) bx (Nat.lt_succ_self _) ⟨next1 h M, (tr_ (su_ a z) (su_ G z))⟩ (.cons z (.cons z (.cons z (.cons z .nil))))
          ·refine WC.condF' z P (WC.exit (At.thenX (At.loopX ?_)))
           exact At.hitB (σ := Own) ak ⟨brk1 h M, (su_ a z)⟩ .nil
         ·rintro bD b7 ⟨rfl, ay⟩
          replace h := flowK_go al
          refine (show At _ _ _ [] _ from ?_)
          refine At.inBlockHit (th (sq (rg (wY (ya z) z (nl (th (rt ?_)))))))
          exact At.res (.inl z) z (.tmp z .nil) ⟨((-1), bD), ⟨some1 h, (su_ ay z)⟩, z⟩
        ·rintro ⟨bE, bG⟩ b8 ⟨rfl, X⟩
         replace h := aE
         try dsimp only at h X
         refine (show WL _ _ _ _ _ ((7, vi bE) :: _) _ from ?_)
         refine wY (Y.geq_i z z) z ?_
         obtain ⟨bH, aT, h⟩ := lt1 h
         refine WL.yE (ya z) (congrArg vB aT.symm) z (nl (th (rt ?_)))
         exact At.res (.inl z) z (.tmp z .nil) ⟨(bH, bG), ⟨some1 h, (su_ X z)⟩, z⟩
       ·rintro ⟨b0, a3⟩ bI ⟨rfl, H⟩
        replace h := aD
        try dsimp only at h H
        refine (show WL _ _ _ _ _ ((34, vB b0) :: _) _ from ?_)
        refine nl (th ?_)
        rcases cnd h with ⟨T, h⟩ | ⟨T, h⟩
        ·refine WC.condT' z T (sq (rg (wY (ya z) z (nl (th (rt (At.inBlockR (At.thenR (At.loopR ?_)))))))))
         have h := outr1 h L ac
         refine At.joinBR (At.inBlockR (At.thenR ?_))
         obtain rfl := some1 h
         have aU : Stp [11] (Lg.O0 A) w a3 bI := (tr_ (su_ j z) (tr_ (su_ l z) (tr_ (su_ C z) (tr_ (su_ D z) (tr_ (su_ o z) (tr_ (su_ r z) (su_ H z)))))))
         exact At.res (.inl z) z (.tmp z .nil) ⟨z, (se_ aU z z)⟩
        ·refine WC.condF' z T (sk (At.inBlock (th (rg (wY (Y.add_i z z) z (wY (ym z) z (nl ?_)))))))
         exact At.round (w64 (E + 1), a3) bM (Nat.lt_succ_self _) ⟨next1 h L, (tr_ (su_ l z) (tr_ (su_ C z) (tr_ (su_ D z) (tr_ (su_ o z) (tr_ (su_ r z) (su_ H z))))))⟩ (.cons z (.cons z (.cons z (.cons z .nil))))
    ·refine WC.condF' z ad (WC.exit (At.thenX (At.loopX ?_)))
     exact At.hitB (σ := Own) a2 ⟨brk1 h L, (su_ l z)⟩ .nil
   ·rintro b1 bJ ⟨rfl, aW⟩
    replace h := flowK_go ac
    refine (show At _ _ _ [] _ from ?_)
    refine At.inBlockHit (th (sq (rg (wY (ya z) z (nl (th (rt ?_)))))))
    obtain rfl := some1 h
    have aX : Stp [11] (Lg.O0 A) w b1 bJ := (tr_ (su_ j z) (su_ aW z))
    exact At.res (.inl z) z (.tmp z .nil) ⟨z, (se_ aX z z)⟩
theorem c_point_kinds {A : Nat → Prop} {v0_1 : Value} {v0_13 : Value} {v0_15 : Value} {a0 : api_Point} {w : World} (hs0_1 : Sl rep_api_Pair w A v0_1 a0.Attrs) (hs0_13 : Sl Rep.u w A v0_13 a0.Hist.Pos.Counts) (hs0_15 : Sl Rep.u w A v0_15 a0.Hist.Neg.Counts) {r0 : Bool} (h : point_kinds a0 = some r0) : Rets Tryz.prog 33 [ag (cp a0 v0_1 v0_13 v0_15)] w (fun v w' => v = vB r0 ∧ Ext w w') := by
 unfold point_kinds at h
 refine Rets.enter Tryz.func33 z z ?_
 have F : Sl rep_api_Pair w (imm (Lg.O0 A)) v0_1 a0.Attrs := (Sl.start hs0_1)
 have G : Sl Rep.u w (imm (Lg.O0 A)) v0_13 a0.Hist.Pos.Counts := (Sl.start hs0_13)
 have H : Sl Rep.u w (imm (Lg.O0 A)) v0_15 a0.Hist.Neg.Counts := (Sl.start hs0_15)
 refine (show WC _ _ _ _ [(0, ag (cp a0 v0_1 v0_13 v0_15))] _ from ?_)
 refine sq (rg ?_)
 have I := h
 obtain ⟨ab, ac, ad, rfl⟩ := F.shape
 have h := I
 have J := h
 obtain ⟨ae, af, ah, rfl⟩ := G.shape
 have h := J
 have K := h
 obtain ⟨ai, aj, ak, rfl⟩ := H.shape
 have h := K
 refine WL.box (O := (Lg.O0 A)) 11 (cp a0 (vl ab ac ad) (vl ae af ah) (vl ai aj ak)) z z z ?_
 intro E D a d e
 refine wY (ya z) z (nl (th (sq (sq (rg (wY (yf fo40_2 z) z (wY (yl ty3 z z (e.cell 2 _ z)) z (nl (th ?_)))))))))
 refine WC.block (sq (rg (wY (Y.eql_i z z) z ?_)))
 obtain ⟨t31, L, h⟩ := lt1 h
 refine WL.yE (ya z) (congrArg vB L.symm) z (nl (th ?_))
 rcases cnd h with ⟨j, h⟩ | ⟨j, h⟩
 ·refine WC.condT' z j (sq (rg (wY (yf fo40_3 z) z (wY (yl ty3 z z (e.cell 3 _ z)) z (wY (Y.eql_i z z) z ?_)))))
  obtain ⟨ar, M, h⟩ := lt1 h
  refine WL.yE (ya z) (congrArg vB M.symm) z (nl (th (rt (At.inBlockR (At.thenR ?_)))))
  obtain rfl := some1 h
  have P : Stp [] (Lg.O0 A) w D a := (su_ d z)
  exact At.res (.inl z) z (.tmp z .nil) ⟨z, (se_ P z z)⟩
 ·refine WC.condF' z j (sq ?_)
  obtain ⟨al, h, Q⟩ := bnd h
  refine WC.join (σ := Bool) (fun x w' => x = al ∧ a = w') (fun x => [(1, pt E 0), (10, vB x)]) ?_ ?_
  ·refine sq (rg (wY (Y.eql_i z z) z ?_))
   obtain ⟨am, S, h⟩ := lt1 h
   refine WL.yE (ya z) (congrArg vB S.symm) z (nl (th ?_))
   rcases cnd h with ⟨l, h⟩ | ⟨l, h⟩
   ·refine WC.condT' z l (sk ?_)
    exact At.join (σ := Bool) am ⟨some1 h, z⟩ (.cons z (.cons z .nil))
   ·refine WC.condF' z l (sq (rg (wY (Y.eql_i z z) z ?_)))
    obtain ⟨an, T, h⟩ := lt1 h
    refine WL.yE (ya z) (congrArg vB T.symm) z (nl (th ?_))
    rcases cnd h with ⟨o, h⟩ | ⟨o, h⟩
    ·refine WC.condT' z o (sk ?_)
     exact At.join (σ := Bool) an ⟨some1 h, z⟩ (.cons z (.cons z .nil))
    ·refine WC.condF' z o (sq (rg (wY (Y.eql_i z z) z ?_)))
     obtain ⟨ao, U, h⟩ := lt1 h
     refine WL.yE (ya z) (congrArg vB U.symm) z (nl (th ?_))
     rcases cnd h with ⟨r, h⟩ | ⟨r, h⟩
     ·refine WC.condT' z r (sk ?_)
      exact At.join (σ := Bool) ao ⟨some1 h, z⟩ (.cons z (.cons z .nil))
     ·refine WC.condF' z r (rg (wY (Y.eql_i z z) z ?_))
      obtain ⟨ap, W, h⟩ := lt1 h
      refine WL.yE (ya z) (congrArg vB W.symm) z (nl ?_)
      exact At.join (σ := Bool) ap ⟨some1 h, z⟩ (.cons z (.cons z .nil))
  ·rintro aq _ ⟨rfl, rfl⟩
   replace h := Q
   try dsimp only at h
   refine (show At _ _ _ [(1, pt E 0), (10, vB aq)] _ from ?_)
   refine th ?_
   rcases cnd h with ⟨t, h⟩ | ⟨t, h⟩
   ·refine WC.condT' z t (sq (rg (wY (yf fo40_3 z) z (wY (yl ty3 z z (e.cell 3 _ z)) z (wY (Y.eql_i z z) z (wY (ym z) z ?_))))))
    refine WL.cut 4 (σ := Unit) (fun _ w' => a = w') (fun _ => [(22, vB ((decide (a0.Temp = 1)) || (decide (a0.Temp = 2))))]) ?_ ?_
    ·refine WL.part 18 z (fun C => ?_) (fun C => ?_)
     ·refine WL.gS z z z z (WL.gS z z z z (WL.gS z z z z (wY (Y.pick (b := true) z z) z (WL.ren (v' := vB ((decide (a0.Temp = 1)) || (decide (a0.Temp = 2)))) 22 z (congrArg vB (orT C)) ?_))))
      exact nl (At.join () z (.cons z .nil))
     ·refine ug z z (wY (yf fo40_3 z) z (ug z z (wY (yl ty3 z z (e.cell 3 _ z)) z (ug z z (wY (Y.eql_i z z) z (wY (Y.pick (b := false) z z) z (WL.ren (v' := vB ((decide (a0.Temp = 1)) || (decide (a0.Temp = 2)))) 22 z (congrArg vB (orF C)) ?_)))))))
      exact nl (At.join () z (.cons z .nil))
    ·rintro _ _ rfl
     refine (show WL _ _ _ _ _ [(22, vB ((decide (a0.Temp = 1)) || (decide (a0.Temp = 2))))] _ from ?_)
     obtain ⟨au, X, h⟩ := lt1 h
     refine WL.yE (ya z) (congrArg vB X.symm) z (nl (th (rt (At.inBlockR (At.thenR ?_)))))
     obtain rfl := some1 h
     have Z : Stp [] (Lg.O0 A) w D a := (su_ d z)
     exact At.res (.inl z) z (.tmp z .nil) ⟨z, (se_ Z z z)⟩
   ·refine WC.condF' z t (sk (At.inBlock (th (sq (rg (wY (ya z) z (nl (th (rt ?_)))))))))
    obtain rfl := some1 h
    have aa : Stp [] (Lg.O0 A) w D a := (su_ d z)
    exact At.res (.inl z) z (.tmp z .nil) ⟨z, (se_ aa z z)⟩
theorem c_point_sum {A : Nat → Prop} {v0_1 : Value} {v0_13 : Value} {v0_15 : Value} {a0 : api_Point} {w : World} (hs0_1 : Sl rep_api_Pair w A v0_1 a0.Attrs) (hs0_13 : Sl Rep.u w A v0_13 a0.Hist.Pos.Counts) (hs0_15 : Sl Rep.u w A v0_15 a0.Hist.Neg.Counts) {r0 : Bool} (h : point_sum a0 = some r0) : Rets Tryz.prog 34 [ag (cp a0 v0_1 v0_13 v0_15)] w (fun v w' => v = vB r0 ∧ Ext w w') := by
 unfold point_sum at h
 refine Rets.enter Tryz.func34 z z ?_
 have l : Sl rep_api_Pair w (imm (Lg.O0 A)) v0_1 a0.Attrs := (Sl.start hs0_1)
 have o : Sl Rep.u w (imm (Lg.O0 A)) v0_13 a0.Hist.Pos.Counts := (Sl.start hs0_13)
 have r : Sl Rep.u w (imm (Lg.O0 A)) v0_15 a0.Hist.Neg.Counts := (Sl.start hs0_15)
 refine (show WC _ _ _ _ [(0, ag (cp a0 v0_1 v0_13 v0_15))] _ from ?_)
 refine sq (rg ?_)
 have t := h
 obtain ⟨G, H, I, rfl⟩ := l.shape
 have h := t
 have C := h
 obtain ⟨J, K, L, rfl⟩ := o.shape
 have h := C
 have D := h
 obtain ⟨M, P, Q, rfl⟩ := r.shape
 have h := D
 refine WL.box (O := (Lg.O0 A)) 11 (cp a0 (vl G H I) (vl J K L) (vl M P Q)) z z z ?_
 intro T S d j e
 refine wY (ya z) z (nl (th (sq (rg (wY (yf fo40_2 z) z (wY (yl ty3 z z (e.cell 2 _ z)) z (wY (Y.eql_i z z) z (wY (ym z) z ?_))))))))
 refine WL.cut 4 (σ := Unit) (fun _ w' => d = w') (fun _ => [(10, vB ((decide (a0.Kind = 1)) || (decide (a0.Kind = 2))))]) ?_ ?_
 ·refine WL.part 6 z (fun a => ?_) (fun a => ?_)
  ·refine WL.gS z z z z (WL.gS z z z z (WL.gS z z z z (wY (Y.pick (b := true) z z) z (WL.ren (v' := vB ((decide (a0.Kind = 1)) || (decide (a0.Kind = 2)))) 10 z (congrArg vB (orT a)) ?_))))
   exact nl (At.join () z (.cons z .nil))
  ·refine ug z z (wY (yf fo40_2 z) z (ug z z (wY (yl ty3 z z (e.cell 2 _ z)) z (ug z z (wY (Y.eql_i z z) z (wY (Y.pick (b := false) z z) z (WL.ren (v' := vB ((decide (a0.Kind = 1)) || (decide (a0.Kind = 2)))) 10 z (congrArg vB (orF a)) ?_)))))))
   exact nl (At.join () z (.cons z .nil))
 ·rintro _ _ rfl
  refine (show WL _ _ _ _ _ [(10, vB ((decide (a0.Kind = 1)) || (decide (a0.Kind = 2))))] _ from ?_)
  obtain ⟨U, E, h⟩ := lt1 h
  refine WL.yE (ya z) (congrArg vB E.symm) z (nl (th (rt ?_)))
  obtain rfl := some1 h
  have F : Stp [] (Lg.O0 A) w S d := (su_ j z)
  exact At.res (.inl z) z (.tmp z .nil) ⟨z, (se_ F z z)⟩
theorem c_point_times {A : Nat → Prop} {v0_1 : Value} {v0_13 : Value} {v0_15 : Value} {a0 : api_Point} {w : World} (hs0_1 : Sl rep_api_Pair w A v0_1 a0.Attrs) (hs0_13 : Sl Rep.u w A v0_13 a0.Hist.Pos.Counts) (hs0_15 : Sl Rep.u w A v0_15 a0.Hist.Neg.Counts) {r0 : Bool} (h : point_times a0 = some r0) : Rets Tryz.prog 35 [ag (cp a0 v0_1 v0_13 v0_15)] w (fun v w' => v = vB r0 ∧ Ext w w') := by
 unfold point_times at h
 refine Rets.enter Tryz.func35 z z ?_
 have C : Sl rep_api_Pair w (imm (Lg.O0 A)) v0_1 a0.Attrs := (Sl.start hs0_1)
 have D : Sl Rep.u w (imm (Lg.O0 A)) v0_13 a0.Hist.Pos.Counts := (Sl.start hs0_13)
 have E : Sl Rep.u w (imm (Lg.O0 A)) v0_15 a0.Hist.Neg.Counts := (Sl.start hs0_15)
 refine (show WC _ _ _ _ [(0, ag (cp a0 v0_1 v0_13 v0_15))] _ from ?_)
 refine sq (rg ?_)
 have F := h
 obtain ⟨P, Q, S, rfl⟩ := C.shape
 have h := F
 have G := h
 obtain ⟨T, U, W, rfl⟩ := D.shape
 have h := G
 have H := h
 obtain ⟨X, Z, aa, rfl⟩ := E.shape
 have h := H
 refine WL.box (O := (Lg.O0 A)) 11 (cp a0 (vl P Q S) (vl T U W) (vl X Z aa)) z z z ?_
 intro t r d e a
 refine wY (ya z) z (nl (th (sq (sq (rg (wY (yf fo40_5 z) z (wY (yl ty3 z z (a.cell 5 _ z)) z (wY (Y.lss_i z z) z (wY (ym z) z ?_)))))))))
 refine WL.cut 4 (σ := Unit) (fun _ w' => d = w') (fun _ => [(1, pt t 0), (10, vB ((decide (a0.Start < 0)) || (decide (4503599627370496 < a0.Time))))]) ?_ ?_
 ·refine WL.part 6 z (fun j => ?_) (fun j => ?_)
  ·refine WL.gS z z z z (WL.gS z z z z (WL.gS z z z z (wY (Y.pick (b := true) z z) z (WL.ren (v' := vB ((decide (a0.Start < 0)) || (decide (4503599627370496 < a0.Time)))) 10 z (congrArg vB (orT j)) ?_))))
   exact nl (At.join () z (.cons z (.cons z .nil)))
  ·refine ug z z (wY (yf fo40_6 z) z (ug z z (wY (yl ty3 z z (a.cell 6 _ z)) z (ug z z (wY (Y.gtr_i z z) z (wY (Y.pick (b := false) z z) z (WL.ren (v' := vB ((decide (a0.Start < 0)) || (decide (4503599627370496 < a0.Time)))) 10 z (congrArg vB (orF j)) ?_)))))))
   exact nl (At.join () z (.cons z (.cons z .nil)))
 ·rintro _ _ rfl
  refine (show WL _ _ _ _ _ [(1, pt t 0), (10, vB ((decide (a0.Start < 0)) || (decide (4503599627370496 < a0.Time))))] _ from ?_)
  refine nl (th ?_)
  rcases cnd h with ⟨l, h⟩ | ⟨l, h⟩
  ·refine WC.condT' z l (sq (rg (wY (ya z) z (nl (th (rt (At.thenR ?_)))))))
   obtain rfl := some1 h
   have I : Stp [] (Lg.O0 A) w r d := (su_ e z)
   exact At.res (.inl z) z (.tmp z .nil) ⟨z, (se_ I z z)⟩
  ·refine WC.condF' z l (sk (th (sq (sq (rg (wY (yf fo40_2 z) z (wY (yl ty3 z z (a.cell 2 _ z)) z (wY (Y.eql_i z z) z (nl ?_)))))))))
   refine th ?_
   rcases cnd h with ⟨o, h⟩ | ⟨o, h⟩
   ·refine WC.condT' z o (sq (rg (wY (yf fo40_5 z) z (wY (yl ty3 z z (a.cell 5 _ z)) z (wY (yf fo40_6 z) z (wY (yl ty3 z z (a.cell 6 _ z)) z (wY (Y.eql_i z z) z ?_)))))))
    obtain ⟨ab, J, h⟩ := lt1 h
    refine WL.yE (ya z) (congrArg vB J.symm) z (nl (th (rt (At.thenR ?_))))
    obtain rfl := some1 h
    have K : Stp [] (Lg.O0 A) w r d := (su_ e z)
    exact At.res (.inl z) z (.tmp z .nil) ⟨z, (se_ K z z)⟩
   ·refine WC.condF' z o (sk (th (sq (rg (wY (yf fo40_5 z) z (wY (yl ty3 z z (a.cell 5 _ z)) z (wY (yf fo40_6 z) z (wY (yl ty3 z z (a.cell 6 _ z)) z (wY (Y.lss_i z z) z ?_)))))))))
    obtain ⟨ac, L, h⟩ := lt1 h
    refine WL.yE (ya z) (congrArg vB L.symm) z (nl (th (rt ?_)))
    obtain rfl := some1 h
    have M : Stp [] (Lg.O0 A) w r d := (su_ e z)
    exact At.res (.inl z) z (.tmp z .nil) ⟨z, (se_ M z z)⟩
theorem c_point_bare {A : Nat → Prop} {v0_3 : Value} {v0_5 : Value} {a0 : api_Hist} {w : World} (hs0_3 : Sl Rep.u w A v0_3 a0.Pos.Counts) (hs0_5 : Sl Rep.u w A v0_5 a0.Neg.Counts) {r0 : Bool} (h : point_bare a0 = some r0) : Rets Tryz.prog 67 [ag (hl a0 v0_3 v0_5)] w (fun v w' => v = vB r0 ∧ Ext w w') := by
 unfold point_bare at h
 refine Rets.enter Tryz.func67 z z ?_
 have C : Sl Rep.u w (imm (Lg.O0 A)) v0_3 a0.Pos.Counts := (Sl.start hs0_3)
 have D : Sl Rep.u w (imm (Lg.O0 A)) v0_5 a0.Neg.Counts := (Sl.start hs0_5)
 refine (show WC _ _ _ _ [(0, ag (hl a0 v0_3 v0_5))] _ from ?_)
 refine sq (rg ?_)
 have E := h
 obtain ⟨K, L, M, rfl⟩ := C.shape
 have h := E
 have F := h
 obtain ⟨P, Q, S, rfl⟩ := D.shape
 have h := F
 refine WL.box (O := (Lg.O0 A)) 11 (hl a0 (vl K L M) (vl P Q S)) z z z ?_
 intro e T d j a
 refine wY (ya z) z (nl (th (sq (rg (wY (yf fo38_0 z) z (wY (yl ty3 z z (a.cell 0 _ z)) z (wY (Y.eql_i z z) z (wY (ym z) z ?_))))))))
 refine WL.cut 4 (σ := Unit) (fun _ w' => d = w') (fun _ => [(1, pt e 0), (10, vB ((decide (a0.Scale = 0)) && (decide (a0.Zero = 0))))]) ?_ ?_
 ·refine WL.part 6 z (fun l => ?_) (fun l => ?_)
  ·refine ug z z (wY (yf fo38_1 z) z (ug z z (wY (yl ty33 z z (a.cell 1 _ z)) z (ug z z (wY (Y.eql_u (b := 0) z z) z (wY (Y.pick (b := true) z z) z (WL.ren (v' := vB ((decide (a0.Scale = 0)) && (decide (a0.Zero = 0)))) 10 z (congrArg vB (andT l)) ?_)))))))
   exact nl (At.join () z (.cons z (.cons z .nil)))
  ·refine WL.gS z z z z (WL.gS z z z z (WL.gS z z z z (wY (Y.pick (b := false) z z) z (WL.ren (v' := vB ((decide (a0.Scale = 0)) && (decide (a0.Zero = 0)))) 10 z (congrArg vB (andF l)) ?_))))
   exact nl (At.join () z (.cons z (.cons z .nil)))
 ·rintro _ _ rfl
  refine (show WL _ _ _ _ _ [(1, pt e 0), (10, vB ((decide (a0.Scale = 0)) && (decide (a0.Zero = 0))))] _ from ?_)
  refine wY (ym z) z ?_
  refine WL.cut 5 (σ := Unit) (fun _ w' => d = w') (fun _ => [(1, pt e 0), (16, vB (((decide (a0.Scale = 0)) && (decide (a0.Zero = 0))) && (decide (a0.Pos.Offset = 0))))]) ?_ ?_
  ·refine WL.part 11 z (fun o => ?_) (fun o => ?_)
   ·refine ug z z (wY (yf fo38_2 z) z (ug z z (wY (yf fo36_0 z) z (ug z z (wY (yl ty3 z z (a.cell 2 _ z)) z (ug z z (wY (Y.eql_i z z) z (wY (Y.pick (b := true) z z) z (WL.ren (v' := vB (((decide (a0.Scale = 0)) && (decide (a0.Zero = 0))) && (decide (a0.Pos.Offset = 0)))) 16 z (congrArg vB (andT o)) ?_)))))))))
    exact nl (At.join () z (.cons z (.cons z .nil)))
   ·refine WL.gS z z z z (WL.gS z z z z (WL.gS z z z z (WL.gS z z z z (wY (Y.pick (b := false) z z) z (WL.ren (v' := vB (((decide (a0.Scale = 0)) && (decide (a0.Zero = 0))) && (decide (a0.Pos.Offset = 0)))) 16 z (congrArg vB (andF o)) ?_)))))
    exact nl (At.join () z (.cons z (.cons z .nil)))
  ·rintro _ _ rfl
   refine (show WL _ _ _ _ _ [(1, pt e 0), (16, vB (((decide (a0.Scale = 0)) && (decide (a0.Zero = 0))) && (decide (a0.Pos.Offset = 0))))] _ from ?_)
   refine wY (ym z) z ?_
   refine WL.cut 5 (σ := Unit) (fun _ w' => d = w') (fun _ => [(1, pt e 0), (22, vB ((((decide (a0.Scale = 0)) && (decide (a0.Zero = 0))) && (decide (a0.Pos.Offset = 0))) && (decide (a0.Neg.Offset = 0))))]) ?_ ?_
   ·refine WL.part 17 z (fun r => ?_) (fun r => ?_)
    ·refine ug z z (wY (yf fo38_3 z) z (ug z z (wY (yf fo36_0 z) z (ug z z (wY (yl ty3 z z (a.cell 4 _ z)) z (ug z z (wY (Y.eql_i z z) z (wY (Y.pick (b := true) z z) z (WL.ren (v' := vB ((((decide (a0.Scale = 0)) && (decide (a0.Zero = 0))) && (decide (a0.Pos.Offset = 0))) && (decide (a0.Neg.Offset = 0)))) 22 z (congrArg vB (andT r)) ?_)))))))))
     exact nl (At.join () z (.cons z (.cons z .nil)))
    ·refine WL.gS z z z z (WL.gS z z z z (WL.gS z z z z (WL.gS z z z z (wY (Y.pick (b := false) z z) z (WL.ren (v' := vB ((((decide (a0.Scale = 0)) && (decide (a0.Zero = 0))) && (decide (a0.Pos.Offset = 0))) && (decide (a0.Neg.Offset = 0)))) 22 z (congrArg vB (andF r)) ?_)))))
     exact nl (At.join () z (.cons z (.cons z .nil)))
   ·rintro _ _ rfl
    refine (show WL _ _ _ _ _ [(1, pt e 0), (22, vB ((((decide (a0.Scale = 0)) && (decide (a0.Zero = 0))) && (decide (a0.Pos.Offset = 0))) && (decide (a0.Neg.Offset = 0))))] _ from ?_)
    refine wY (ym z) z ?_
    refine WL.cut 11 (σ := Unit) (fun _ w' => d = w') (fun _ => [(34, vB (((((decide (a0.Scale = 0)) && (decide (a0.Zero = 0))) && (decide (a0.Pos.Offset = 0))) && (decide (a0.Neg.Offset = 0))) && (decide (w64 ((a0.Pos.Counts.length : Int) + (a0.Neg.Counts.length : Int)) = 0))))]) ?_ ?_
    ·refine WL.part 23 z (fun t => ?_) (fun t => ?_)
     ·refine ug z z (wY (yf fo38_2 z) z (ug z z (wY (yf fo36_1 z) z (ug z z (wY (yl ty34 z z (a.cell 3 _ z)) z (ug z z ?_))))))
      have G := C.i j z z
      refine wY (Y.len ty34 z G) z (ug z z (wY (yf fo38_3 z) z (ug z z (wY (yf fo36_1 z) z (ug z z (wY (yl ty34 z z (a.cell 5 _ z)) z (ug z z ?_)))))))
      have H := D.i j z z
      refine wY (Y.len ty34 z H) z (ug z z (wY (Y.add_i z z) z (ug z z (wY (Y.eql_i z z) z (wY (Y.pick (b := true) z z) z (WL.ren (v' := vB (((((decide (a0.Scale = 0)) && (decide (a0.Zero = 0))) && (decide (a0.Pos.Offset = 0))) && (decide (a0.Neg.Offset = 0))) && (decide (w64 ((a0.Pos.Counts.length : Int) + (a0.Neg.Counts.length : Int)) = 0)))) 34 z (congrArg vB (andT t)) ?_))))))
      exact nl (At.join () z (.cons z .nil))
     ·refine WL.gS z z z z (WL.gS z z z z (WL.gS z z z z (WL.gS z z z z (WL.gS z z z z (WL.gS z z z z (WL.gS z z z z (WL.gS z z z z (WL.gS z z z z (WL.gS z z z z ?_)))))))))
      refine wY (Y.pick (b := false) z z) z (WL.ren (v' := vB (((((decide (a0.Scale = 0)) && (decide (a0.Zero = 0))) && (decide (a0.Pos.Offset = 0))) && (decide (a0.Neg.Offset = 0))) && (decide (w64 ((a0.Pos.Counts.length : Int) + (a0.Neg.Counts.length : Int)) = 0)))) 34 z (congrArg vB (andF t)) ?_)
      exact nl (At.join () z (.cons z .nil))
    ·rintro _ _ rfl
     refine (show WL _ _ _ _ _ [(34, vB (((((decide (a0.Scale = 0)) && (decide (a0.Zero = 0))) && (decide (a0.Pos.Offset = 0))) && (decide (a0.Neg.Offset = 0))) && (decide (w64 ((a0.Pos.Counts.length : Int) + (a0.Neg.Counts.length : Int)) = 0))))] _ from ?_)
     obtain ⟨U, I, h⟩ := lt1 h
     refine WL.yE (ya z) (congrArg vB I.symm) z (nl (th (rt ?_)))
     obtain rfl := some1 h
     have J : Stp [] (Lg.O0 A) w T d := (su_ j z)
     exact At.res (.inl z) z (.tmp z .nil) ⟨z, (se_ J z z)⟩
theorem c_point_own {A : Nat → Prop} {v0_1 : Value} {v0_13 : Value} {v0_15 : Value} {a0 : api_Point} {w : World} (hs0_1 : Sl rep_api_Pair w A v0_1 a0.Attrs) (hs0_13 : Sl Rep.u w A v0_13 a0.Hist.Pos.Counts) (hs0_15 : Sl Rep.u w A v0_15 a0.Hist.Neg.Counts) {r0 : Bool} (h : point_own a0 = some r0) : Rets Tryz.prog 36 [ag (cp a0 v0_1 v0_13 v0_15)] w (fun v w' => v = vB r0 ∧ Ext w w') := by
 unfold point_own at h
 refine Rets.enter Tryz.func36 z z ?_
 have ak : Sl rep_api_Pair w (imm (Lg.O0 A)) v0_1 a0.Attrs := (Sl.start hs0_1)
 have Z : Sl Rep.u w (imm (Lg.O0 A)) v0_13 a0.Hist.Pos.Counts := (Sl.start hs0_13)
 have aa : Sl Rep.u w (imm (Lg.O0 A)) v0_15 a0.Hist.Neg.Counts := (Sl.start hs0_15)
 refine (show WC _ _ _ _ [(0, ag (cp a0 v0_1 v0_13 v0_15))] _ from ?_)
 refine sq (rg ?_)
 have al := h
 obtain ⟨aL, aM, aN, rfl⟩ := ak.shape
 have h := al
 have am := h
 obtain ⟨ab, ac, ad, rfl⟩ := Z.shape
 have h := am
 have an := h
 obtain ⟨ae, af, ah, rfl⟩ := aa.shape
 have h := an
 refine WL.box (O := (Lg.O0 A)) 11 (cp a0 (vl aL aM aN) (vl ab ac ad) (vl ae af ah)) z z z ?_
 intro l r d a j
 refine wY (ya z) z (nl (th (sq (rg (wY (yf fo40_2 z) z (wY (yl ty3 z z (j.cell 2 _ z)) z (wY (Y.eql_i z z) z (wY (ym z) z ?_))))))))
 refine WL.cut 4 (σ := Unit) (fun _ w' => d = w') (fun _ => [(1, pt l 0), (11, vB ((decide (a0.Kind = 2)) || (decide (a0.Kind = 3))))]) ?_ ?_
 ·refine WL.part 7 z (fun C => ?_) (fun C => ?_)
  ·refine WL.gS z z z z (WL.gS z z z z (WL.gS z z z z (wY (Y.pick (b := true) z z) z (WL.ren (v' := vB ((decide (a0.Kind = 2)) || (decide (a0.Kind = 3)))) 11 z (congrArg vB (orT C)) ?_))))
   exact nl (At.join () z (.cons z (.cons z .nil)))
  ·refine ug z z (wY (yf fo40_2 z) z (ug z z (wY (yl ty3 z z (j.cell 2 _ z)) z (ug z z (wY (Y.eql_i z z) z (wY (Y.pick (b := false) z z) z (WL.ren (v' := vB ((decide (a0.Kind = 2)) || (decide (a0.Kind = 3)))) 11 z (congrArg vB (orF C)) ?_)))))))
   exact nl (At.join () z (.cons z (.cons z .nil)))
 ·rintro _ _ rfl
  refine (show WL _ _ _ _ _ [(1, pt l 0), (11, vB ((decide (a0.Kind = 2)) || (decide (a0.Kind = 3))))] _ from ?_)
  refine wY (ym z) z ?_
  refine WL.cut 4 (σ := Unit) (fun _ w' => d = w') (fun _ => [(1, pt l 0), (16, vB (((decide (a0.Kind = 2)) || (decide (a0.Kind = 3))) || (decide (a0.Kind = 5))))]) ?_ ?_
  ·refine WL.part 12 z (fun D => ?_) (fun D => ?_)
   ·refine WL.gS z z z z (WL.gS z z z z (WL.gS z z z z (wY (Y.pick (b := true) z z) z (WL.ren (v' := vB (((decide (a0.Kind = 2)) || (decide (a0.Kind = 3))) || (decide (a0.Kind = 5)))) 16 z (congrArg vB (orT D)) ?_))))
    exact nl (At.join () z (.cons z (.cons z .nil)))
   ·refine ug z z (wY (yf fo40_2 z) z (ug z z (wY (yl ty3 z z (j.cell 2 _ z)) z (ug z z (wY (Y.eql_i z z) z (wY (Y.pick (b := false) z z) z (WL.ren (v' := vB (((decide (a0.Kind = 2)) || (decide (a0.Kind = 3))) || (decide (a0.Kind = 5)))) 16 z (congrArg vB (orF D)) ?_)))))))
    exact nl (At.join () z (.cons z (.cons z .nil)))
  ·rintro _ _ rfl
   refine (show WL _ _ _ _ _ [(1, pt l 0), (16, vB (((decide (a0.Kind = 2)) || (decide (a0.Kind = 3))) || (decide (a0.Kind = 5))))] _ from ?_)
   obtain ⟨e, E, h⟩ := lt1 h
   refine WL.yE (ya z) (congrArg vB E.symm) z (nl (th (sq (WC.block (sq (sq (rg (wY (yf fo40_2 z) z (wY (yl ty3 z z (j.cell 2 _ z)) z ?_)))))))))
   refine wY (Y.neq_i z z) z (wY (ym z) z ?_)
   refine WL.cut 4 (σ := Unit) (fun _ w' => d = w') (fun _ => [(1, pt l 0), (3, vB e), (25, vB ((!decide (a0.Kind = 1)) && (!decide (a0.Int_ = 0))))]) ?_ ?_
   ·refine WL.part 21 z (fun F => ?_) (fun F => ?_)
    ·refine ug z z (wY (yf fo40_7 z) z (ug z z (wY (yl ty3 z z (j.cell 7 _ z)) z (ug z z (wY (Y.neq_i z z) z (wY (Y.pick (b := true) z z) z (WL.ren (v' := vB ((!decide (a0.Kind = 1)) && (!decide (a0.Int_ = 0)))) 25 z (congrArg vB (andT F)) ?_)))))))
     exact nl (At.join () z (.cons z (.cons z (.cons z .nil))))
    ·refine WL.gS z z z z (WL.gS z z z z (WL.gS z z z z (wY (Y.pick (b := false) z z) z (WL.ren (v' := vB ((!decide (a0.Kind = 1)) && (!decide (a0.Int_ = 0)))) 25 z (congrArg vB (andF F)) ?_))))
     exact nl (At.join () z (.cons z (.cons z (.cons z .nil))))
   ·rintro _ _ rfl
    refine (show WL _ _ _ _ _ [(1, pt l 0), (3, vB e), (25, vB ((!decide (a0.Kind = 1)) && (!decide (a0.Int_ = 0))))] _ from ?_)
    obtain ⟨aX, ao, h⟩ := lt1 h
    refine WL.yE (ya z) (congrArg vB ao.symm) z (nl (th ?_))
    rcases cnd h with ⟨G, h⟩ | ⟨G, h⟩
    ·refine WC.condT' z G (sk (th ?_))
     rcases cnd h with ⟨H, h⟩ | ⟨H, h⟩
     ·refine WC.condT' z H (sq (rg (wY (ya z) z (nl (th (rt (At.inBlockR (At.thenR ?_))))))))
      obtain rfl := some1 h
      have ap : Stp [] (Lg.O0 A) w r d := (su_ a z)
      exact At.res (.inl z) z (.tmp z .nil) ⟨z, (se_ ap z z)⟩
     ·refine WC.condF' z H (sk (At.inBlock (th (sq (rg (wY (ya z) z (nl (th (rt ?_)))))))))
      obtain rfl := some1 h
      have aq : Stp [] (Lg.O0 A) w r d := (su_ a z)
      exact At.res (.inl z) z (.tmp z .nil) ⟨z, (se_ aq z z)⟩
    ·refine WC.condF' z G (sq (rg (wY (ym z) z (wY (Y.not z) z (wY (ym z) z ?_)))))
     refine WL.cut 4 (σ := Unit) (fun _ w' => d = w') (fun _ => [(1, pt l 0), (32, vB ((!e) && (!decide (a0.Re = 0))))]) ?_ ?_
     ·refine WL.part 28 z (fun I => ?_) (fun I => ?_)
      ·refine ug z z (wY (yf fo40_8 z) z (ug z z (wY (yl ty33 z z (j.cell 8 _ z)) z (ug z z (wY (Y.neq_u (b := 0) z z) z (wY (Y.pick (b := true) z z) z (WL.ren (v' := vB ((!e) && (!decide (a0.Re = 0)))) 32 z (congrArg vB (andT I)) ?_)))))))
       exact nl (At.join () z (.cons z (.cons z .nil)))
      ·refine WL.gS z z z z (WL.gS z z z z (WL.gS z z z z (wY (Y.pick (b := false) z z) z (WL.ren (v' := vB ((!e) && (!decide (a0.Re = 0)))) 32 z (congrArg vB (andF I)) ?_))))
       exact nl (At.join () z (.cons z (.cons z .nil)))
     ·rintro _ _ rfl
      refine (show WL _ _ _ _ _ [(1, pt l 0), (32, vB ((!e) && (!decide (a0.Re = 0))))] _ from ?_)
      obtain ⟨aY, ar, h⟩ := lt1 h
      refine WL.yE (ya z) (congrArg vB ar.symm) z (nl (th ?_))
      rcases cnd h with ⟨J, h⟩ | ⟨J, h⟩
      ·refine WC.condT' z J (sk (th ?_))
       rcases cnd h with ⟨K, h⟩ | ⟨K, h⟩
       ·refine WC.condT' z K (sq (rg (wY (ya z) z (nl (th (rt (At.inBlockR (At.thenR ?_))))))))
        obtain rfl := some1 h
        have au : Stp [] (Lg.O0 A) w r d := (su_ a z)
        exact At.res (.inl z) z (.tmp z .nil) ⟨z, (se_ au z z)⟩
       ·refine WC.condF' z K (sk (At.inBlock (th (sq (rg (wY (ya z) z (nl (th (rt ?_)))))))))
        obtain rfl := some1 h
        have av : Stp [] (Lg.O0 A) w r d := (su_ a z)
        exact At.res (.inl z) z (.tmp z .nil) ⟨z, (se_ av z z)⟩
      ·refine WC.condF' z J (sq (rg (wY (yf fo40_2 z) z (wY (yl ty3 z z (j.cell 2 _ z)) z (wY (Y.neq_i z z) z (wY (ym z) z ?_))))))
       refine WL.cut 4 (σ := Unit) (fun _ w' => d = w') (fun _ => [(1, pt l 0), (40, vB ((!decide (a0.Kind = 5)) && (!decide (a0.Im = 0))))]) ?_ ?_
       ·refine WL.part 36 z (fun L => ?_) (fun L => ?_)
        ·refine ug z z (wY (yf fo40_9 z) z (ug z z (wY (yl ty33 z z (j.cell 9 _ z)) z (ug z z (wY (Y.neq_u (b := 0) z z) z (wY (Y.pick (b := true) z z) z (WL.ren (v' := vB ((!decide (a0.Kind = 5)) && (!decide (a0.Im = 0)))) 40 z (congrArg vB (andT L)) ?_)))))))
         exact nl (At.join () z (.cons z (.cons z .nil)))
        ·refine WL.gS z z z z (WL.gS z z z z (WL.gS z z z z (wY (Y.pick (b := false) z z) z (WL.ren (v' := vB ((!decide (a0.Kind = 5)) && (!decide (a0.Im = 0)))) 40 z (congrArg vB (andF L)) ?_))))
         exact nl (At.join () z (.cons z (.cons z .nil)))
       ·rintro _ _ rfl
        refine (show WL _ _ _ _ _ [(1, pt l 0), (40, vB ((!decide (a0.Kind = 5)) && (!decide (a0.Im = 0))))] _ from ?_)
        obtain ⟨aZ, ax, h⟩ := lt1 h
        refine WL.yE (ya z) (congrArg vB ax.symm) z (nl (th ?_))
        rcases cnd h with ⟨M, h⟩ | ⟨M, h⟩
        ·refine WC.condT' z M (sk (th ?_))
         rcases cnd h with ⟨P, h⟩ | ⟨P, h⟩
         ·refine WC.condT' z P (sq (rg (wY (ya z) z (nl (th (rt (At.inBlockR (At.thenR ?_))))))))
          obtain rfl := some1 h
          have ay : Stp [] (Lg.O0 A) w r d := (su_ a z)
          exact At.res (.inl z) z (.tmp z .nil) ⟨z, (se_ ay z z)⟩
         ·refine WC.condF' z P (sk (At.inBlock (th (sq (rg (wY (ya z) z (nl (th (rt ?_)))))))))
          obtain rfl := some1 h
          have az : Stp [] (Lg.O0 A) w r d := (su_ a z)
          exact At.res (.inl z) z (.tmp z .nil) ⟨z, (se_ az z z)⟩
        ·refine WC.condF' z M (sq (rg (wY (yf fo40_2 z) z (wY (yl ty3 z z (j.cell 2 _ z)) z (wY (Y.neq_i z z) z (wY (ym z) z ?_))))))
         obtain ⟨aO, h, aA⟩ := bnd h
         refine WL.cut 5 (σ := (Bool × Own)) (fun x w' => x.1 = aO ∧ Stp [] r d x.2 w') (fun x => [(1, pt l 0), (49, vB x.1)]) ?_ ?_
         ·rcases cnd h with ⟨Q, h⟩ | ⟨Q, h⟩
          ·refine WL.ren 44 z (congrArg vB Q) (ug z z (wY (yf fo40_10 z) z (ug z z (wY (yL ty38 z z (j.cells 10 (hl a0.Hist (vl ab ac ad) (vl ae af ah)) z) z) z (ug z z ?_)))))
           have aC := Z.i a z z
           have aD := aa.i a z z
           obtain ⟨aP, aE, h⟩ := bnd h
           refine WL.call (vals := [ag (hl a0.Hist (vl ab ac ad) (vl ae af ah))]) kok67 z z (c_point_bare (A := fun _ => True) (a0 := a0.Hist) (Sl.all aC) (Sl.all aD) aE) ?_
           rintro aU aW ⟨rfl, aF⟩
           obtain ⟨aQ, aR, aS, aj⟩ := adoptE r (fun k => 1) aF
           refine ug z z (wY (Y.not z) z (wY (Y.pick (b := true) z z) z ?_))
           exact nl (At.join (σ := (Bool × Own)) ((!aP), aQ) ⟨some1 h, (su_ aj z)⟩ (.cons z (.cons z .nil)))
          ·refine WL.ren 44 z (congrArg vB Q) (WL.gS z z z z (WL.gS z z z z (WL.gS z z z z (WL.gS z z z z (wY (Y.pick (b := false) z z) z ?_)))))
           exact nl (At.join (σ := (Bool × Own)) (false, r) ⟨some1 h, (sr_ _ _ _)⟩ (.cons z (.cons z .nil)))
         ·rintro ⟨aT, X⟩ t ⟨rfl, o⟩
          replace h := aA
          try dsimp only at h o
          refine (show WL _ _ _ _ _ [(1, pt l 0), (49, vB aT)] _ from ?_)
          refine wY (ya z) z (nl (th ?_))
          rcases cnd h with ⟨S, h⟩ | ⟨S, h⟩
          ·refine WC.condT' z S (sk (th ?_))
           rcases cnd h with ⟨T, h⟩ | ⟨T, h⟩
           ·refine WC.condT' z T (sq (rg (wY (ya z) z (nl (th (rt (At.inBlockR (At.thenR ?_))))))))
            obtain rfl := some1 h
            have aG : Stp [] (Lg.O0 A) w X t := (tr_ (su_ a z) (su_ o z))
            exact At.res (.inl z) z (.tmp z .nil) ⟨z, (se_ aG z z)⟩
           ·refine WC.condF' z T (sk (At.inBlock (th (sq (rg (wY (ya z) z (nl (th (rt ?_)))))))))
            obtain rfl := some1 h
            have aH : Stp [] (Lg.O0 A) w X t := (tr_ (su_ a z) (su_ o z))
            exact At.res (.inl z) z (.tmp z .nil) ⟨z, (se_ aH z z)⟩
          ·refine WC.condF' z S (rg (wY (yf fo40_11 z) z ?_))
           have ai := j.st o z
           refine wY (yl ty3 z z (ai.cell 16 _ z)) z (wY (Y.lss_i z z) z (wY (ym z) z ?_))
           refine WL.cut 4 (σ := Unit) (fun _ w' => t = w') (fun _ => [(57, vB ((decide (a0.Flags < 0)) || (decide (31 < a0.Flags))))]) ?_ ?_
           ·refine WL.part 53 z (fun U => ?_) (fun U => ?_)
            ·refine WL.gS z z z z (WL.gS z z z z (WL.gS z z z z (wY (Y.pick (b := true) z z) z (WL.ren (v' := vB ((decide (a0.Flags < 0)) || (decide (31 < a0.Flags)))) 57 z (congrArg vB (orT U)) ?_))))
             exact nl (At.join () z (.cons z .nil))
            ·refine ug z z (wY (yf fo40_11 z) z (ug z z (wY (yl ty3 z z (ai.cell 16 _ z)) z (ug z z (wY (Y.gtr_i z z) z (wY (Y.pick (b := false) z z) z (WL.ren (v' := vB ((decide (a0.Flags < 0)) || (decide (31 < a0.Flags)))) 57 z (congrArg vB (orF U)) ?_)))))))
             exact nl (At.join () z (.cons z .nil))
           ·rintro _ _ rfl
            refine (show WL _ _ _ _ _ [(57, vB ((decide (a0.Flags < 0)) || (decide (31 < a0.Flags))))] _ from ?_)
            obtain ⟨a1, aI, h⟩ := lt1 h
            refine WL.yE (ya z) (congrArg vB aI.symm) z (nl (th ?_))
            rcases cnd h with ⟨W, h⟩ | ⟨W, h⟩
            ·refine WC.condT' z W (sq (rg (wY (ya z) z (nl (th (rt (At.inBlockR (At.thenR ?_))))))))
             obtain rfl := some1 h
             have aJ : Stp [] (Lg.O0 A) w X t := (tr_ (su_ a z) (su_ o z))
             exact At.res (.inl z) z (.tmp z .nil) ⟨z, (se_ aJ z z)⟩
            ·refine WC.condF' z W (sk (At.inBlock (th (sq (rg (wY (ya z) z (nl (th (rt ?_)))))))))
             obtain rfl := some1 h
             have aK : Stp [] (Lg.O0 A) w X t := (tr_ (su_ a z) (su_ o z))
             exact At.res (.inl z) z (.tmp z .nil) ⟨z, (se_ aK z z)⟩
theorem c_num_Finite {a0 : UInt64} {w : World} {r0 : Bool} (h : num_Finite a0 = some r0) : Rets Tryz.prog 37 [vu a0] w (fun v w' => v = vB r0 ∧ Ext w w') := by
 unfold num_Finite at h
 refine Rets.enter Tryz.func37 z z ?_
 refine (show WC _ _ _ _ [(0, vu a0)] _ from ?_)
 refine sq (rg (wY (ya z) z (nl (th (sq (rg (wY (ym z) z (wY (Y.and_u (b := 9218868437227405312) z z) z (wY (Y.neq_u (b := 9218868437227405312) z z) z ?_)))))))))
 obtain ⟨e, a, h⟩ := lt1 h
 refine WL.yE (ya z) (congrArg vB a.symm) z (nl (th (rt ?_)))
 obtain rfl := some1 h
 have d : Stp [] (Lg.O0 (fun _ => False)) w (Lg.O0 (fun _ => False)) w := (sr_ _ _ _)
 exact At.res (.inl z) z (.tmp z .nil) ⟨z, (se_ d z z)⟩
theorem c_num_of {a0 : UInt64} {w : World} : Rets Tryz.prog 68 [vu a0] w (fun v w' => v = .float .f64 a0.toNat ∧ Ext w w') := by
  refine Rets.enter Tryz.func68 z z ?_
  refine (show WC _ _ _ _ [(0, vu a0)] _ from ?_)
  refine sq (rg (wY (ya (v := .float .f64 0) z) z (nl (th ?_))))
  refine sq (rg ?_)
  refine wY (ym z) z (wY (Y.ffrom xfrom_109 z) z ?_)
  refine wY (ya z) z (nl (th (rt ?_)))
  exact At.res (.inl z) z (.tmp z .nil) ⟨z, Ext.refl w⟩
theorem c_num_Less {a0 : UInt64} {a1 : UInt64} {w : World} {r0 : Bool} (h : num_Less a0 a1 = some r0) : Rets Tryz.prog 38 [vu a0, vu a1] w (fun v w' => v = vB r0 ∧ Ext w w') := by
  unfold num_Less at h
  obtain rfl := some1 h
  refine Rets.enter Tryz.func38 z z ?_
  refine (show WC _ _ _ _ [(0, vu a0), (1, vu a1)] _ from ?_)
  refine sq (rg (wY (ya (v := .bool false) z) z (nl (th ?_))))
  refine sq (rg ?_)
  refine wY (ym z) z (WL.call (vals := [vu a0]) kok68 z z (c_num_of) ?_)
  rintro D E ⟨rfl, e⟩
  obtain ⟨t, hold1, o, a⟩ := adoptE (Lg.O0 (fun _ => False)) (fun k => 1) e
  refine wY (ym z) z (WL.call (vals := [vu a1]) kok68 z z (c_num_of) ?_)
  rintro F j ⟨rfl, l⟩
  obtain ⟨C, hold2, r, d⟩ := adoptE t (fun k => 1) l
  refine wY (Y.fless z z) z ?_
  refine wY (ya z) z (nl (th (rt ?_)))
  have hs : Stp [] (Lg.O0 (fun _ => False)) w C j := (tr_ (su_ a z) (su_ d z))
  exact At.res (.inl z) z (.tmp z .nil) ⟨z, se_ hs z z⟩
theorem c_hist_sides {A : Nat → Prop} {v0_3 : Value} {v0_5 : Value} {a0 : api_Hist} {w : World} (hs0_3 : Sl Rep.u w A v0_3 a0.Pos.Counts) (hs0_5 : Sl Rep.u w A v0_5 a0.Neg.Counts) {r0 : List api_Side} (h : hist_sides a0 = some r0) : Rets Tryz.prog 69 [ag (hl a0 v0_3 v0_5)] w (fun v w' => ∃ (H : List Value), v = Value.agg (List.toArray H) ∧ Ext w w' ∧ Rows' rep_api_Side w' (fun k => A k ∨ w.heap.size ≤ k) H r0 ∧ r0.length = 2) := by
 unfold hist_sides at h
 refine Rets.enter Tryz.func69 z z ?_
 have D : Sl Rep.u w (imm (Lg.O0 A)) v0_3 a0.Pos.Counts := (Sl.start hs0_3)
 have E : Sl Rep.u w (imm (Lg.O0 A)) v0_5 a0.Neg.Counts := (Sl.start hs0_5)
 refine (show WC _ _ _ _ [(0, ag (hl a0 v0_3 v0_5))] _ from ?_)
 refine sq (rg ?_)
 have J := h
 obtain ⟨j, l, o, rfl⟩ := D.shape
 have h := J
 have K := h
 obtain ⟨a, d, e, rfl⟩ := E.shape
 have h := K
 refine WL.box (O := (Lg.O0 A)) 11 (hl a0 (vl j l o) (vl a d e)) z z z ?_
 intro ad aa ab t L
 refine WL.alloc (O := aa) 12 [vi 0, sn, vi 0, sn] ty94 z z ?_
 intro ae I ac r M
 refine nl (th (sq (rg (wY (yf fo38_2 z) z ?_))))
 have F := L.st r z
 refine wY (yL ty36 z z (F.cells 2 [vi a0.Pos.Offset, (vl j l o)] z) z) z (wY (yf fo38_3 z) z (wY (yL ty36 z z (F.cells 4 [vi a0.Neg.Offset, (vl a d e)] z) z) z (wY (yb (vals := [(0, ag [vi a0.Pos.Offset, (vl j l o)]), (1, ag [vi a0.Neg.Offset, (vl a d e)])]) (cells := [vi a0.Pos.Offset, (vl j l o), vi a0.Neg.Offset, (vl a d e)]) (fe_ z) (by kernel_rfl)) z (WL.store (v := ag [vi a0.Pos.Offset, (vl j l o), vi a0.Neg.Offset, (vl a d e)]) (cells' := [vi a0.Pos.Offset, (vl j l o), vi a0.Neg.Offset, (vl a d e)]) ty94 z z M z (le_ z) z z ?_))))
 intro P C Q
 refine nl (th (rt ?_))
 obtain rfl := some1 h
 have G : Stp [12] (Lg.O0 A) w I P := (tr_ (su_ t z) (tr_ (su_ r z) (su_ C z)))
 have U := ((D.i t z z).i r z z).i C z z
 have Z := ((E.i t z z).i r z z).i C z z
 exact At.res (.inl z) z (.cell z (Q.runAg 0 [vi a0.Pos.Offset, (vl j l o), vi a0.Neg.Offset, (vl a d e)] ty94 z z z) .nil) ⟨[vi a0.Pos.Offset, (vl j l o), vi a0.Neg.Offset, (vl a d e)], z, (se_ G z z), (Rows'.outI (O' := I) (R := rep_api_Side) ⟨[vi a0.Pos.Offset, (vl j l o)], [vi a0.Neg.Offset, (vl a d e)], z, ⟨[vi a0.Pos.Offset], [(vl j l o)], z, z, ⟨_, z, U⟩⟩, ⟨[vi a0.Neg.Offset, (vl a d e)], [], z, ⟨[vi a0.Neg.Offset], [(vl a d e)], z, z, ⟨_, z, Z⟩⟩, z⟩⟩ G low0 O0_A), z⟩
theorem c_hist_check {A : Nat → Prop} {v0_1 : Value} {a0 : api_Side} {w : World} (hs0_1 : Sl Rep.u w A v0_1 a0.Counts) {r0 : Int} (h : hist_check a0 = some r0) : Rets Tryz.prog 70 [ag [vi a0.Offset, v0_1]] w (fun v w' => v = vi r0 ∧ Ext w w') := by
 unfold hist_check at h
 refine Rets.enter Tryz.func70 z z ?_
 have L : Sl Rep.u w (imm (Lg.O0 A)) v0_1 a0.Counts := (Sl.start hs0_1)
 refine (show WC _ _ _ _ [(0, ag [vi a0.Offset, v0_1])] _ from ?_)
 refine sq (rg ?_)
 have W := h
 obtain ⟨ax, ay, az, rfl⟩ := L.shape
 have h := W
 refine WL.box (O := (Lg.O0 A)) 11 [vi a0.Offset, (vl ax ay az)] z z z ?_
 intro K l d e j
 refine wY (ya z) z (nl (th (sq (rg (wY (yf fo36_1 z) z (wY (yl ty34 z z (j.cell 1 _ z)) z ?_))))))
 have o := L.i e z z
 refine wY (Y.len ty34 z o) z ?_
 obtain ⟨a, M, h⟩ := lt1 h
 refine WL.yE (ya z) (congrArg vi M.symm) z (nl (th (sq (WC.block (sq (rg (wY (ym z) z (wY (Y.gtr_i z z) z ?_))))))))
 obtain ⟨aK, X, h⟩ := lt1 h
 refine WL.yE (ya z) (congrArg vB X.symm) z (nl (th ?_))
 rcases cnd h with ⟨r, h⟩ | ⟨r, h⟩
 ·refine WC.condT' z r (sq (rg (wY (ya z) z (nl (th (rt (At.inBlockR (At.thenR ?_))))))))
  obtain rfl := some1 h
  have Z : Stp [] (Lg.O0 A) w l d := (su_ e z)
  exact At.res (.inl z) z (.tmp z .nil) ⟨z, (se_ Z z z)⟩
 ·refine WC.condF' z r (sq (rg (wY (ym z) z (wY (Y.eql_i z z) z (wY (ym z) z ?_)))))
  refine WL.cut 4 (σ := Unit) (fun _ w' => d = w') (fun _ => [(1, pt K 0), (3, vi a), (17, vB ((decide (a = 0)) && (!decide (a0.Offset = 0))))]) ?_ ?_
  ·refine WL.part 13 z (fun t => ?_) (fun t => ?_)
   ·refine ug z z (wY (yf fo36_0 z) z (ug z z (wY (yl ty3 z z (j.cell 0 _ z)) z (ug z z (wY (Y.neq_i z z) z (wY (Y.pick (b := true) z z) z (WL.ren (v' := vB ((decide (a = 0)) && (!decide (a0.Offset = 0)))) 17 z (congrArg vB (andT t)) ?_)))))))
    exact nl (At.join () z (.cons z (.cons z (.cons z .nil))))
   ·refine WL.gS z z z z (WL.gS z z z z (WL.gS z z z z (wY (Y.pick (b := false) z z) z (WL.ren (v' := vB ((decide (a = 0)) && (!decide (a0.Offset = 0)))) 17 z (congrArg vB (andF t)) ?_))))
    exact nl (At.join () z (.cons z (.cons z (.cons z .nil))))
  ·rintro _ _ rfl
   refine (show WL _ _ _ _ _ [(1, pt K 0), (3, vi a), (17, vB ((decide (a = 0)) && (!decide (a0.Offset = 0))))] _ from ?_)
   obtain ⟨aL, aa, h⟩ := lt1 h
   refine WL.yE (ya z) (congrArg vB aa.symm) z (nl (th ?_))
   rcases cnd h with ⟨C, h⟩ | ⟨C, h⟩
   ·refine WC.condT' z C (sq (rg (wY (ya z) z (nl (th (rt (At.inBlockR (At.thenR ?_))))))))
    obtain rfl := some1 h
    have ab : Stp [] (Lg.O0 A) w l d := (su_ e z)
    exact At.res (.inl z) z (.tmp z .nil) ⟨z, (se_ ab z z)⟩
   ·refine WC.condF' z C (sq (rg (wY (ym z) z (wY (Y.eql_i z z) z ?_))))
    obtain ⟨aM, ac, h⟩ := lt1 h
    refine WL.yE (ya z) (congrArg vB ac.symm) z (nl (th ?_))
    rcases cnd h with ⟨D, h⟩ | ⟨D, h⟩
    ·refine WC.condT' z D (sq (rg (wY (ya z) z (nl (th (rt (At.inBlockR (At.thenR ?_))))))))
     obtain rfl := some1 h
     have ad : Stp [] (Lg.O0 A) w l d := (su_ e z)
     exact At.res (.inl z) z (.tmp z .nil) ⟨z, (se_ ad z z)⟩
    ·refine WC.condF' z D (sq (rg (wY (yf fo36_1 z) z (wY (yl ty34 z z (j.cell 1 _ z)) z ?_))))
     obtain ⟨aA, ae, h⟩ := bnd h
     obtain ⟨aN, aE, aF, aI, af, ah, ai, E, P, aj⟩ := Sl.at2 o ae
     obtain rfl := P
     replace E : CellsAt _ _ _ [vu aA] := E
     have Q := CAt.imm E aj
     refine wY (Y.indexAddr ty34 ty33 z af z ah ai) z (wY (yl ty33 z z Q.at_) z (wY (Y.eql_u (b := 0) z z) z (wY (ym z) z ?_)))
     obtain ⟨aC, h, ak⟩ := bnd h
     refine WL.cut 8 (σ := Bool) (fun x w' => x = aC ∧ d = w') (fun x => [(1, pt K 0), (3, vi a), (35, vB x)]) ?_ ?_
     ·rcases cnd h with ⟨F, h⟩ | ⟨F, h⟩
      ·refine WL.ren 27 z (congrArg vB F) (WL.gS z z z z (WL.gS z z z z (WL.gS z z z z (WL.gS z z z z (WL.gS z z z z (WL.gS z z z z (WL.gS z z z z (wY (Y.pick (b := true) z z) z ?_))))))))
       exact nl (At.join (σ := Bool) true ⟨some1 h, z⟩ (.cons z (.cons z (.cons z .nil))))
      ·refine WL.ren 27 z (congrArg vB F) (ug z z (wY (yf fo36_1 z) z (ug z z (wY (yl ty34 z z (j.cell 1 _ z)) z (ug z z (wY (ym z) z (ug z z (wY (Y.sub_i z z) z (ug z z ?_)))))))))
       obtain ⟨U, al, h⟩ := bnd h
       obtain ⟨aO, aG, aH, aJ, am, an, ao, G, S, ap⟩ := Sl.at2 o al
       obtain rfl := S
       replace G : CellsAt _ _ _ [vu U] := G
       have T := CAt.imm G ap
       refine wY (Y.indexAddr ty34 ty33 z am z an ao) z (ug z z (wY (yl ty33 z z T.at_) z (ug z z (wY (Y.eql_u (b := 0) z z) z (wY (Y.pick (b := false) z z) z ?_)))))
       exact nl (At.join (σ := Bool) (decide (U = 0)) ⟨some1 h, z⟩ (.cons z (.cons z (.cons z .nil))))
     ·rintro aD _ ⟨rfl, rfl⟩
      replace h := ak
      try dsimp only at h
      refine (show WL _ _ _ _ _ [(1, pt K 0), (3, vi a), (35, vB aD)] _ from ?_)
      refine wY (ya z) z (nl (th ?_))
      rcases cnd h with ⟨H, h⟩ | ⟨H, h⟩
      ·refine WC.condT' z H (sq (rg (wY (ya z) z (nl (th (rt (At.inBlockR (At.thenR ?_))))))))
       obtain rfl := some1 h
       have aq : Stp [] (Lg.O0 A) w l d := (su_ e z)
       exact At.res (.inl z) z (.tmp z .nil) ⟨z, (se_ aq z z)⟩
      ·refine WC.condF' z H (sq (rg (wY (yf fo36_0 z) z (wY (yl ty3 z z (j.cell 0 _ z)) z (wY (Y.lss_i z z) z (wY (ym z) z ?_))))))
       refine WL.cut 7 (σ := Unit) (fun _ w' => d = w') (fun _ => [(47, vB ((decide (a0.Offset < (-1073741824))) || (decide (w64 (1073741824 - (w64 (a - 1))) < a0.Offset))))]) ?_ ?_
       ·refine WL.part 40 z (fun I => ?_) (fun I => ?_)
        ·refine WL.gS z z z z (WL.gS z z z z (WL.gS z z z z (WL.gS z z z z (WL.gS z z z z (WL.gS z z z z (wY (Y.pick (b := true) z z) z (WL.ren (v' := vB ((decide (a0.Offset < (-1073741824))) || (decide (w64 (1073741824 - (w64 (a - 1))) < a0.Offset)))) 47 z (congrArg vB (orT I)) ?_)))))))
         exact nl (At.join () z (.cons z .nil))
        ·refine ug z z (wY (yf fo36_0 z) z (ug z z (wY (yl ty3 z z (j.cell 0 _ z)) z (ug z z (wY (ym z) z (ug z z (wY (Y.sub_i z z) z (ug z z (wY (Y.sub_i z z) z ?_)))))))))
         refine ug z z (wY (Y.gtr_i z z) z (wY (Y.pick (b := false) z z) z (WL.ren (v' := vB ((decide (a0.Offset < (-1073741824))) || (decide (w64 (1073741824 - (w64 (a - 1))) < a0.Offset)))) 47 z (congrArg vB (orF I)) ?_)))
         exact nl (At.join () z (.cons z .nil))
       ·rintro _ _ rfl
        refine (show WL _ _ _ _ _ [(47, vB ((decide (a0.Offset < (-1073741824))) || (decide (w64 (1073741824 - (w64 (a - 1))) < a0.Offset))))] _ from ?_)
        obtain ⟨aP, ar, h⟩ := lt1 h
        refine WL.yE (ya z) (congrArg vB ar.symm) z (nl (th ?_))
        rcases cnd h with ⟨J, h⟩ | ⟨J, h⟩
        ·refine WC.condT' z J (sq (rg (wY (ya z) z (nl (th (rt (At.inBlockR (At.thenR ?_))))))))
         obtain rfl := some1 h
         have au : Stp [] (Lg.O0 A) w l d := (su_ e z)
         exact At.res (.inl z) z (.tmp z .nil) ⟨z, (se_ au z z)⟩
        ·refine WC.condF' z J (sk (At.inBlock (th (sq (rg (wY (ya z) z (nl (th (rt ?_)))))))))
         obtain rfl := some1 h
         have av : Stp [] (Lg.O0 A) w l d := (su_ e z)
         exact At.res (.inl z) z (.tmp z .nil) ⟨z, (se_ av z z)⟩
theorem c_hist_Total {A : Nat → Prop} {v0_3 : Value} {v0_5 : Value} {a0 : api_Hist} {w : World} (hs0_3 : Sl Rep.u w A v0_3 a0.Pos.Counts) (hs0_5 : Sl Rep.u w A v0_5 a0.Neg.Counts) {r0 : UInt64} {r1 : Bool} (h : hist_Total a0 = some (r0, r1)) : Rets Tryz.prog 71 [ag (hl a0 v0_3 v0_5)] w (fun v w' => v = tp [vu r0, vB r1] ∧ Ext w w') := by
 unfold hist_Total at h
 refine Rets.enter Tryz.func71 z z ?_
 have ak : Sl Rep.u w (imm (Lg.O0 A)) v0_3 a0.Pos.Counts := (Sl.start hs0_3)
 have al : Sl Rep.u w (imm (Lg.O0 A)) v0_5 a0.Neg.Counts := (Sl.start hs0_5)
 refine (show WC _ _ _ _ [(0, ag (hl a0 v0_3 v0_5))] _ from ?_)
 refine sq (rg ?_)
 have a1 := h
 obtain ⟨am, an, ao, rfl⟩ := ak.shape
 have h := a1
 have a2 := h
 obtain ⟨ap, aq, ar, rfl⟩ := al.shape
 have h := a2
 refine WL.box (O := (Lg.O0 A)) 11 (hl a0 (vl am an ao) (vl ap aq ar)) z z z ?_
 intro bH au bz e av
 refine wY (ya (v := vu 0) z) z (wY (ya z) z (nl (th (sq (rg (wY (yf fo38_1 z) z (wY (yl ty33 z z (av.cell 1 _ z)) z (wY (ya z) z (wY (ya (v := vu 0) z) z ?_)))))))))
 refine nl (th (sq (sq (rg (wY (yL ty38 z z (av.cells 0 (hl a0 (vl am an ao) (vl ap aq ar)) z) z) z ?_)))))
 have a3 := ak.i e z z
 have a4 := al.i e z z
 obtain ⟨bl, a5, h⟩ := bnd h
 refine WL.call (vals := [ag (hl a0 (vl am an ao) (vl ap aq ar))]) kok69 z z (c_hist_sides (A := imm au) (a0 := a0) a3 a4 a5) ?_
 rintro bA L ⟨a, rfl, a6, f31, bm⟩
 obtain ⟨S, ax, ay, T⟩ := adoptE au (fun k => 1) a6
 have a7 := Rows'.adoptI (O := au) f31 (fun _ hk => hk) (fun _ _ => Nat.le_refl _) ax ay
 refine wY (ym z) z (nl (th ?_))
 obtain ⟨bn, h, a8⟩ := bnd h
 refine WC.join (σ := (UInt64 × UInt64 × Own)) (fun x w' => (x.1, x.2.1) = bn ∧ Stp [12] S L x.2.2 w') (fun x => [(4, vu x.1), (5, vu x.2.1)]) ?_ ?_
 ·refine WC.block ?_
  obtain ⟨aT, h, a9⟩ := flow1 h
  obtain ⟨aU, h⟩ := loop_some h
  refine WC.joinB 0 (σ := (UInt64 × UInt64 × Own)) (fun x w' => aT = .go (x.1, x.2.1) ∧ Stp [12] S L x.2.2 w') (fun x => [(4, vu x.1), (5, vu x.2.1)]) ?_ ?_
  ·refine WC.loop (σ := (UInt64 × UInt64 × Int × Own)) (fun x k w' => loopN k (hist_Total_lp1 bl) (x.1, x.2.1, x.2.2.1) = some aT ∧ Stp [12] S L x.2.2.2 w') (fun x => [(4, vu x.1), (5, vu x.2.1), (14, Value.agg (List.toArray a)), (15, vi x.2.2.1)]) (a0.Zero, 0, 0, S) aU (.cons z (.cons z (.cons z (.cons z .nil)))) ⟨h, (sr_ _ _ _)⟩ ?_
   rintro ⟨r, l, d, az⟩ aU ba ⟨h, j⟩
   obtain ⟨bo, bI, rfl, h, aA⟩ := rnd1 h
   unfold hist_Total_lp1 at h
   try dsimp only at h j
   refine (show WC _ _ _ _ [(4, vu r), (5, vu l), (14, Value.agg (List.toArray a)), (15, vi d)] _ from ?_)
   refine sq (rg (wY (Y.lss_i z z) z (nl (th (sq ?_)))))
   rcases cnd h with ⟨M, h⟩ | ⟨M, h⟩
   ·refine WC.condT' z M (sk (th (sq (WC.block (sq (rg ?_))))))
    have bb := Rows'.i a7 j z z
    obtain ⟨o, aC, h⟩ := bnd h
    obtain ⟨bB, t, aK⟩ := arrAt (R := rep_api_Side) (w := ba) (A := imm az) (cells := a) bb aC
    obtain ⟨_, _, rfl, rfl, ⟨bp, rfl, bc⟩⟩ := aK
    replace t : _ = [vi o.Offset, bp] := t
    refine wY (Y.indexArrAg ty94 ty36 z z t aC bm) z (WL.alloc (O := az) 12 [vi 0, sn] ty36 z z ?_)
    intro bJ bq bC U bd
    have aD := bc.i U z z
    have bf := h
    obtain ⟨W, X, Z, rfl⟩ := aD.shape
    have h := bf
    refine WL.store (v := ag [vi o.Offset, (vl W X Z)]) (cells' := [vi o.Offset, (vl W X Z)]) ty36 z z bd z (le_ z) z z ?_
    intro P aa bg
    refine nl (th (sq (rg (wY (yf fo36_1 z) z (wY (yl ty34 z z (bg.cell 1 _ z)) z ?_)))))
    have aE := aD.i aa z z
    refine wY (Y.len ty34 z aE) z (wY (ym z) z (nl (th ?_)))
    obtain ⟨br, h, bh⟩ := bnd h
    refine WC.join (σ := (UInt64 × UInt64)) (fun x w' => (x.1, x.2) = br ∧ P = w') (fun x => [(4, vu x.1), (5, vu x.2), (14, Value.agg (List.toArray a)), (15, vi d)]) ?_ ?_
    ·refine WC.block ?_
     obtain ⟨aW, h, bi⟩ := flow1 h
     obtain ⟨aX, h⟩ := loop_some h
     refine WC.joinB 2 (σ := (UInt64 × UInt64)) (fun x w' => aW = .go (x.1, x.2) ∧ P = w') (fun x => [(4, vu x.1), (5, vu x.2), (14, Value.agg (List.toArray a)), (15, vi d)]) ?_ ?_
     ·refine WC.loop (σ := (UInt64 × UInt64 × Int)) (fun x k w' => loopN k (hist_Total_lp2 o) (x.1, x.2.1, x.2.2) = some aW ∧ P = w') (fun x => [(4, vu x.1), (5, vu x.2.1), (14, Value.agg (List.toArray a)), (15, vi d), (19, (vl W X Z)), (20, vi (o.Counts.length : Int)), (21, vi x.2.2)]) (r, l, 0) aX (.cons z (.cons z (.cons z (.cons z (.cons z (.cons z (.cons z .nil))))))) ⟨h, z⟩ ?_
      rintro ⟨ab, G, aY⟩ aX _ ⟨h, rfl⟩
      obtain ⟨bs, bD, rfl, h, ac⟩ := rnd1 h
      unfold hist_Total_lp2 at h
      try dsimp only at h
      refine (show WC _ _ _ _ [(4, vu ab), (5, vu G), (14, Value.agg (List.toArray a)), (15, vi d), (19, (vl W X Z)), (20, vi (o.Counts.length : Int)), (21, vi aY)] _ from ?_)
      refine sq (rg (wY (Y.lss_i z z) z (nl (th (sq ?_)))))
      rcases cnd h with ⟨C, h⟩ | ⟨C, h⟩
      ·refine WC.condT' z C (sk (th (sq (WC.block (sq (rg ?_))))))
       obtain ⟨bj, aL, h⟩ := bnd h
       obtain ⟨bE, bt, bu, bx, aM, aN, aO, D, aF, aP⟩ := Sl.at2 aE aL
       obtain rfl := aF
       replace D : CellsAt _ _ _ [vu bj] := D
       have aG := CAt.imm D aP
       refine wY (Y.indexAddr ty34 ty33 z aM z aN aO) z (wY (yl ty33 z z aG.at_) z (wY (ya z) z (nl (th (sq (rg (wY (ya (v := vu 0) z) z (nl (th ?_)))))))))
       refine sq (rg (wY (ym z) z (wY (ym z) z (wY (Y.add64 (c := 0) x64_110 (by decide) z z z) z (wY (ym z) z (wY (yx z z) z (wY (yx z z) z ?_)))))))
       obtain ⟨aH, ai, h⟩ := lt1 h
       refine WL.yE (ya z) (congrArg vu ai.symm) z ?_
       obtain ⟨bk, H, h⟩ := lt1 h
       refine WL.yE (ya z) (congrArg vu H.symm) z (nl (th (rg (wY (ym z) z (wY (ym z) z (wY (Y.or_u z z) z ?_))))))
       obtain ⟨aj, Q, h⟩ := lt1 h
       refine WL.yE (ya z) (congrArg vu Q.symm) z (nl (At.inBlock (th (rg (wY (Y.add_i z z) z (wY (ym z) z (nl ?_)))))))
       exact At.round (aH, aj, w64 (aY + 1)) bs (Nat.lt_succ_self _) ⟨next1 h ac, z⟩ (.cons z (.cons z (.cons z (.cons z (.cons z (.cons z (.cons z .nil)))))))
      ·refine WC.condF' z C (WC.exit (At.thenX (At.loopX ?_)))
       exact At.hitB (σ := (UInt64 × UInt64)) (ab, G) ⟨brk1 h ac, z⟩ (.cons z (.cons z (.cons z (.cons z .nil))))
     ·rintro ⟨ad, I⟩ _ ⟨rfl, rfl⟩
      replace h := flowK_go bi
      try dsimp only at h
      refine (show At _ _ _ [(4, vu ad), (5, vu I), (14, Value.agg (List.toArray a)), (15, vi d)] _ from ?_)
      refine At.inBlockHit ?_
      exact At.join (σ := (UInt64 × UInt64)) (ad, I) ⟨some1 h, z⟩ (.cons z (.cons z (.cons z (.cons z .nil))))
    ·rintro ⟨ae, J⟩ _ ⟨rfl, rfl⟩
     replace h := bh
     try dsimp only at h
     refine (show At _ _ _ [(4, vu ae), (5, vu J), (14, Value.agg (List.toArray a)), (15, vi d)] _ from ?_)
     refine At.inBlock (th (rg (wY (Y.add_i z z) z (wY (ym z) z (nl ?_)))))
     exact At.round (ae, J, w64 (d + 1), bq) bo (Nat.lt_succ_self _) ⟨next1 h aA, (tr_ (su_ j z) (tr_ (su_ U z) (su_ aa z)))⟩ (.cons z (.cons z (.cons z (.cons z .nil))))
   ·refine WC.condF' z M (WC.exit (At.thenX (At.loopX ?_)))
    exact At.hitB (σ := (UInt64 × UInt64 × Own)) (r, l, az) ⟨brk1 h aA, (su_ j z)⟩ (.cons z (.cons z .nil))
  ·rintro ⟨af, K, bw⟩ bG ⟨rfl, ah⟩
   replace h := flowK_go a9
   try dsimp only at h ah
   refine (show At _ _ _ [(4, vu af), (5, vu K)] _ from ?_)
   refine At.inBlockHit ?_
   exact At.join (σ := (UInt64 × UInt64 × Own)) (af, K, bw) ⟨some1 h, (su_ ah z)⟩ (.cons z (.cons z .nil))
 ·rintro ⟨aQ, aI, aZ⟩ aJ ⟨rfl, E⟩
  replace h := a8
  try dsimp only at h E
  refine (show At _ _ _ [(4, vu aQ), (5, vu aI)] _ from ?_)
  refine th (sq (sq (rg (wY (ym z) z (wY (Y.neq_u (b := 0) z z) z (nl (th ?_)))))))
  rcases cnd h with ⟨F, h⟩ | ⟨F, h⟩
  ·refine WC.condT' z F (sq (rg (wY (ya (v := vu 0) z) z (wY (ya z) z (nl (th (rt (At.thenR ?_))))))))
   obtain ⟨rfl, rfl⟩ := tup2 h
   have aR : Stp [12] (Lg.O0 A) w aZ aJ := (tr_ (su_ e z) (tr_ (su_ T z) (su_ E z)))
   exact At.res (.inl z) z (.tmp z (.tmp z .nil)) ⟨z, (se_ aR z z)⟩
  ·refine WC.condF' z F (sk (th (sq (rg (wY (ym z) z (wY (ya z) z (wY (ya z) z (nl (th ?_)))))))))
   refine rt ?_
   obtain ⟨rfl, rfl⟩ := tup2 h
   have aS : Stp [12] (Lg.O0 A) w aZ aJ := (tr_ (su_ e z) (tr_ (su_ T z) (su_ E z)))
   exact At.res (.inl z) z (.tmp z (.tmp z .nil)) ⟨z, (se_ aS z z)⟩
theorem c_hist_Check {A : Nat → Prop} {v0_3 : Value} {v0_5 : Value} {a0 : api_Hist} {w : World} (hs0_3 : Sl Rep.u w A v0_3 a0.Pos.Counts) (hs0_5 : Sl Rep.u w A v0_5 a0.Neg.Counts) {r0 : Int} (h : hist_Check a0 = some r0) : Rets Tryz.prog 39 [ag (hl a0 v0_3 v0_5)] w (fun v w' => v = vi r0 ∧ Ext w w') := by
 unfold hist_Check at h
 refine Rets.enter Tryz.func39 z z ?_
 have af : Sl Rep.u w (imm (Lg.O0 A)) v0_3 a0.Pos.Counts := (Sl.start hs0_3)
 have ah : Sl Rep.u w (imm (Lg.O0 A)) v0_5 a0.Neg.Counts := (Sl.start hs0_5)
 refine (show WC _ _ _ _ [(0, ag (hl a0 v0_3 v0_5))] _ from ?_)
 refine sq (rg ?_)
 have aI := h
 obtain ⟨F, G, H, rfl⟩ := af.shape
 have h := aI
 have aJ := h
 obtain ⟨I, J, K, rfl⟩ := ah.shape
 have h := aJ
 refine WL.box (O := (Lg.O0 A)) 11 (hl a0 (vl F G H) (vl I J K)) z z z ?_
 intro l X ai a r
 refine wY (ya z) z (nl (th (sq (sq (rg (wY (yf fo38_0 z) z (wY (yl ty3 z z (r.cell 0 _ z)) z (wY (Y.lss_i z z) z (wY (ym z) z ?_)))))))))
 refine WL.cut 4 (σ := Unit) (fun _ w' => ai = w') (fun _ => [(1, pt l 0), (15, vB ((decide (a0.Scale < (-10))) || (decide (20 < a0.Scale))))]) ?_ ?_
 ·refine WL.part 11 z (fun M => ?_) (fun M => ?_)
  ·refine WL.gS z z z z (WL.gS z z z z (WL.gS z z z z (wY (Y.pick (b := true) z z) z (WL.ren (v' := vB ((decide (a0.Scale < (-10))) || (decide (20 < a0.Scale)))) 15 z (congrArg vB (orT M)) ?_))))
   exact nl (At.join () z (.cons z (.cons z .nil)))
  ·refine ug z z (wY (yf fo38_0 z) z (ug z z (wY (yl ty3 z z (r.cell 0 _ z)) z (ug z z (wY (Y.gtr_i z z) z (wY (Y.pick (b := false) z z) z (WL.ren (v' := vB ((decide (a0.Scale < (-10))) || (decide (20 < a0.Scale)))) 15 z (congrArg vB (orF M)) ?_)))))))
   exact nl (At.join () z (.cons z (.cons z .nil)))
 ·rintro _ _ rfl
  refine (show WL _ _ _ _ _ [(1, pt l 0), (15, vB ((decide (a0.Scale < (-10))) || (decide (20 < a0.Scale))))] _ from ?_)
  refine nl (th ?_)
  rcases cnd h with ⟨P, h⟩ | ⟨P, h⟩
  ·refine WC.condT' z P (sq (rg (wY (ya z) z (nl (th (rt (At.thenR ?_)))))))
   obtain rfl := some1 h
   have aK : Stp [] (Lg.O0 A) w X ai := (su_ a z)
   exact At.res (.inl z) z (.tmp z .nil) ⟨z, (se_ aK z z)⟩
  ·refine WC.condF' z P (sk (th (sq (sq (rg (wY (yL ty38 z z (r.cells 0 (hl a0 (vl F G H) (vl I J K)) z) z) z ?_))))))
   have aj := af.i a z z
   have ak := ah.i a z z
   obtain ⟨a8, aL, h⟩ := bnd h
   refine WL.call (vals := [ag (hl a0 (vl F G H) (vl I J K))]) kok69 z z (c_hist_sides (A := imm X) (a0 := a0) aj ak aL) ?_
   rintro bl Q ⟨S, rfl, aM, a9, ba⟩
   obtain ⟨Z, al, am, d⟩ := adoptE X (fun k => 1) aM
   have aN := Rows'.adoptI (O := X) a9 (fun _ hk => hk) (fun _ _ => Nat.le_refl _) al am
   refine wY (ym z) z (nl (th ?_))
   obtain ⟨bb, h, an⟩ := flow1 h
   refine WC.join (σ := Own) (fun x w' => bb = .go () ∧ Stp [12] Z Q x w') (fun x => [(1, pt l 0)]) ?_ ?_
   ·refine WC.block ?_
    obtain ⟨aE, h, ao⟩ := flow1 h
    obtain ⟨aF, h⟩ := loop_some h
    refine WC.joinB 0 (σ := Own) (fun x w' => aE = .go () ∧ Stp [12] Z Q x w') (fun x => [(1, pt l 0)]) ?_ ?_
    ·refine WC.loop (σ := (Int × Own)) (fun x k w' => loopN k (hist_Check_lp1 a8) x.1 = some aE ∧ Stp [12] Z Q x.2 w') (fun x => [(1, pt l 0), (17, Value.agg (List.toArray S)), (18, vi x.1)]) (0, Z) aF (.cons z (.cons z (.cons z .nil))) ⟨h, (sr_ _ _ _)⟩ ?_
     rintro ⟨aG, ap⟩ aF aO ⟨h, e⟩
     obtain ⟨bc, bu, rfl, h, T⟩ := rnd1 h
     unfold hist_Check_lp1 at h
     try dsimp only at h e
     refine (show WC _ _ _ _ [(1, pt l 0), (17, Value.agg (List.toArray S)), (18, vi aG)] _ from ?_)
     refine sq (rg (wY (Y.lss_i z z) z (nl (th (sq ?_)))))
     rcases cnd h with ⟨U, h⟩ | ⟨U, h⟩
     ·refine WC.condT' z U (sk (th (sq (WC.block (sq (rg ?_))))))
      have aP := Rows'.i aN e z z
      obtain ⟨o, aq, h⟩ := bnd h
      obtain ⟨bm, t, av⟩ := arrAt (R := rep_api_Side) (w := aO) (A := imm ap) (cells := S) aP aq
      obtain ⟨_, _, rfl, rfl, ⟨bd, rfl, aQ⟩⟩ := av
      replace t : _ = [vi o.Offset, bd] := t
      refine wY (Y.indexArrAg ty94 ty36 z z t aq ba) z (WL.alloc (O := ap) 12 [vi 0, sn] ty36 z z ?_)
      intro bw bf bn C aR
      have ar := aQ.i C z z
      have aS := h
      obtain ⟨aa, ab, ac, rfl⟩ := ar.shape
      have h := aS
      refine WL.store (v := ag [vi o.Offset, (vl aa ab ac)]) (cells' := [vi o.Offset, (vl aa ab ac)]) ty36 z z aR z (le_ z) z z ?_
      intro bo D aT
      refine nl (th (sq (rg (wY (yL ty36 z z (aT.cells 0 [vi o.Offset, (vl aa ab ac)] z) z) z ?_))))
      have aU := ar.i D z z
      obtain ⟨bx, aW, h⟩ := bnd h
      refine WL.call (vals := [ag [vi o.Offset, (vl aa ab ac)]]) kok70 z z (c_hist_check (A := fun _ => True) (a0 := o) (Sl.all aU) aW) ?_
      rintro bp aX ⟨rfl, aY⟩
      obtain ⟨aH, bg, bh, ad⟩ := adoptE bf (fun k => 1) aY
      refine wY (ya z) z (nl (th (sq (rg (wY (ym z) z (wY (Y.neq_i z z) z (nl (th ?_))))))))
      rcases cnd h with ⟨W, h⟩ | ⟨W, h⟩
      ·refine WC.condT' z W (sq (rg (wY (ym z) z (wY (ya z) z (nl (th (rt (At.inBlockR (At.thenR ?_)))))))))
       refine At.loopR ?_
       have h := outr1 h T ao
       refine At.joinBR (At.inBlockR ?_)
       have h := outs1 h an
       refine At.joinR (At.thenR ?_)
       obtain rfl := some1 h
       have aZ : Stp [12] (Lg.O0 A) w aH aX := (tr_ (su_ a z) (tr_ (su_ d z) (tr_ (su_ e z) (tr_ (su_ C z) (tr_ (su_ D z) (su_ ad z))))))
       exact At.res (.inl z) z (.tmp z .nil) ⟨z, (se_ aZ z z)⟩
      ·refine WC.condF' z W (sk (At.inBlock (th (rg (wY (Y.add_i z z) z (wY (ym z) z (nl ?_)))))))
       exact At.round (w64 (aG + 1), aH) bc (Nat.lt_succ_self _) ⟨next1 h T, (tr_ (su_ e z) (tr_ (su_ C z) (tr_ (su_ D z) (su_ ad z))))⟩ (.cons z (.cons z (.cons z .nil)))
     ·refine WC.condF' z U (WC.exit (At.thenX (At.loopX ?_)))
      exact At.hitB (σ := Own) ap ⟨brk1 h T, (su_ e z)⟩ (.cons z .nil)
    ·rintro bi bq ⟨rfl, ax⟩
     replace h := flowK_go ao
     refine (show At _ _ _ [(1, pt l 0)] _ from ?_)
     refine At.inBlockHit ?_
     exact At.join (σ := Own) bi ⟨go2 h, (su_ ax z)⟩ (.cons z .nil)
   ·rintro bj br ⟨rfl, j⟩
    replace h := flowK_go an
    refine (show At _ _ _ [(1, pt l 0)] _ from ?_)
    refine th (sq (sq (rg ?_)))
    have a2 := (r.st d z).st j z
    refine wY (yL ty38 z z (a2.cells 0 (hl a0 (vl F G H) (vl I J K)) z) z) z ?_
    have a4 := (aj.i d z z).i j z z
    have ay := (ak.i d z z).i j z z
    obtain ⟨⟨bs, bt⟩, az, h⟩ := bnd h
    refine WL.call (vals := [ag (hl a0 (vl F G H) (vl I J K))]) kok71 z z (c_hist_Total (A := fun _ => True) (a0 := a0) (Sl.all a4) (Sl.all ay) az) ?_
    rintro bk ae ⟨rfl, aA⟩
    obtain ⟨au, a6, a7, L⟩ := adoptE bj (fun k => 1) aA
    refine wY (ym z) z (wY (yx z z) z (wY (yx z z) z (wY (ya z) z (wY (ya z) z (nl (th (sq (rg (wY (ym z) z ?_)))))))))
    refine wY (Y.not z) z (nl (th ?_))
    rcases cnd h with ⟨E, h⟩ | ⟨E, h⟩
    ·refine WC.condT' z E (sq (rg (wY (ya z) z (nl (th (rt (At.thenR ?_)))))))
     obtain rfl := some1 h
     have aC : Stp [12] (Lg.O0 A) w au ae := (tr_ (su_ a z) (tr_ (su_ d z) (tr_ (su_ j z) (su_ L z))))
     exact At.res (.inl z) z (.tmp z .nil) ⟨z, (se_ aC z z)⟩
    ·refine WC.condF' z E (sk (th (sq (rg (wY (ya z) z (nl (th (rt ?_))))))))
     obtain rfl := some1 h
     have aD : Stp [12] (Lg.O0 A) w au ae := (tr_ (su_ a z) (tr_ (su_ d z) (tr_ (su_ j z) (su_ L z))))
     exact At.res (.inl z) z (.tmp z .nil) ⟨z, (se_ aD z z)⟩
theorem c_point_Check {A : Nat → Prop} {v0_1 : Value} {v0_13 : Value} {v0_15 : Value} {a0 : api_Point} {w : World} (hs0_1 : Sl rep_api_Pair w A v0_1 a0.Attrs) (hs0_13 : Sl Rep.u w A v0_13 a0.Hist.Pos.Counts) (hs0_15 : Sl Rep.u w A v0_15 a0.Hist.Neg.Counts) {r0 : Int} (h : point_Check a0 = some r0) : Rets Tryz.prog 17 [ag (cp a0 v0_1 v0_13 v0_15)] w (fun v w' => v = vi r0 ∧ Ext w w') := by
 unfold point_Check at h
 refine Rets.enter Tryz.func17 z z ?_
 have aE : Sl rep_api_Pair w (imm (Lg.O0 A)) v0_1 a0.Attrs := (Sl.start hs0_1)
 have aF : Sl Rep.u w (imm (Lg.O0 A)) v0_13 a0.Hist.Pos.Counts := (Sl.start hs0_13)
 have aG : Sl Rep.u w (imm (Lg.O0 A)) v0_15 a0.Hist.Neg.Counts := (Sl.start hs0_15)
 refine (show WC _ _ _ _ [(0, ag (cp a0 v0_1 v0_13 v0_15))] _ from ?_)
 refine sq (rg ?_)
 have br := h
 obtain ⟨J, K, L, rfl⟩ := aE.shape
 have h := br
 have bs := h
 obtain ⟨D, E, F, rfl⟩ := aF.shape
 have h := bs
 have bt := h
 obtain ⟨G, H, I, rfl⟩ := aG.shape
 have h := bt
 refine WL.box (O := (Lg.O0 A)) 11 (cp a0 (vl J K L) (vl D E F) (vl G H I)) z z z ?_
 intro C cn cJ e am
 refine wY (ya z) z (nl (th (sq (sq (rg (wY (yf fo40_0 z) z (wY (yl ty9 z z (am.cell 0 _ z)) z (wY (yf fo40_1 z) z (wY (yl ty32 z z (am.cell 1 _ z)) z ?_)))))))))
 have aH := aE.i e z z
 obtain ⟨cV, bu, h⟩ := bnd h
 refine WL.call (vals := [vs a0.Name, (vl J K L)]) kok32 z z (c_label_Check (A := fun _ => True) (Sl.all aH) bu) ?_
 rintro cK bw ⟨rfl, bx⟩
 obtain ⟨bn, co, cq, d⟩ := adoptE cn (fun k => 1) bx
 refine wY (ya z) z (nl (th (sq (rg (wY (ym z) z (wY (Y.neq_i z z) z (nl (th ?_))))))))
 rcases cnd h with ⟨an, h⟩ | ⟨an, h⟩
 ·refine WC.condT' z an (sq (rg (wY (ym z) z (wY (ya z) z (nl (th (rt (At.thenR ?_))))))))
  obtain rfl := some1 h
  have bz : Stp [] (Lg.O0 A) w bn bw := (tr_ (su_ e z) (su_ d z))
  exact At.res (.inl z) z (.tmp z .nil) ⟨z, (se_ bz z z)⟩
 ·refine WC.condF' z an (sk (th (sq (WC.block (sq (rg ?_))))))
  have ao := am.st d z
  refine wY (yL ty40 z z (ao.cells 0 (cp a0 (vl J K L) (vl D E F) (vl G H I)) z) z) z ?_
  have S := aH.i d z z
  have T := (aF.i e z z).i d z z
  have U := (aG.i e z z).i d z z
  obtain ⟨cW, bC, h⟩ := bnd h
  refine WL.call (vals := [ag (cp a0 (vl J K L) (vl D E F) (vl G H I))]) kok33 z z (c_point_kinds (A := fun _ => True) (a0 := a0) (Sl.all S) (Sl.all T) (Sl.all U) bC) ?_
  rintro cL ap ⟨rfl, bD⟩
  obtain ⟨ak, cr, cs, a⟩ := adoptE bn (fun k => 1) bD
  refine wY (Y.not z) z ?_
  obtain ⟨cX, bE, h⟩ := lt1 h
  refine WL.yE (ya z) (congrArg vB bE.symm) z (nl (th ?_))
  rcases cnd h with ⟨aq, h⟩ | ⟨aq, h⟩
  ·refine WC.condT' z aq (sq (rg (wY (ya z) z (nl (th (rt (At.inBlockR (At.thenR ?_))))))))
   obtain rfl := some1 h
   have bG : Stp [] (Lg.O0 A) w ak ap := (tr_ (su_ e z) (tr_ (su_ d z) (su_ a z)))
   exact At.res (.inl z) z (.tmp z .nil) ⟨z, (se_ bG z z)⟩
  ·refine WC.condF' z aq (sq ?_)
   obtain ⟨ct, h, bH⟩ := bnd h
   refine WC.join (σ := (Bool × Own)) (fun x w' => x.1 = ct ∧ Stp [] ak ap x.2 w') (fun x => [(1, pt C 0), (16, vB x.1)]) ?_ ?_
   ·refine sq (rg (wY (yf fo40_4 z) z ?_))
    have ar := ao.st a z
    refine wY (yl ty4 z z (ar.cell 4 _ z)) z (wY (ym z) z ?_)
    obtain ⟨cu, h, bI⟩ := bnd h
    refine WL.cut 4 (σ := (Bool × Own)) (fun x w' => x.1 = cu ∧ Stp [] ak ap x.2 w') (fun x => [(1, pt C 0), (23, vB x.1)]) ?_ ?_
    ·rcases cnd h with ⟨au, h⟩ | ⟨au, h⟩
     ·refine WL.ren 19 z (congrArg vB au) (ug z z (wY (yL ty40 z z (ar.cells 0 (cp a0 (vl J K L) (vl D E F) (vl G H I)) z) z) z (ug z z ?_)))
      have bJ := S.i a z z
      have bK := T.i a z z
      have bL := U.i a z z
      obtain ⟨cw, bM, h⟩ := bnd h
      refine WL.call (vals := [ag (cp a0 (vl J K L) (vl D E F) (vl G H I))]) kok34 z z (c_point_sum (A := fun _ => True) (a0 := a0) (Sl.all bJ) (Sl.all bK) (Sl.all bL) bM) ?_
      rintro cM cN ⟨rfl, bO⟩
      obtain ⟨cx, cy, cz, aN⟩ := adoptE ak (fun k => 1) bO
      refine ug z z (wY (Y.not z) z (wY (Y.pick (b := true) z z) z ?_))
      exact nl (At.join (σ := (Bool × Own)) ((!cw), cx) ⟨some1 h, (su_ aN z)⟩ (.cons z (.cons z .nil)))
     ·refine WL.ren 19 z (congrArg vB au) (WL.gS z z z z (WL.gS z z z z (WL.gS z z z z (wY (Y.pick (b := false) z z) z ?_))))
      exact nl (At.join (σ := (Bool × Own)) (false, ak) ⟨some1 h, (sr_ _ _ _)⟩ (.cons z (.cons z .nil)))
    ·rintro ⟨bo, bp⟩ cO ⟨rfl, t⟩
     replace h := bI
     try dsimp only at h t
     refine (show WL _ _ _ _ _ [(1, pt C 0), (23, vB bo)] _ from ?_)
     refine wY (ya z) z (nl (th ?_))
     rcases cnd h with ⟨av, h⟩ | ⟨av, h⟩
     ·refine WC.condT' z av (sk ?_)
      exact At.join (σ := (Bool × Own)) (bo, bp) ⟨some1 h, (su_ t z)⟩ (.cons z (.cons z .nil))
     ·refine WC.condF' z av (rg ?_)
      have bP := ar.st t z
      refine wY (yL ty40 z z (bP.cells 0 (cp a0 (vl J K L) (vl D E F) (vl G H I)) z) z) z ?_
      have bR := (S.i a z z).i t z z
      have bT := (T.i a z z).i t z z
      have bW := (U.i a z z).i t z z
      obtain ⟨cY, bX, h⟩ := bnd h
      refine WL.call (vals := [ag (cp a0 (vl J K L) (vl D E F) (vl G H I))]) kok35 z z (c_point_times (A := fun _ => True) (a0 := a0) (Sl.all bR) (Sl.all bT) (Sl.all bW) bX) ?_
      rintro cP cQ ⟨rfl, bY⟩
      obtain ⟨bZ, cd, ce, aI⟩ := adoptE bp (fun k => 1) bY
      refine wY (Y.not z) z ?_
      obtain ⟨b0, aO, h⟩ := lt1 h
      refine WL.yE (ya z) (congrArg vB aO.symm) z (nl ?_)
      exact At.join (σ := (Bool × Own)) (b0, bZ) ⟨some1 h, (tr_ (su_ t z) (su_ aI z))⟩ (.cons z (.cons z .nil))
   ·rintro ⟨cA, bq⟩ b1 ⟨rfl, j⟩
    replace h := bH
    try dsimp only at h j
    refine (show At _ _ _ [(1, pt C 0), (16, vB cA)] _ from ?_)
    refine th ?_
    rcases cnd h with ⟨W, h⟩ | ⟨W, h⟩
    ·refine WC.condT' z W (sq (rg (wY (ya z) z (nl (th (rt (At.inBlockR (At.thenR ?_))))))))
     obtain rfl := some1 h
     have aP : Stp [] (Lg.O0 A) w bq b1 := (tr_ (su_ e z) (tr_ (su_ d z) (tr_ (su_ a z) (su_ j z))))
     exact At.res (.inl z) z (.tmp z .nil) ⟨z, (se_ aP z z)⟩
    ·refine WC.condF' z W (sq (rg ?_))
     have ay := (ao.st a z).st j z
     refine wY (yL ty40 z z (ay.cells 0 (cp a0 (vl J K L) (vl D E F) (vl G H I)) z) z) z ?_
     have aS := (S.i a z z).i j z z
     have az := (T.i a z z).i j z z
     have aA := (U.i a z z).i j z z
     obtain ⟨cR, aW, h⟩ := bnd h
     refine WL.call (vals := [ag (cp a0 (vl J K L) (vl D E F) (vl G H I))]) kok36 z z (c_point_own (A := fun _ => True) (a0 := a0) (Sl.all aS) (Sl.all az) (Sl.all aA) aW) ?_
     rintro cC X ⟨rfl, aX⟩
     obtain ⟨Z, cf, cg, l⟩ := adoptE bq (fun k => 1) aX
     refine wY (Y.not z) z ?_
     obtain ⟨cS, aY, h⟩ := lt1 h
     refine WL.yE (ya z) (congrArg vB aY.symm) z (nl (th ?_))
     rcases cnd h with ⟨aa, h⟩ | ⟨aa, h⟩
     ·refine WC.condT' z aa (sq (rg (wY (ya z) z (nl (th (rt (At.inBlockR (At.thenR ?_))))))))
      obtain rfl := some1 h
      have aZ : Stp [] (Lg.O0 A) w Z X := (tr_ (su_ e z) (tr_ (su_ d z) (tr_ (su_ a z) (tr_ (su_ j z) (su_ l z)))))
      exact At.res (.inl z) z (.tmp z .nil) ⟨z, (se_ aZ z z)⟩
     ·refine WC.condF' z aa (sq (rg (wY (yf fo40_4 z) z ?_)))
      have P := ay.st l z
      refine wY (yl ty4 z z (P.cell 4 _ z)) z (wY (ym z) z ?_)
      refine WL.cut 4 (σ := Unit) (fun _ w' => X = w') (fun _ => [(1, pt C 0), (38, vB (a0.Mono && (decide (a0.Kind = 2))))]) ?_ ?_
      ·refine WL.part 34 z (fun ab => ?_) (fun ab => ?_)
       ·refine ug z z (wY (yf fo40_2 z) z (ug z z (wY (yl ty3 z z (P.cell 2 _ z)) z (ug z z (wY (Y.eql_i z z) z (wY (Y.pick (b := true) z z) z (WL.ren (v' := vB (a0.Mono && (decide (a0.Kind = 2)))) 38 z (congrArg vB (andT ab)) ?_)))))))
        exact nl (At.join () z (.cons z (.cons z .nil)))
       ·refine WL.gS z z z z (WL.gS z z z z (WL.gS z z z z (wY (Y.pick (b := false) z z) z (WL.ren (v' := vB (a0.Mono && (decide (a0.Kind = 2)))) 38 z (congrArg vB (andF ab)) ?_))))
        exact nl (At.join () z (.cons z (.cons z .nil)))
      ·rintro _ _ rfl
       refine (show WL _ _ _ _ _ [(1, pt C 0), (38, vB (a0.Mono && (decide (a0.Kind = 2))))] _ from ?_)
       refine wY (ym z) z ?_
       obtain ⟨b2, h, a1⟩ := bnd h
       refine WL.cut 5 (σ := (Bool × Own)) (fun x w' => x.1 = b2 ∧ Stp [] Z X x.2 w') (fun x => [(1, pt C 0), (44, vB x.1)]) ?_ ?_
       ·rcases cnd h with ⟨ac, h⟩ | ⟨ac, h⟩
        ·refine WL.ren 39 z (congrArg vB ac) (ug z z (wY (yf fo40_8 z) z (ug z z (wY (yl ty33 z z (P.cell 8 _ z)) z (ug z z ?_)))))
         obtain ⟨b3, a2, h⟩ := bnd h
         refine WL.call (vals := [vu a0.Re]) kok37 z z (c_num_Finite a2) ?_
         rintro cD cE ⟨rfl, a3⟩
         obtain ⟨b4, ch, ci, aJ⟩ := adoptE Z (fun k => 1) a3
         refine ug z z (wY (Y.not z) z (wY (Y.pick (b := true) z z) z ?_))
         exact nl (At.join (σ := (Bool × Own)) ((!b3), b4) ⟨some1 h, (su_ aJ z)⟩ (.cons z (.cons z .nil)))
        ·refine WL.ren 39 z (congrArg vB ac) (WL.gS z z z z (WL.gS z z z z (WL.gS z z z z (WL.gS z z z z (wY (Y.pick (b := false) z z) z ?_)))))
         exact nl (At.join (σ := (Bool × Own)) (false, Z) ⟨some1 h, (sr_ _ _ _)⟩ (.cons z (.cons z .nil)))
       ·rintro ⟨b5, M⟩ ad ⟨rfl, o⟩
        replace h := a1
        try dsimp only at h o
        refine (show WL _ _ _ _ _ [(1, pt C 0), (44, vB b5)] _ from ?_)
        refine wY (ya z) z (nl (th ?_))
        rcases cnd h with ⟨ae, h⟩ | ⟨ae, h⟩
        ·refine WC.condT' z ae (sq (rg (wY (ya z) z (nl (th (rt (At.inBlockR (At.thenR ?_))))))))
         obtain rfl := some1 h
         have a4 : Stp [] (Lg.O0 A) w M ad := (tr_ (su_ e z) (tr_ (su_ d z) (tr_ (su_ a z) (tr_ (su_ j z) (tr_ (su_ l z) (su_ o z))))))
         exact At.res (.inl z) z (.tmp z .nil) ⟨z, (se_ a4 z z)⟩
        ·refine WC.condF' z ae (sq (rg (wY (yf fo40_4 z) z ?_)))
         have Q := P.st o z
         refine wY (yl ty4 z z (Q.cell 4 _ z)) z (wY (ym z) z ?_)
         obtain ⟨b6, h, a5⟩ := bnd h
         refine WL.cut 9 (σ := (Bool × Own)) (fun x w' => x.1 = b6 ∧ Stp [] M ad x.2 w') (fun x => [(1, pt C 0), (57, vB x.1)]) ?_ ?_
         ·rcases cnd h with ⟨af, h⟩ | ⟨af, h⟩
          ·refine WL.ren 48 z (congrArg vB af) (ug z z (wY (yf fo40_7 z) z (ug z z (wY (yl ty3 z z (Q.cell 7 _ z)) z (ug z z (wY (Y.lss_i z z) z (ug z z (wY (ym z) z ?_))))))))
           obtain ⟨b7, h, a6⟩ := bnd h
           refine WL.cut 4 (σ := (Bool × Own)) (fun x w' => x.1 = b7 ∧ Stp [] M ad x.2 w') (fun x => [(1, pt C 0), (48, vB true), (56, vB x.1)]) ?_ ?_
           ·rcases cnd h with ⟨ah, h⟩ | ⟨ah, h⟩
            ·refine WL.ren 52 z (congrArg vB ah) (WL.gS z z z z (WL.gS z z z z (WL.gS z z z z (ug z z (wY (Y.pick (b := true) z z) z ?_)))))
             exact nl (At.join (σ := (Bool × Own)) (true, M) ⟨some1 h, (sr_ _ _ _)⟩ (.cons z (.cons z (.cons z .nil))))
            ·refine WL.ren 52 z (congrArg vB ah) (ug z z (wY (yf fo40_8 z) z (ug z z (wY (yl ty33 z z (Q.cell 8 _ z)) z (ug z z ?_)))))
             obtain ⟨b8, a7, h⟩ := bnd h
             refine WL.call (vals := [vu a0.Re, vu 0]) kok38 z z (c_num_Less a7) ?_
             rintro cF cG ⟨rfl, a8⟩
             obtain ⟨b9, cj, ck, aK⟩ := adoptE M (fun k => 1) a8
             refine ug z z (wY (Y.pick (b := false) z z) z ?_)
             exact nl (At.join (σ := (Bool × Own)) (b8, b9) ⟨some1 h, (su_ aK z)⟩ (.cons z (.cons z (.cons z .nil))))
           ·rintro ⟨aL, ca⟩ cH ⟨rfl, al⟩
            replace h := a6
            try dsimp only at h al
            refine (show WL _ _ _ _ _ [(1, pt C 0), (48, vB true), (56, vB aL)] _ from ?_)
            refine wY (Y.pick (b := true) z z) z ?_
            exact nl (At.join (σ := (Bool × Own)) (aL, ca) ⟨some1 h, (su_ al z)⟩ (.cons z (.cons z .nil)))
          ·refine WL.ren 48 z (congrArg vB af) (WL.gS z z z z (WL.gS z z z z (WL.gS z z z z (WL.gS z z z z (WL.gS z z z z (WL.gS z z z z (WL.gS z z z z (WL.gS z z z z (wY (Y.pick (b := false) z z) z ?_)))))))))
           exact nl (At.join (σ := (Bool × Own)) (false, M) ⟨some1 h, (sr_ _ _ _)⟩ (.cons z (.cons z .nil)))
         ·rintro ⟨cb, ax⟩ aC ⟨rfl, r⟩
          replace h := a5
          try dsimp only at h r
          refine (show WL _ _ _ _ _ [(1, pt C 0), (57, vB cb)] _ from ?_)
          refine wY (ya z) z (nl (th ?_))
          rcases cnd h with ⟨ai, h⟩ | ⟨ai, h⟩
          ·refine WC.condT' z ai (sq (rg (wY (ya z) z (nl (th (rt (At.inBlockR (At.thenR ?_))))))))
           obtain rfl := some1 h
           have a9 : Stp [] (Lg.O0 A) w ax aC := (tr_ (su_ e z) (tr_ (su_ d z) (tr_ (su_ a z) (tr_ (su_ j z) (tr_ (su_ l z) (tr_ (su_ o z) (su_ r z)))))))
           exact At.res (.inl z) z (.tmp z .nil) ⟨z, (se_ a9 z z)⟩
          ·refine WC.condF' z ai (sq (rg (wY (yf fo40_2 z) z ?_)))
           have aD := Q.st r z
           refine wY (yl ty3 z z (aD.cell 2 _ z)) z (wY (Y.eql_i z z) z ?_)
           obtain ⟨cT, ba, h⟩ := lt1 h
           refine WL.yE (ya z) (congrArg vB ba.symm) z (nl (th ?_))
           rcases cnd h with ⟨aj, h⟩ | ⟨aj, h⟩
           ·refine WC.condT' z aj (sq (rg (wY (yf fo40_10 z) z (wY (yL ty38 z z (aD.cells 10 (hl a0.Hist (vl D E F) (vl G H I)) z) z) z ?_))))
            have bd := ((az.i l z z).i o z z).i r z z
            have bh := ((aA.i l z z).i o z z).i r z z
            obtain ⟨cU, bi, h⟩ := bnd h
            refine WL.call (vals := [ag (hl a0.Hist (vl D E F) (vl G H I))]) kok39 z z (c_hist_Check (A := fun _ => True) (a0 := a0.Hist) (Sl.all bd) (Sl.all bh) bi) ?_
            rintro cI bj ⟨rfl, bk⟩
            obtain ⟨cc, cl, cm, aM⟩ := adoptE ax (fun k => 1) bk
            refine wY (ya z) z (nl (th (rt (At.inBlockR (At.thenR ?_)))))
            obtain rfl := some1 h
            have bl : Stp [] (Lg.O0 A) w cc bj := (tr_ (su_ e z) (tr_ (su_ d z) (tr_ (su_ a z) (tr_ (su_ j z) (tr_ (su_ l z) (tr_ (su_ o z) (tr_ (su_ r z) (su_ aM z))))))))
            exact At.res (.inl z) z (.tmp z .nil) ⟨z, (se_ bl z z)⟩
           ·refine WC.condF' z aj (sk (At.inBlock (th (sq (rg (wY (ya z) z (nl (th (rt ?_)))))))))
            obtain rfl := some1 h
            have bm : Stp [] (Lg.O0 A) w ax aC := (tr_ (su_ e z) (tr_ (su_ d z) (tr_ (su_ a z) (tr_ (su_ j z) (tr_ (su_ l z) (tr_ (su_ o z) (su_ r z)))))))
            exact At.res (.inl z) z (.tmp z .nil) ⟨z, (se_ bm z z)⟩
theorem c_wire_check {A : Nat → Prop} {v0_3 : Value} {a0 : api_Fld} {w : World} (hs0_3 : Sl Rep.b w A v0_3 a0.B) {r0 : Int} (h : wire_check a0 = some r0) : Rets Tryz.prog 80 [ag [vi a0.Num, vi a0.Type_, vu a0.V, v0_3]] w (fun v w' => v = vi r0 ∧ Ext w w') := by
 unfold wire_check at h
 refine Rets.enter Tryz.func80 z z ?_
 have I : Sl Rep.b w (imm (Lg.O0 A)) v0_3 a0.B := (Sl.start hs0_3)
 refine (show WC _ _ _ _ [(0, ag [vi a0.Num, vi a0.Type_, vu a0.V, v0_3])] _ from ?_)
 refine sq (rg ?_)
 have J := h
 obtain ⟨aa, ab, ac, rfl⟩ := I.shape
 have h := J
 refine WL.box (O := (Lg.O0 A)) 11 [vi a0.Num, vi a0.Type_, vu a0.V, (vl aa ab ac)] z z z ?_
 intro j l a d e
 refine wY (ya z) z (nl (th (sq (WC.block (sq (rg (wY (yf fo72_0 z) z (wY (yl ty3 z z (e.cell 0 _ z)) z (wY (Y.lss_i z z) z ?_)))))))))
 refine wY (ym z) z ?_
 refine WL.cut 4 (σ := Unit) (fun _ w' => a = w') (fun _ => [(1, pt j 0), (11, vB ((decide (a0.Num < 1)) || (decide (536870911 < a0.Num))))]) ?_ ?_
 ·refine WL.part 7 z (fun o => ?_) (fun o => ?_)
  ·refine WL.gS z z z z (WL.gS z z z z (WL.gS z z z z (wY (Y.pick (b := true) z z) z (WL.ren (v' := vB ((decide (a0.Num < 1)) || (decide (536870911 < a0.Num)))) 11 z (congrArg vB (orT o)) ?_))))
   exact nl (At.join () z (.cons z (.cons z .nil)))
  ·refine ug z z (wY (yf fo72_0 z) z (ug z z (wY (yl ty3 z z (e.cell 0 _ z)) z (ug z z (wY (Y.gtr_i z z) z (wY (Y.pick (b := false) z z) z (WL.ren (v' := vB ((decide (a0.Num < 1)) || (decide (536870911 < a0.Num)))) 11 z (congrArg vB (orF o)) ?_)))))))
   exact nl (At.join () z (.cons z (.cons z .nil)))
 ·rintro _ _ rfl
  refine (show WL _ _ _ _ _ [(1, pt j 0), (11, vB ((decide (a0.Num < 1)) || (decide (536870911 < a0.Num))))] _ from ?_)
  obtain ⟨ad, K, h⟩ := lt1 h
  refine WL.yE (ya z) (congrArg vB K.symm) z (nl (th ?_))
  rcases cnd h with ⟨r, h⟩ | ⟨r, h⟩
  ·refine WC.condT' z r (sq (rg (wY (ya z) z (nl (th (rt (At.inBlockR (At.thenR ?_))))))))
   obtain rfl := some1 h
   have L : Stp [] (Lg.O0 A) w l a := (su_ d z)
   exact At.res (.inl z) z (.tmp z .nil) ⟨z, (se_ L z z)⟩
  ·refine WC.condF' z r (sq (rg (wY (yf fo72_1 z) z (wY (yl ty3 z z (e.cell 1 _ z)) z (wY (Y.lss_i z z) z (wY (ym z) z ?_))))))
   refine WL.cut 4 (σ := Unit) (fun _ w' => a = w') (fun _ => [(1, pt j 0), (20, vB ((decide (a0.Type_ < 0)) || (decide (2 < a0.Type_))))]) ?_ ?_
   ·refine WL.part 16 z (fun t => ?_) (fun t => ?_)
    ·refine WL.gS z z z z (WL.gS z z z z (WL.gS z z z z (wY (Y.pick (b := true) z z) z (WL.ren (v' := vB ((decide (a0.Type_ < 0)) || (decide (2 < a0.Type_)))) 20 z (congrArg vB (orT t)) ?_))))
     exact nl (At.join () z (.cons z (.cons z .nil)))
    ·refine ug z z (wY (yf fo72_1 z) z (ug z z (wY (yl ty3 z z (e.cell 1 _ z)) z (ug z z (wY (Y.gtr_i z z) z (wY (Y.pick (b := false) z z) z (WL.ren (v' := vB ((decide (a0.Type_ < 0)) || (decide (2 < a0.Type_)))) 20 z (congrArg vB (orF t)) ?_)))))))
     exact nl (At.join () z (.cons z (.cons z .nil)))
   ·rintro _ _ rfl
    refine (show WL _ _ _ _ _ [(1, pt j 0), (20, vB ((decide (a0.Type_ < 0)) || (decide (2 < a0.Type_))))] _ from ?_)
    obtain ⟨ae, M, h⟩ := lt1 h
    refine WL.yE (ya z) (congrArg vB M.symm) z (nl (th ?_))
    rcases cnd h with ⟨C, h⟩ | ⟨C, h⟩
    ·refine WC.condT' z C (sq (rg (wY (ya z) z (nl (th (rt (At.inBlockR (At.thenR ?_))))))))
     obtain rfl := some1 h
     have P : Stp [] (Lg.O0 A) w l a := (su_ d z)
     exact At.res (.inl z) z (.tmp z .nil) ⟨z, (se_ P z z)⟩
    ·refine WC.condF' z C (sq (sq (rg (wY (yf fo72_1 z) z (wY (yl ty3 z z (e.cell 1 _ z)) z (wY (Y.neq_i z z) z (wY (ym z) z ?_)))))))
     refine WL.cut 5 (σ := Unit) (fun _ w' => a = w') (fun _ => [(1, pt j 0), (30, vB ((!decide (a0.Type_ = 2)) && (decide (0 < (a0.B.length : Int)))))]) ?_ ?_
     ·refine WL.part 25 z (fun D => ?_) (fun D => ?_)
      ·refine ug z z (wY (yf fo72_3 z) z (ug z z (wY (yl ty51 z z (e.cell 3 _ z)) z (ug z z ?_))))
       have Q := I.i d z z
       refine wY (Y.len ty51 z Q) z (ug z z (wY (Y.gtr_i z z) z (wY (Y.pick (b := true) z z) z (WL.ren (v' := vB ((!decide (a0.Type_ = 2)) && (decide (0 < (a0.B.length : Int))))) 30 z (congrArg vB (andT D)) ?_))))
       exact nl (At.join () z (.cons z (.cons z .nil)))
      ·refine WL.gS z z z z (WL.gS z z z z (WL.gS z z z z (WL.gS z z z z (wY (Y.pick (b := false) z z) z (WL.ren (v' := vB ((!decide (a0.Type_ = 2)) && (decide (0 < (a0.B.length : Int))))) 30 z (congrArg vB (andF D)) ?_)))))
       exact nl (At.join () z (.cons z (.cons z .nil)))
     ·rintro _ _ rfl
      refine (show WL _ _ _ _ _ [(1, pt j 0), (30, vB ((!decide (a0.Type_ = 2)) && (decide (0 < (a0.B.length : Int)))))] _ from ?_)
      obtain ⟨t31, S, h⟩ := lt1 h
      refine WL.yE (ya z) (congrArg vB S.symm) z (nl (th ?_))
      rcases cnd h with ⟨E, h⟩ | ⟨E, h⟩
      ·refine WC.condT' z E (sk (th ?_))
       rcases cnd h with ⟨F, h⟩ | ⟨F, h⟩
       ·refine WC.condT' z F (sq (rg (wY (ya z) z (nl (th (rt (At.inBlockR (At.thenR ?_))))))))
        obtain rfl := some1 h
        have T : Stp [] (Lg.O0 A) w l a := (su_ d z)
        exact At.res (.inl z) z (.tmp z .nil) ⟨z, (se_ T z z)⟩
       ·refine WC.condF' z F (sk (At.inBlock (th (sq (rg (wY (ya z) z (nl (th (rt ?_)))))))))
        obtain rfl := some1 h
        have U : Stp [] (Lg.O0 A) w l a := (su_ d z)
        exact At.res (.inl z) z (.tmp z .nil) ⟨z, (se_ U z z)⟩
      ·refine WC.condF' z E (rg (wY (yf fo72_1 z) z (wY (yl ty3 z z (e.cell 1 _ z)) z (wY (Y.eql_i z z) z (wY (ym z) z ?_)))))
       refine WL.cut 4 (σ := Unit) (fun _ w' => a = w') (fun _ => [(38, vB ((decide (a0.Type_ = 2)) && (!decide (a0.V = 0))))]) ?_ ?_
       ·refine WL.part 34 z (fun G => ?_) (fun G => ?_)
        ·refine ug z z (wY (yf fo72_2 z) z (ug z z (wY (yl ty33 z z (e.cell 2 _ z)) z (ug z z (wY (Y.neq_u (b := 0) z z) z (wY (Y.pick (b := true) z z) z (WL.ren (v' := vB ((decide (a0.Type_ = 2)) && (!decide (a0.V = 0)))) 38 z (congrArg vB (andT G)) ?_)))))))
         exact nl (At.join () z (.cons z .nil))
        ·refine WL.gS z z z z (WL.gS z z z z (WL.gS z z z z (wY (Y.pick (b := false) z z) z (WL.ren (v' := vB ((decide (a0.Type_ = 2)) && (!decide (a0.V = 0)))) 38 z (congrArg vB (andF G)) ?_))))
         exact nl (At.join () z (.cons z .nil))
       ·rintro _ _ rfl
        refine (show WL _ _ _ _ _ [(38, vB ((decide (a0.Type_ = 2)) && (!decide (a0.V = 0))))] _ from ?_)
        obtain ⟨af, W, h⟩ := lt1 h
        refine WL.yE (ya z) (congrArg vB W.symm) z (nl (th ?_))
        rcases cnd h with ⟨H, h⟩ | ⟨H, h⟩
        ·refine WC.condT' z H (sq (rg (wY (ya z) z (nl (th (rt (At.inBlockR (At.thenR ?_))))))))
         obtain rfl := some1 h
         have X : Stp [] (Lg.O0 A) w l a := (su_ d z)
         exact At.res (.inl z) z (.tmp z .nil) ⟨z, (se_ X z z)⟩
        ·refine WC.condF' z H (sk (At.inBlock (th (sq (rg (wY (ya z) z (nl (th (rt ?_)))))))))
         obtain rfl := some1 h
         have Z : Stp [] (Lg.O0 A) w l a := (su_ d z)
         exact At.res (.inl z) z (.tmp z .nil) ⟨z, (se_ Z z z)⟩
theorem c_wire_Var {a0 : UInt64} {w : World} {r0 : List UInt8} (h : wire_Var a0 = some r0) : Rets Tryz.prog 81 [vu a0] w (fun v w' => ∃ (u0 : Value), v = u0 ∧ Ext w w' ∧ RowF Rep.b 5 w w' u0 r0) := by
 unfold wire_Var at h
 refine Rets.enter Tryz.func81 z z ?_
 refine (show WC _ _ _ _ [(0, vu a0)] _ from ?_)
 refine sq (rg (wY (ya z) z (nl (th (sq (rg (wY (ya z) z (nl (th ?_)))))))))
 refine sq ?_
 obtain ⟨an, h, Z⟩ := bnd h
 refine WC.join (σ := (UInt64 × List UInt8 × Own × Value)) (fun x w' => (x.1, x.2.1) = an ∧ Stp [1001, 1002] (Lg.O0 (fun _ => False)) w x.2.2.1 w' ∧ OwnSl 1004 Rep.b 5 x.2.2.1 w' x.2.2.2 x.2.1) (fun x => [(0, vu x.1), (3, x.2.2.2)]) ?_ ?_
 ·refine WC.block ?_
  obtain ⟨S, h, aa⟩ := flow1 h
  obtain ⟨T, h⟩ := loop_some h
  refine WC.joinB 0 (σ := (UInt64 × List UInt8 × Own × Value)) (fun x w' => S = .go (x.1, x.2.1) ∧ Stp [1001] (Lg.O0 (fun _ => False)) w x.2.2.1 w' ∧ OwnSl 1002 Rep.b 5 x.2.2.1 w' x.2.2.2 x.2.1) (fun x => [(0, vu x.1), (3, x.2.2.2)]) ?_ ?_
  ·refine WC.loop (σ := (UInt64 × List UInt8 × Own × Value)) (fun x k w' => loopN k (wire_Var_lp1) (x.1, x.2.1) = some S ∧ Stp [1001] (Lg.O0 (fun _ => False)) w x.2.2.1 w' ∧ OwnSl 1001 Rep.b 5 x.2.2.1 w' x.2.2.2 x.2.1) (fun x => [(0, vu x.1), (3, x.2.2.2)]) (a0, [], (Lg.O0 (fun _ => False)), sn) T (.cons z (.cons z .nil)) ⟨h, (sr_ _ _ _), (OwnSl.nil 1001 Rep.b 5)⟩ ?_
   rintro ⟨a, H, ao, U⟩ T aE ⟨h, d, j⟩
   obtain ⟨ap, aL, rfl, h, D⟩ := rnd1 h
   unfold wire_Var_lp1 at h
   try dsimp only at h d j
   refine (show WC _ _ _ _ [(0, vu a), (3, U)] _ from ?_)
   refine sq (sq (rg (wY (ym z) z (wY (Y.gtr_u (b := 127) z z) z (nl (th ?_))))))
   rcases cnd h with ⟨l, h⟩ | ⟨l, h⟩
   ·refine WC.condT' z l (sk (th (WC.block (sq (rg (wY (ym z) z (wY (ym z) z (wY (Y.conv_ub ty33.u ty5.u z) z (wY (Y.or_b (b := 128) z z) z ?_)))))))))
    refine WL.buildSlice (O := ao) (R := Rep.b) (vals := [(0, vb (a.toUInt8 ||| 128))]) 11 [vb (a.toUInt8 ||| 128)] (xs := [(a.toUInt8 ||| 128)]) (by decide) ty51 ty5 (by decide) (by decide) (fe_ z) (by kernel_rfl) z ⟨[vb (a.toUInt8 ||| 128)], [], z, z, z⟩ z ?_
    intro aM aN aF o ab
    obtain ⟨ac, I, h⟩ := bnd h
    have ad := j.st o z z z
    refine WL.append (by decide) ty51 ty5 z (by decide) z z ad ab.src I z ?_
    intro aq ar aG J ae
    refine wY (ya z) z (nl (th (rg (wY (ym z) z (wY (Y.shr_uu (m := 7) z z) z ?_)))))
    obtain ⟨au, af, h⟩ := lt1 h
    refine WL.yE (ya z) (congrArg vu af.symm) z (nl (At.inBlock ?_))
    exact At.round (au, ac, ar, aq) ap (Nat.lt_succ_self _) ⟨next1 h D, (tr_ (su_ d z) (tr_ (su_ o z) (su_ J z))), ae⟩ (.cons z (.cons z .nil))
   ·refine WC.condF' z l (WC.exit (At.thenX (At.loopX ?_)))
    obtain ⟨av, K, ah⟩ := OwnSl.rlb 1002 rfl j
    exact At.hitB (σ := (UInt64 × List UInt8 × Own × Value)) (a, H, av, U) ⟨brk1 h D, (tr_ (su_ d z) (su_ K z)), ah⟩ (.cons z (.cons z .nil))
  ·rintro ⟨W, L, aO, X⟩ aH ⟨rfl, r, E⟩
   replace h := flowK_go aa
   try dsimp only at h r E
   refine (show At _ _ _ [(0, vu W), (3, X)] _ from ?_)
   refine At.inBlockHit ?_
   obtain ⟨ax, M, ai⟩ := OwnSl.rlb 1004 rfl E
   exact At.join (σ := (UInt64 × List UInt8 × Own × Value)) (W, L, ax, X) ⟨some1 h, (tr_ (su_ r z) (su_ M z)), ai⟩ (.cons z (.cons z .nil))
 ·rintro ⟨e, aD, ay, az⟩ aI ⟨rfl, t, F⟩
  replace h := Z
  try dsimp only at h t F
  refine (show At _ _ _ [(0, vu e), (3, az)] _ from ?_)
  refine th (sq (rg (wY (ym z) z (wY (ym z) z (wY (Y.conv_ub ty33.u ty5.u z) z (WL.buildSlice (O := ay) (R := Rep.b) (vals := [(0, vb e.toUInt8)]) 12 [vb e.toUInt8] (xs := [e.toUInt8]) (by decide) ty51 ty5 (by decide) (by decide) (fe_ z) (by kernel_rfl) z ⟨[vb e.toUInt8], [], z, z, z⟩ z ?_))))))
  intro aP aQ aJ C aj
  obtain ⟨aK, P, h⟩ := bnd h
  have ak := F.st C z z z
  refine WL.append (by decide) ty51 ty5 z (by decide) z z ak aj.src P z ?_
  intro aA aC al Q am
  refine wY (ya z) z (nl (th (rt ?_)))
  obtain rfl := some1 h
  have G : Stp [1001, 1002, 1004] (Lg.O0 (fun _ => False)) w aC al := (tr_ (su_ t z) (tr_ (su_ C z) (su_ Q z)))
  exact At.res (.inl z) z (.tmp z .nil) ⟨aA, z, (se_ G z z), (OwnSl.outF am G low0 z)⟩
theorem c_wire_eight {a0 : UInt64} {w : World} {r0 : List UInt8} (h : wire_eight a0 = some r0) : Rets Tryz.prog 82 [vu a0] w (fun v w' => ∃ (u0 : Value), v = u0 ∧ Ext w w' ∧ RowF Rep.b 5 w w' u0 r0) := by
 unfold wire_eight at h
 refine Rets.enter Tryz.func82 z z ?_
 refine (show WC _ _ _ _ [(0, vu a0)] _ from ?_)
 refine sq (rg (wY (ya z) z (nl (th (sq (rg ?_))))))
 obtain ⟨r, U, h⟩ := bnd h
 refine WL.make (O := (Lg.O0 (fun _ => False))) (R := Rep.b) (zx := (0 : UInt8)) 11 (by decide) ty51 ty5 z (by decide) (by decide) z z (fun _ _ => z) U z ?_
 intro a P C H D
 refine wY (ya z) z (nl (th (sq (sq (rg (wY (ym z) z (wY (Y.len ty51 z D.src.sl) z (wY (ym z) z (nl ?_)))))))))
 refine th (WC.block ?_)
 obtain ⟨Q, h, W⟩ := flow1 h
 obtain ⟨S, h⟩ := loop_some h
 refine WC.joinB 0 (σ := (List UInt8 × Own)) (fun x w' => Q = .go x.1 ∧ Stp [11, 1001] P C x.2 w' ∧ OwnSl 1002 Rep.b 5 x.2 w' a x.1) (fun x => [(3, a)]) ?_ ?_
 ·obtain ⟨ai, I, X⟩ := OwnSl.rlb 1001 rfl D
  refine WC.loop (σ := (List UInt8 × Int × Own)) (fun x k w' => loopN k (wire_eight_lp1 a0 r) (x.1, x.2.1) = some Q ∧ Stp [11, 1001] P C x.2.2 w' ∧ OwnSl 1001 Rep.b 5 x.2.2 w' a x.1) (fun x => [(0, vu a0), (3, a), (7, vi (r.length : Int)), (8, vi x.2.1)]) (r, 0, ai) S (.cons z (.cons z (.cons z (.cons z .nil)))) ⟨h, (su_ I z), X⟩ ?_
  rintro ⟨aj, T, ak⟩ S ar ⟨h, e, d⟩
  obtain ⟨al, ax, rfl, h, E⟩ := rnd1 h
  unfold wire_eight_lp1 at h
  try dsimp only at h e d
  refine (show WC _ _ _ _ [(0, vu a0), (3, a), (7, vi (r.length : Int)), (8, vi T)] _ from ?_)
  refine sq (rg (wY (Y.lss_i z z) z (nl (th (sq ?_)))))
  rcases cnd h with ⟨j, h⟩ | ⟨j, h⟩
  ·refine WC.condT' z j (sk (th (sq (WC.block (sq (rg (wY (ym z) z (wY (ya z) z (nl ?_)))))))))
   refine th (rg (wY (ym z) z (wY (ym z) z (wY (ym z) z (wY (ym z) z (wY (Y.mul_i z z) z (wY (Y.conv_iu ty3.u ty142.u z) z (wY (Y.shr_uu z z) z (wY (Y.conv_ub ty33.u ty5.u z) z ?_)))))))))
   obtain ⟨am, Z, h⟩ := bnd h
   obtain ⟨ay, ap, au, l, aa, ab, o, J⟩ := OwnSl.at d Z
   obtain rfl := J
   replace o : CellsAt _ _ _ [vb am] := o
   have aq := CAt.own d l o
   refine wY (Y.indexAddr ty51 ty5 z l z aa ab) z ?_
   obtain ⟨az, ac, h⟩ := lt1 h
   refine WL.ren 18 z (congrArg vb ac.symm) ?_
   obtain ⟨ad, K, h⟩ := bnd h
   refine WL.storeOwn (by decide) ty5 z z z d l K ?_
   intro av L ae
   refine nl (At.inBlock (th (rg (wY (Y.add_i z z) z (wY (ym z) z (nl ?_))))))
   exact At.round (ad, w64 (T + 1), ak) al (Nat.lt_succ_self _) ⟨next1 h E, (tr_ (su_ e z) (su_ L z)), ae⟩ (.cons z (.cons z (.cons z (.cons z .nil))))
  ·refine WC.condF' z j (WC.exit (At.thenX (At.loopX ?_)))
   obtain ⟨an, M, af⟩ := OwnSl.rlb 1002 rfl d
   exact At.hitB (σ := (List UInt8 × Own)) (aj, an) ⟨brk1 h E, (tr_ (su_ e z) (su_ M z)), af⟩ (.cons z .nil)
 ·rintro ⟨aA, ao⟩ ah ⟨rfl, t, F⟩
  replace h := flowK_go W
  try dsimp only at h t F
  refine (show At _ _ _ [(3, a)] _ from ?_)
  refine At.inBlockHit (th (sq (rg (wY (ym z) z (wY (ya z) z (nl (th (rt ?_))))))))
  obtain rfl := some1 h
  have G : Stp [11, 1001] (Lg.O0 (fun _ => False)) w ao ah := (tr_ (su_ H z) (su_ t z))
  exact At.res (.inl z) z (.tmp z .nil) ⟨a, z, (se_ G z z), (OwnSl.outF F G low0 z)⟩
theorem c_wire_Encode {A : Nat → Prop} {a0 : List api_Fld} {v0 : Value} {w : World} (hs0 : Sl rep_api_Fld w A v0 a0) {r0 : List UInt8} {r1 : Int} (h : wire_Encode a0 = some (r0, r1)) : Rets Tryz.prog 42 [v0] w (fun v w' => ∃ (u0 : Value), v = tp [u0, vi r1] ∧ Ext w w' ∧ RowF Rep.b 5 w w' u0 r0) := by
 unfold wire_Encode at h
 refine Rets.enter Tryz.func42 z z ?_
 have al : Sl rep_api_Fld w (imm (Lg.O0 A)) v0 a0 := (Sl.start hs0)
 refine (show WC _ _ _ _ [(0, v0)] _ from ?_)
 refine sq (rg (wY (ya z) z (wY (ya z) z (nl (th (sq (rg (wY (ya z) z (nl ?_)))))))))
 refine th (sq (sq (rg (wY (ym z) z (wY (Y.len ty70 z al) z (wY (ym z) z (nl (th (WC.block ?_)))))))))
 obtain ⟨bw, h, am⟩ := flow1 h
 obtain ⟨bx, h⟩ := loop_some h
 refine WC.joinB 0 (σ := (List UInt8 × Own × Value)) (fun x w' => bw = .go x.1 ∧ Stp [11, 1001, 1002] (Lg.O0 A) w x.2.1 w' ∧ OwnSl 1003 Rep.b 5 x.2.1 w' x.2.2 x.1) (fun x => [(4, x.2.2)]) ?_ ?_
 ·refine WC.loop (σ := (List UInt8 × Int × Own × Value)) (fun x k w' => loopN k (wire_Encode_lp1 a0) (x.1, x.2.1) = some bw ∧ Stp [11, 1001, 1002] (Lg.O0 A) w x.2.2.1 w' ∧ OwnSl 1002 Rep.b 5 x.2.2.1 w' x.2.2.2 x.1) (fun x => [(4, x.2.2.2), (8, v0), (9, vi (a0.length : Int)), (10, vi x.2.1)]) ([], 0, (Lg.O0 A), sn) bx (.cons z (.cons z (.cons z (.cons z .nil)))) ⟨h, (sr_ _ _ _), (OwnSl.nil 1002 Rep.b 5)⟩ ?_
  rintro ⟨aL, U, cs, bz⟩ bx cP ⟨h, d, L⟩
  obtain ⟨ct, c3, rfl, h, M⟩ := rnd1 h
  unfold wire_Encode_lp1 at h
  try dsimp only at h d L
  refine (show WC _ _ _ _ [(4, bz), (8, v0), (9, vi (a0.length : Int)), (10, vi U)] _ from ?_)
  refine sq (rg (wY (Y.lss_i z z) z (nl (th (sq ?_)))))
  rcases cnd h with ⟨P, h⟩ | ⟨P, h⟩
  ·refine WC.condT' z P (sk (th (sq (WC.block (sq (rg ?_))))))
   obtain ⟨a, bD, h⟩ := bnd h
   have bE := al.i d z z
   obtain ⟨c4, cG, cH, cQ, bG, bH, bI, Q, aM, bJ⟩ := Sl.at2 bE bD
   obtain ⟨_, _, rfl, rfl, ⟨_, _, rfl, rfl, ⟨_, _, rfl, rfl, ⟨cu, rfl, bK⟩⟩⟩⟩ := aM
   replace Q : CellsAt _ _ _ [vi a.Num, vi a.Type_, vu a.V, cu] := Q
   have aN := CAt.imm Q bJ
   refine wY (Y.indexAddr ty70 ty72 z bG z bH bI) z (wY (yL ty72 z z aN.at_ z) z (WL.alloc (O := cs) 11 [vi 0, vi 0, vu 0, sn] ty72 z z ?_))
   intro c5 cw cR l bL
   have an := bK.i l z z
   have bM := h
   obtain ⟨W, X, Z, rfl⟩ := an.shape
   have h := bM
   refine WL.store (v := ag [vi a.Num, vi a.Type_, vu a.V, (vl W X Z)]) (cells' := [vi a.Num, vi a.Type_, vu a.V, (vl W X Z)]) ty72 z z bL z (le_ z) z z ?_
   intro cS o ao
   refine nl (th (sq (sq (rg (wY (yL ty72 z z (ao.cells 0 [vi a.Num, vi a.Type_, vu a.V, (vl W X Z)] z) z) z ?_)))))
   have ap := an.i o z z
   obtain ⟨c6, bO, h⟩ := bnd h
   refine WL.call (vals := [ag [vi a.Num, vi a.Type_, vu a.V, (vl W X Z)]]) kok80 z z (c_wire_check (A := fun _ => True) (a0 := a) (Sl.all ap) bO) ?_
   rintro cT bP ⟨rfl, bQ⟩
   obtain ⟨bA, cx, cy, e⟩ := adoptE cw (fun k => 1) bQ
   refine wY (ya z) z (nl (th (sq (rg (wY (ym z) z (wY (Y.neq_i z z) z (nl (th ?_))))))))
   rcases cnd h with ⟨S, h⟩ | ⟨S, h⟩
   ·refine WC.condT' z S (sq (rg (wY (ym z) z (wY (ya z) z (wY (ya z) z (nl (th (rt (At.thenR ?_)))))))))
    refine At.inBlockR (At.thenR (At.loopR ?_))
    have h := outr1 h M am
    refine At.joinBR (At.inBlockR (At.thenR ?_))
    obtain ⟨rfl, rfl⟩ := tup2 h
    have bR : Stp [11, 1001, 1002] (Lg.O0 A) w bA bP := (tr_ (su_ d z) (tr_ (su_ l z) (tr_ (su_ o z) (su_ e z))))
    exact At.res (.inl z) z (.tmp z (.tmp z .nil)) ⟨sn, z, (se_ bR z z), RowF.nil⟩
   ·refine WC.condF' z S (sk (th (sq (rg (wY (ym z) z (wY (yf fo72_0 z) z ?_))))))
    have T := ao.st e z
    refine wY (yl ty3 z z (T.cell 0 _ z)) z (wY (Y.mul_i z z) z (wY (yf fo72_1 z) z (wY (yl ty3 z z (T.cell 1 _ z)) z (wY (Y.add_i z z) z (wY (Y.conv_iu ty3.u ty33.u z) z ?_)))))
    obtain ⟨cz, bS, h⟩ := bnd h
    refine WL.call (vals := [vu (toU64 (w64 ((w64 (8 * a.Num)) + a.Type_)))]) kok81 z z (c_wire_Var bS) ?_
    rintro aq bT ⟨_, rfl, bU, cA⟩
    obtain ⟨cC, cD, ar, r⟩ := adoptE bA (fun k => if ob aq = some k then 12 else 1) bU
    have bW : OwnSl 12 Rep.b 5 cC bT aq cz := RowF.adopt 12 Flat.b cA ar (fun k hk => if_pos hk)
    obtain ⟨bX, aO, h⟩ := bnd h
    have b1 := (((L.st l z z z).st o z z z).st e z z z).st r z z z
    refine WL.append (by decide) ty51 ty5 z (by decide) z z b1 bW.src aO z ?_
    intro cE aa b2 D E
    refine wY (ya z) z (nl (th (sq (rg (wY (yf fo72_1 z) z ?_)))))
    have t := (T.st r z).st D z
    refine wY (yl ty3 z z (t.cell 1 _ z)) z (nl (th ?_))
    obtain ⟨b4, h, aP⟩ := bnd h
    refine WC.join (σ := (List UInt8 × Own × Value)) (fun x w' => x.1 = b4 ∧ Stp [1002] aa b2 x.2.1 w' ∧ OwnSl 1001 Rep.b 5 x.2.1 w' x.2.2 x.1) (fun x => [(4, x.2.2), (8, v0), (9, vi (a0.length : Int)), (10, vi U)]) ?_ ?_
    ·refine WC.block (sq (rg (wY (Y.eql_i z z) z ?_)))
     obtain ⟨cU, aQ, h⟩ := lt1 h
     refine WL.yE (ya z) (congrArg vB aQ.symm) z (nl (th ?_))
     rcases cnd h with ⟨F, h⟩ | ⟨F, h⟩
     ·refine WC.condT' z F (rg (wY (ym z) z (wY (yf fo72_2 z) z (wY (yl ty33 z z (t.cell 2 _ z)) z ?_))))
      obtain ⟨b5, aR, h⟩ := bnd h
      refine WL.call (vals := [vu a.V]) kok81 z z (c_wire_Var aR) ?_
      rintro ab aS ⟨_, rfl, aT, b6⟩
      obtain ⟨b7, co, ai, I⟩ := adoptE aa (fun k => if ob ab = some k then 13 else 1) aT
      have aU : OwnSl 13 Rep.b 5 b7 aS ab b5 := RowF.adopt 13 Flat.b b6 ai (fun k hk => if_pos hk)
      obtain ⟨aW, au, h⟩ := bnd h
      have aX := E.st I z z z
      refine WL.append (by decide) ty51 ty5 z (by decide) z z aX aU.src au z ?_
      intro b8 cV cI av aY
      refine wY (ya z) z (nl (At.inBlock ?_))
      obtain ⟨b9, ax, aZ⟩ := OwnSl.rlb 1001 rfl aY
      exact At.join (σ := (List UInt8 × Own × Value)) (aW, b9, b8) ⟨some1 h, (tr_ (su_ I z) (tr_ (su_ av z) (su_ ax z))), aZ⟩ (.cons z (.cons z (.cons z (.cons z .nil))))
     ·refine WC.condF' z F (sq (rg (wY (Y.eql_i z z) z ?_)))
      obtain ⟨cW, a1, h⟩ := lt1 h
      refine WL.yE (ya z) (congrArg vB a1.symm) z (nl (th ?_))
      rcases cnd h with ⟨G, h⟩ | ⟨G, h⟩
      ·refine WC.condT' z G (rg (wY (ym z) z (wY (yf fo72_2 z) z (wY (yl ty33 z z (t.cell 2 _ z)) z ?_))))
       obtain ⟨ca, a2, h⟩ := bnd h
       refine WL.call (vals := [vu a.V]) kok82 z z (c_wire_eight a2) ?_
       rintro ac a3 ⟨_, rfl, a4, cb⟩
       obtain ⟨cc, cq, aj, J⟩ := adoptE aa (fun k => if ob ac = some k then 14 else 1) a4
       have a5 : OwnSl 14 Rep.b 5 cc a3 ac ca := RowF.adopt 14 Flat.b cb aj (fun k hk => if_pos hk)
       obtain ⟨a6, ay, h⟩ := bnd h
       have a7 := E.st J z z z
       refine WL.append (by decide) ty51 ty5 z (by decide) z z a7 a5.src ay z ?_
       intro cd cX cJ az a8
       refine wY (ya z) z (nl (At.inBlock ?_))
       obtain ⟨ce, aA, a9⟩ := OwnSl.rlb 1001 rfl a8
       exact At.join (σ := (List UInt8 × Own × Value)) (a6, ce, cd) ⟨some1 h, (tr_ (su_ J z) (tr_ (su_ az z) (su_ aA z))), a9⟩ (.cons z (.cons z (.cons z (.cons z .nil))))
      ·refine WC.condF' z G (sq (rg (wY (Y.eql_i z z) z ?_)))
       obtain ⟨cY, ba, h⟩ := lt1 h
       refine WL.yE (ya z) (congrArg vB ba.symm) z (nl (th ?_))
       rcases cnd h with ⟨H, h⟩ | ⟨H, h⟩
       ·refine WC.condT' z H (sq (rg (wY (ym z) z (wY (yf fo72_3 z) z (wY (yl ty51 z z (t.cell 3 _ z)) z ?_)))))
        have ad := ((ap.i e z z).i r z z).i D z z
        refine wY (Y.len ty51 z ad) z (wY (Y.conv_iu ty3.u ty33.u z) z ?_)
        obtain ⟨cf, bd, h⟩ := bnd h
        refine WL.call (vals := [vu (toU64 (a.B.length : Int))]) kok81 z z (c_wire_Var bd) ?_
        rintro ae bf ⟨_, rfl, bg, cg⟩
        obtain ⟨ch, cr, ak, j⟩ := adoptE aa (fun k => if ob ae = some k then 15 else 1) bg
        have bh : OwnSl 15 Rep.b 5 ch bf ae cf := RowF.adopt 15 Flat.b cg ak (fun k hk => if_pos hk)
        obtain ⟨cK, aC, h⟩ := bnd h
        have bi := E.st j z z z
        refine WL.append (by decide) ty51 ty5 z (by decide) z z bi bh.src aC z ?_
        intro cZ c0 cL C bj
        refine wY (ya z) z (nl (th (rg (wY (ym z) z (wY (yf fo72_3 z) z ?_)))))
        have bl := (t.st j z).st C z
        refine wY (yl ty51 z z (bl.cell 3 _ z)) z ?_
        obtain ⟨bm, aD, h⟩ := bnd h
        have bo := (ad.i j z z).i C z z
        refine WL.append (by decide) ty51 ty5 z (by decide) z z bj (Sl.src bo) aD z ?_
        intro ci c1 cM aE bp
        refine wY (ya z) z (nl (At.inBlock ?_))
        obtain ⟨cj, aF, bq⟩ := OwnSl.rlb 1001 rfl bp
        exact At.join (σ := (List UInt8 × Own × Value)) (bm, cj, ci) ⟨some1 h, (tr_ (su_ j z) (tr_ (su_ C z) (tr_ (su_ aE z) (su_ aF z)))), bq⟩ (.cons z (.cons z (.cons z (.cons z .nil))))
       ·refine WC.condF' z H (sk (At.inBlock ?_))
        obtain ⟨ck, aG, br⟩ := OwnSl.rlb 1001 rfl E
        exact At.join (σ := (List UInt8 × Own × Value)) (bX, ck, cE) ⟨some1 h, (su_ aG z), br⟩ (.cons z (.cons z (.cons z (.cons z .nil))))
    ·rintro ⟨bs, c2, bB⟩ cN ⟨rfl, K, aH⟩
     replace h := aP
     try dsimp only at h K aH
     refine (show At _ _ _ [(4, bB), (8, v0), (9, vi (a0.length : Int)), (10, vi U)] _ from ?_)
     refine At.inBlock (th (rg (wY (Y.add_i z z) z (wY (ym z) z (nl ?_)))))
     obtain ⟨cl, aI, bt⟩ := OwnSl.rlb 1002 rfl aH
     exact At.round (bs, w64 (U + 1), cl, bB) ct (Nat.lt_succ_self _) ⟨next1 h M, (tr_ (su_ d z) (tr_ (su_ l z) (tr_ (su_ o z) (tr_ (su_ e z) (tr_ (su_ r z) (tr_ (su_ D z) (tr_ (su_ K z) (su_ aI z)))))))), bt⟩ (.cons z (.cons z (.cons z (.cons z .nil))))
  ·refine WC.condF' z P (WC.exit (At.thenX (At.loopX ?_)))
   obtain ⟨cm, aJ, bu⟩ := OwnSl.rlb 1003 rfl L
   exact At.hitB (σ := (List UInt8 × Own × Value)) (aL, cm, bz) ⟨brk1 h M, (tr_ (su_ d z) (su_ aJ z)), bu⟩ (.cons z .nil)
 ·rintro ⟨cO, cF, bC⟩ cn ⟨rfl, af, aK⟩
  replace h := flowK_go am
  try dsimp only at h af aK
  refine (show At _ _ _ [(4, bC)] _ from ?_)
  refine At.inBlockHit (th (sq (rg (wY (ym z) z (wY (ya z) z (wY (ya z) z (nl (th (rt ?_)))))))))
  obtain ⟨rfl, rfl⟩ := tup2 h
  have ah : Stp [11, 1001, 1002] (Lg.O0 A) w cF cn := (su_ af z)
  exact At.res (.inl z) z (.tmp z (.tmp z .nil)) ⟨bC, z, (se_ ah z z), (OwnSl.outF aK ah low0 z)⟩
theorem c_otlp_sub {A : Nat → Prop} {a0 : Int} {a1 : List api_Fld} {v1 : Value} {w : World} (hs1 : Sl rep_api_Fld w A v1 a1) {r0 : api_Fld} (h : otlp_sub a0 a1 = some r0) : Rets Tryz.prog 43 [vi a0, v1] w (fun v w' => ∃ (o : Value), v = ag [vi r0.Num, vi r0.Type_, vu r0.V, o] ∧ Ext w w' ∧ RowF Rep.b 5 w w' o r0.B) := by
 unfold otlp_sub at h
 refine Rets.enter Tryz.func43 z z ?_
 have F : Sl rep_api_Fld w (imm (Lg.O0 A)) v1 a1 := (Sl.start hs1)
 refine (show WC _ _ _ _ [(0, vi a0), (1, v1)] _ from ?_)
 refine sq (rg (WL.alloc (O := (Lg.O0 A)) 11 [vi 0, vi 0, vu 0, sn] ty72 z z ?_))
 intro ab T Z e G
 refine nl (th (sq (rg (wY (ym z) z ?_))))
 have H := F.i e z z
 obtain ⟨⟨U, ac⟩, I, h⟩ := bnd h
 refine WL.call (vals := [v1]) kok42 z z (c_wire_Encode (A := fun _ => True) (Sl.all H) I) ?_
 rintro aa J ⟨D, rfl, K, W⟩
 obtain ⟨E, X, r, j⟩ := adoptE T (fun k => if ob D = some k then 12 else 1) K
 have t : OwnSl 12 Rep.b 5 E J D U := RowF.adopt 12 Flat.b W r (fun k hk => if_pos hk)
 refine wY (ym z) z (wY (yx z z) z (wY (yx z z) z (wY (ya z) z (wY (ya z) z (nl (th (sq (rg (wY (ym z) z ?_)))))))))
 refine wY (ym z) z ?_
 have L := h
 obtain ⟨p31, a, d, rfl⟩ := t.shape
 have h := L
 refine wY (yb (vals := [(0, vi a0), (1, vi 2), (3, (vl p31 a d))]) (cells := [vi a0, vi 2, vu 0, (vl p31 a d)]) (fe_ z) (by kernel_rfl)) z ?_
 have M := G.st j z
 refine WL.store (v := ag [vi a0, vi 2, vu 0, (vl p31 a d)]) (cells' := [vi a0, vi 2, vu 0, (vl p31 a d)]) ty72 z z M z (le_ z) z z ?_
 intro P l Q
 refine nl (th (rt ?_))
 obtain rfl := some1 h
 have C : Stp [11] (Lg.O0 A) w E P := (tr_ (su_ e z) (tr_ (su_ j z) (su_ l z)))
 have S := t.st l z z z
 exact At.res (.inl z) z (.cell z (Q.runAg 0 [vi a0, vi 2, vu 0, (vl p31 a d)] ty72 z z z) .nil) ⟨(vl p31 a d), z, (se_ C z z), (OwnSl.outF S C low0 z)⟩
theorem c_otlp_num {a0 : Int} {a1 : UInt64} {w : World} {r0 : api_Fld} (h : otlp_num a0 a1 = some r0) : Rets Tryz.prog 77 [vi a0, vu a1] w (fun v w' => ∃ (a : Value), v = ag [vi r0.Num, vi r0.Type_, vu r0.V, a] ∧ Ext w w' ∧ Sl Rep.b w' (fun k => w.heap.size ≤ k) a r0.B) := by
 unfold otlp_num at h
 refine Rets.enter Tryz.func77 z z ?_
 refine (show WC _ _ _ _ [(0, vi a0), (1, vu a1)] _ from ?_)
 refine sq (rg (WL.alloc (O := (Lg.O0 (fun _ => False))) 11 [vi 0, vi 0, vu 0, sn] ty72 z z ?_))
 intro D t C d j
 refine nl (th (sq (rg (wY (ym z) z (wY (ym z) z (wY (yb (vals := [(0, vi a0), (1, vi 0), (2, vu a1)]) (cells := [vi a0, vi 0, vu a1, sn]) (fe_ z) (by kernel_rfl)) z (WL.store (v := ag [vi a0, vi 0, vu a1, sn]) (cells' := [vi a0, vi 0, vu a1, sn]) ty72 z z j z (le_ z) z z ?_)))))))
 intro l e o
 refine nl (th (rt ?_))
 obtain rfl := some1 h
 have r : Stp [11] (Lg.O0 (fun _ => False)) w t l := (tr_ (su_ d z) (su_ e z))
 exact At.res (.inl z) z (.cell z (o.runAg 0 [vi a0, vi 0, vu a1, sn] ty72 z z z) .nil) ⟨sn, z, (se_ r z z), (Or.inl ⟨z, z⟩)⟩
theorem c_otlp_text {a0 : Int} {a1 : List UInt8} {w : World} {r0 : api_Fld} (h : otlp_text a0 a1 = some r0) : Rets Tryz.prog 78 [vi a0, vs a1] w (fun v w' => ∃ (o : Value), v = ag [vi r0.Num, vi r0.Type_, vu r0.V, o] ∧ Ext w w' ∧ Sl Rep.b w' (fun k => w.heap.size ≤ k) o r0.B) := by
 unfold otlp_text at h
 refine Rets.enter Tryz.func78 z z ?_
 refine (show WC _ _ _ _ [(0, vi a0), (1, vs a1)] _ from ?_)
 refine sq (rg (WL.alloc (O := (Lg.O0 (fun _ => False))) 11 [vi 0, vi 0, vu 0, sn] ty72 z z ?_))
 intro P J L C D
 refine nl (th (sq (rg (wY (ym z) z (wY (ym z) z (WL.s2b (O := J) ty9 ty51 ty5 z z ?_))))))
 intro Q K M j r
 have E := h
 obtain ⟨a, d, e, rfl⟩ := r.shape
 have h := E
 refine wY (yb (vals := [(0, vi a0), (1, vi 2), (3, (vl a d e))]) (cells := [vi a0, vi 2, vu 0, (vl a d e)]) (fe_ z) (by kernel_rfl)) z ?_
 have F := D.st j z
 refine WL.store (v := ag [vi a0, vi 2, vu 0, (vl a d e)]) (cells' := [vi a0, vi 2, vu 0, (vl a d e)]) ty72 z z F z (le_ z) z z ?_
 intro G l H
 refine nl (th (rt ?_))
 obtain rfl := some1 h
 have t : Stp [11] (Lg.O0 (fun _ => False)) w K G := (tr_ (su_ C z) (tr_ (su_ j z) (su_ l z)))
 have I := r.f l z
 exact At.res (.inl z) z (.cell z (H.runAg 0 [vi a0, vi 2, vu 0, (vl a d e)] ty72 z z z) .nil) ⟨(vl a d e), z, (se_ t z z), (Sl.outF I t low0)⟩
theorem c_otlp_fix {a0 : Int} {a1 : UInt64} {w : World} {r0 : api_Fld} (h : otlp_fix a0 a1 = some r0) : Rets Tryz.prog 116 [vi a0, vu a1] w (fun v w' => ∃ (a : Value), v = ag [vi r0.Num, vi r0.Type_, vu r0.V, a] ∧ Ext w w' ∧ Sl Rep.b w' (fun k => w.heap.size ≤ k) a r0.B) := by
 unfold otlp_fix at h
 refine Rets.enter Tryz.func116 z z ?_
 refine (show WC _ _ _ _ [(0, vi a0), (1, vu a1)] _ from ?_)
 refine sq (rg (WL.alloc (O := (Lg.O0 (fun _ => False))) 11 [vi 0, vi 0, vu 0, sn] ty72 z z ?_))
 intro D t C d j
 refine nl (th (sq (rg (wY (ym z) z (wY (ym z) z (wY (yb (vals := [(0, vi a0), (1, vi 1), (2, vu a1)]) (cells := [vi a0, vi 1, vu a1, sn]) (fe_ z) (by kernel_rfl)) z (WL.store (v := ag [vi a0, vi 1, vu a1, sn]) (cells' := [vi a0, vi 1, vu a1, sn]) ty72 z z j z (le_ z) z z ?_)))))))
 intro l e o
 refine nl (th (rt ?_))
 obtain rfl := some1 h
 have r : Stp [11] (Lg.O0 (fun _ => False)) w t l := (tr_ (su_ d z) (su_ e z))
 exact At.res (.inl z) z (.cell z (o.runAg 0 [vi a0, vi 1, vu a1, sn] ty72 z z z) .nil) ⟨sn, z, (se_ r z z), (Or.inl ⟨z, z⟩)⟩
theorem c_slices_Clone_api_Pair_api_Pair {A : Nat → Prop} {a0 : List api_Pair} {v0 : Value} {w : World} (hs0 : Sl rep_api_Pair w A v0 a0) {r0 : List api_Pair} (h : slices_Clone_api_Pair_api_Pair a0 = some r0) : Rets Tryz.prog 49 [v0] w (fun v w' => ∃ (u0 : Value), v = u0 ∧ Ext w w' ∧ RowF rep_api_Pair 67 w w' u0 r0) := by
  unfold slices_Clone_api_Pair_api_Pair at h
  refine Rets.enter Tryz.func49 z z ?_
  refine (show WC _ _ _ _ [(0, v0)] _ from ?_)
  refine sq (rg (wY (ya z) z (nl (th ?_))))
  refine sq (sq (rg ?_))
  refine wY (ym z) z ?_
  rcases hs0.nilOr with ⟨rfl, rfl⟩ | ⟨q, n, c, rfl⟩
  · refine wY (Y.slnil (p := none) (n := 0) (c := 0) ty32.u z z) z (nl (th ?_))
    refine WC.condT z (sq (rg (wY (ya z) z (nl (th (rt (At.thenR ?_)))))))
    have : r0 = [] := by simpa [app] using h.symm
    subst this
    exact At.res (.inl z) z (.tmp z .nil) ⟨_, z, Ext.refl w, RowF.nil⟩
  · refine wY (Y.slnil (p := some _) ty32.u z z) z (nl (th ?_))
    refine WC.condF z (sk (th ?_))
    refine sq (rg ?_)
    have hs := hs0
    refine WL.buildSlice (O := Lg.O0 A) (R := rep_api_Pair) (vals := []) 11 [] (xs := []) (by decide) ty32 ty67 (by decide) (by decide) (fe_ z) (by kernel_rfl) z z z ?_
    intro v C D a j
    refine wY (ym z) z ?_
    have l := (Sl.start hs).i a z z
    refine WL.append (by decide) ty32 ty67 z (by decide) z z j l.src h z ?_
    intro E r t e o
    refine wY (ya z) z (nl (th (rt ?_)))
    have d : Stp [11] (Lg.O0 A) w r t := (tr_ (su_ a z) e)
    exact At.res (.inl z) z (.tmp z .nil) ⟨_, z, se_ d z z, OwnSl.outF o d low0 z⟩
theorem c_cmp_isNaN_string {a0 : List UInt8} {w : World} {r0 : Bool} (h : cmp_isNaN_string a0 = some r0) : Rets Tryz.prog 161 [vs a0] w (fun v w' => v = vB r0 ∧ Ext w w') := by
 unfold cmp_isNaN_string at h
 refine Rets.enter Tryz.func161 z z ?_
 refine (show WC _ _ _ _ [(0, vs a0)] _ from ?_)
 refine sq (rg (wY (ya z) z (nl (th (sq (rg (wY (ym z) z (wY (ym z) z (wY (Y.neq_s z z) z ?_)))))))))
 obtain ⟨e, a, h⟩ := lt1 h
 refine WL.yE (ya z) (congrArg vB a.symm) z (nl (th (rt ?_)))
 obtain rfl := some1 h
 have d : Stp [] (Lg.O0 (fun _ => False)) w (Lg.O0 (fun _ => False)) w := (sr_ _ _ _)
 exact At.res (.inl z) z (.tmp z .nil) ⟨z, (se_ d z z)⟩
theorem c_cmp_Compare_string {a0 : List UInt8} {a1 : List UInt8} {w : World} {r0 : Int} (h : cmp_Compare_string a0 a1 = some r0) : Rets Tryz.prog 142 [vs a0, vs a1] w (fun v w' => v = vi r0 ∧ Ext w w') := by
 unfold cmp_Compare_string at h
 refine Rets.enter Tryz.func142 z z ?_
 refine (show WC _ _ _ _ [(0, vs a0), (1, vs a1)] _ from ?_)
 refine sq (rg (wY (ya z) z (nl (th (sq (rg (wY (ym z) z ?_)))))))
 obtain ⟨aa, D, h⟩ := bnd h
 refine WL.call (vals := [vs a0]) kok161 z z (c_cmp_isNaN_string D) ?_
 rintro W X ⟨rfl, E⟩
 obtain ⟨P, Q, S, a⟩ := adoptE (Lg.O0 (fun _ => False)) (fun k => 1) E
 refine wY (ya z) z (nl (th (sq (rg (wY (ym z) z ?_)))))
 obtain ⟨ab, F, h⟩ := bnd h
 refine WL.call (vals := [vs a1]) kok161 z z (c_cmp_isNaN_string F) ?_
 rintro Z e ⟨rfl, G⟩
 obtain ⟨j, T, U, d⟩ := adoptE P (fun k => 1) G
 refine wY (ya z) z (nl (th (sq (sq (rg (wY (ym z) z (nl (th ?_))))))))
 rcases cnd h with ⟨l, h⟩ | ⟨l, h⟩
 ·refine WC.condT' z l (sq (sq (rg (wY (ym z) z (nl (th ?_))))))
  rcases cnd h with ⟨o, h⟩ | ⟨o, h⟩
  ·refine WC.condT' z o (sq (rg (wY (ya z) z (nl (th (rt (At.thenR (At.thenR ?_))))))))
   obtain rfl := some1 h
   have H : Stp [] (Lg.O0 (fun _ => False)) w j e := (tr_ (su_ a z) (su_ d z))
   exact At.res (.inl z) z (.tmp z .nil) ⟨z, (se_ H z z)⟩
  ·refine WC.condF' z o (sk (th (sq (rg (wY (ya z) z (nl (th (rt (At.thenR ?_)))))))))
   obtain rfl := some1 h
   have I : Stp [] (Lg.O0 (fun _ => False)) w j e := (tr_ (su_ a z) (su_ d z))
   exact At.res (.inl z) z (.tmp z .nil) ⟨z, (se_ I z z)⟩
 ·refine WC.condF' z l (sk (th (sq (sq (rg (wY (ym z) z (nl (th ?_))))))))
  rcases cnd h with ⟨r, h⟩ | ⟨r, h⟩
  ·refine WC.condT' z r (sq (rg (wY (ya z) z (nl (th (rt (At.thenR ?_)))))))
   obtain rfl := some1 h
   have J : Stp [] (Lg.O0 (fun _ => False)) w j e := (tr_ (su_ a z) (su_ d z))
   exact At.res (.inl z) z (.tmp z .nil) ⟨z, (se_ J z z)⟩
  ·refine WC.condF' z r (sk (th (sq (sq (rg (wY (ym z) z (wY (ym z) z (wY (Y.lss_s z z) z (nl ?_)))))))))
   refine th ?_
   rcases cnd h with ⟨t, h⟩ | ⟨t, h⟩
   ·refine WC.condT' z t (sq (rg (wY (ya z) z (nl (th (rt (At.thenR ?_)))))))
    obtain rfl := some1 h
    have K : Stp [] (Lg.O0 (fun _ => False)) w j e := (tr_ (su_ a z) (su_ d z))
    exact At.res (.inl z) z (.tmp z .nil) ⟨z, (se_ K z z)⟩
   ·refine WC.condF' z t (sk (th (sq (sq (rg (wY (ym z) z (wY (ym z) z (wY (Y.gtr_s z z) z (nl ?_)))))))))
    refine th ?_
    rcases cnd h with ⟨C, h⟩ | ⟨C, h⟩
    ·refine WC.condT' z C (sq (rg (wY (ya z) z (nl (th (rt (At.thenR ?_)))))))
     obtain rfl := some1 h
     have L : Stp [] (Lg.O0 (fun _ => False)) w j e := (tr_ (su_ a z) (su_ d z))
     exact At.res (.inl z) z (.tmp z .nil) ⟨z, (se_ L z z)⟩
    ·refine WC.condF' z C (sk (th (sq (rg (wY (ya z) z (nl (th (rt ?_))))))))
     obtain rfl := some1 h
     have M : Stp [] (Lg.O0 (fun _ => False)) w j e := (tr_ (su_ a z) (su_ d z))
     exact At.res (.inl z) z (.tmp z .nil) ⟨z, (se_ M z z)⟩
end Go.Lg
