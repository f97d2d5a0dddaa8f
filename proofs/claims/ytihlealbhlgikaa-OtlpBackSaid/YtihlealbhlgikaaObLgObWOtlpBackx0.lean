/- The walks of OtlpBack and of what it calls, printed by gen.py. -/
import Derived.Test.YtihlealbhlgikaaObLgPart0
import Derived.Test.YtihlealbhlgikaaObLgPart2
import Derived.Test.YtihlealbhlgikaaProg
set_option linter.unusedVariables false
namespace Go.Lg
open Go Go.Proofs
set_option maxRecDepth 100000
set_option maxHeartbeats 4000000
abbrev cp (p : api_Point) (a b c : Value) : List Value := [vs p.Name, a, vi p.Kind, vi p.Temp, .bool p.Mono, vi p.Start, vi p.Time, vi p.Int_, vu p.Re, vu p.Im, vi p.Hist.Scale, vu p.Hist.Zero, vi p.Hist.Pos.Offset, b, vi p.Hist.Neg.Offset, c, vi p.Flags]
abbrev hl (h : api_Hist) (a b : Value) : List Value := [vi h.Scale, vu h.Zero, vi h.Pos.Offset, a, vi h.Neg.Offset, b]
abbrev hzr : List Value := [vi 0, vu 0, vi 0, sn, vi 0, sn]
theorem fmix : Try.prog.follows .mixedOrders = true := by kernel_rfl
theorem ty3 : TyOk Try.prog 3 (.int .i64) 1 8 (.int .i64 0) := tyOk Try.underlying3 (by kernel_rfl)
theorem ty4 : TyOk Try.prog 4 .bool 1 1 (.bool false) := tyOk Try.underlying4 (by kernel_rfl)
theorem ty5 : TyOk Try.prog 5 (.int .u8) 1 1 (.int .u8 0) := tyOk Try.underlying5 (by kernel_rfl)
theorem ty9 : TyOk Try.prog 9 .string 1 16 (.string ⟨#[]⟩) := tyOk Try.underlying9 (by kernel_rfl)
theorem ty22 : TyOk Try.prog 22 (.slice 33) 1 24 (.slice none 0 0) := tyOk Try.underlying22 (by kernel_rfl)
theorem ty25 : TyOk Try.prog 25 (.slice 65) 1 24 (.slice none 0 0) := tyOk Try.underlying25 (by kernel_rfl)
theorem ty26 : TyOk Try.prog 26 (.int .u64) 1 8 (.int .u64 0) := tyOk Try.underlying26 (by kernel_rfl)
theorem ty27 : TyOk Try.prog 27 (.slice 26) 1 24 (.slice none 0 0) := tyOk Try.underlying27 (by kernel_rfl)
theorem ty29 : TyOk Try.prog 29 (.struct #[(Field.mk "Offset" 3 0 false "" "" 0), (Field.mk "Counts" 27 1 false "" "" 8)]) 2 32 (.agg #[(.int .i64 0), (.slice none 0 0)]) := tyOk Try.underlying29 (by kernel_rfl)
theorem ty31 : TyOk Try.prog 31 (.struct #[(Field.mk "Scale" 3 0 false "" "" 0), (Field.mk "Zero" 26 1 false "" "" 8), (Field.mk "Pos" 29 2 false "" "" 16), (Field.mk "Neg" 29 4 false "" "" 48)]) 6 80 (.agg #[(.int .i64 0), (.int .u64 0), (.int .i64 0), (.slice none 0 0), (.int .i64 0), (.slice none 0 0)]) := tyOk Try.underlying31 (by kernel_rfl)
theorem ty33 : TyOk Try.prog 33 (.struct #[(Field.mk "Name" 9 0 false "" "" 0), (Field.mk "Attrs" 25 1 false "" "" 16), (Field.mk "Kind" 3 2 false "" "" 40), (Field.mk "Temp" 3 3 false "" "" 48), (Field.mk "Mono" 4 4 false "" "" 56), (Field.mk "Start" 3 5 false "" "" 64), (Field.mk "Time" 3 6 false "" "" 72), (Field.mk "Int" 3 7 false "" "" 80), (Field.mk "Re" 26 8 false "" "" 88), (Field.mk "Im" 26 9 false "" "" 96), (Field.mk "Hist" 31 10 false "" "" 104), (Field.mk "Flags" 3 16 false "" "" 184)]) 17 192 (.agg #[(.string ⟨#[]⟩), (.slice none 0 0), (.int .i64 0), (.int .i64 0), (.bool false), (.int .i64 0), (.int .i64 0), (.int .i64 0), (.int .u64 0), (.int .u64 0), (.int .i64 0), (.int .u64 0), (.int .i64 0), (.slice none 0 0), (.int .i64 0), (.slice none 0 0), (.int .i64 0)]) := tyOk Try.underlying33 (by kernel_rfl)
theorem ty34 : TyOk Try.prog 34 (.int .i64) 1 8 (.int .i64 0) := tyOk Try.underlying34 (by kernel_rfl)
theorem ty45 : TyOk Try.prog 45 (.slice 5) 1 24 (.slice none 0 0) := tyOk Try.underlying45 (by kernel_rfl)
theorem ty61 : TyOk Try.prog 61 (.int .u64) 1 8 (.int .u64 0) := tyOk Try.underlying61 (by kernel_rfl)
theorem ty65 : TyOk Try.prog 65 (.struct #[(Field.mk "Key" 9 0 false "" "" 0), (Field.mk "Val" 9 1 false "" "" 16)]) 2 32 (.agg #[(.string ⟨#[]⟩), (.string ⟨#[]⟩)]) := tyOk Try.underlying65 (by kernel_rfl)
theorem ty66 : TyOk Try.prog 66 (.slice 68) 1 24 (.slice none 0 0) := tyOk Try.underlying66 (by kernel_rfl)
theorem ty68 : TyOk Try.prog 68 (.struct #[(Field.mk "Num" 3 0 false "" "" 0), (Field.mk "Type" 3 1 false "" "" 8), (Field.mk "V" 26 2 false "" "" 16), (Field.mk "B" 45 3 false "" "" 24)]) 4 48 (.agg #[(.int .i64 0), (.int .i64 0), (.int .u64 0), (.slice none 0 0)]) := tyOk Try.underlying68 (by kernel_rfl)
theorem ty77 : TyOk Try.prog 77 (.map 3 3) 1 8 (.map none) := tyOk Try.underlying77 (by kernel_rfl)
theorem ty92 : TyOk Try.prog 92 (.array 2 29) 4 64 (.agg #[(.int .i64 0), (.slice none 0 0), (.int .i64 0), (.slice none 0 0)]) := tyOk Try.underlying92 (by kernel_rfl)
theorem ty121 : TyOk Try.prog 121 (.slice 3) 1 24 (.slice none 0 0) := tyOk Try.underlying121 (by kernel_rfl)
theorem ty168 : TyOk Try.prog 168 (.slice 25) 1 24 (.slice none 0 0) := tyOk Try.underlying168 (by kernel_rfl)
theorem fo29_0 : FieldOk Try.prog 29 0 0 := fieldOk Try.underlying29 rfl rfl (by kernel_rfl)
theorem fo29_1 : FieldOk Try.prog 29 1 1 := fieldOk Try.underlying29 rfl rfl (by kernel_rfl)
theorem fo31_0 : FieldOk Try.prog 31 0 0 := fieldOk Try.underlying31 rfl rfl (by kernel_rfl)
theorem fo31_1 : FieldOk Try.prog 31 1 1 := fieldOk Try.underlying31 rfl rfl (by kernel_rfl)
theorem fo31_2 : FieldOk Try.prog 31 2 2 := fieldOk Try.underlying31 rfl rfl (by kernel_rfl)
theorem fo31_3 : FieldOk Try.prog 31 3 4 := fieldOk Try.underlying31 rfl rfl (by kernel_rfl)
theorem fo33_0 : FieldOk Try.prog 33 0 0 := fieldOk Try.underlying33 rfl rfl (by kernel_rfl)
theorem fo33_1 : FieldOk Try.prog 33 1 1 := fieldOk Try.underlying33 rfl rfl (by kernel_rfl)
theorem fo33_2 : FieldOk Try.prog 33 2 2 := fieldOk Try.underlying33 rfl rfl (by kernel_rfl)
theorem fo33_3 : FieldOk Try.prog 33 3 3 := fieldOk Try.underlying33 rfl rfl (by kernel_rfl)
theorem fo33_4 : FieldOk Try.prog 33 4 4 := fieldOk Try.underlying33 rfl rfl (by kernel_rfl)
theorem fo33_5 : FieldOk Try.prog 33 5 5 := fieldOk Try.underlying33 rfl rfl (by kernel_rfl)
theorem fo33_6 : FieldOk Try.prog 33 6 6 := fieldOk Try.underlying33 rfl rfl (by kernel_rfl)
theorem fo33_7 : FieldOk Try.prog 33 7 7 := fieldOk Try.underlying33 rfl rfl (by kernel_rfl)
theorem fo33_8 : FieldOk Try.prog 33 8 8 := fieldOk Try.underlying33 rfl rfl (by kernel_rfl)
theorem fo33_9 : FieldOk Try.prog 33 9 9 := fieldOk Try.underlying33 rfl rfl (by kernel_rfl)
theorem fo33_10 : FieldOk Try.prog 33 10 10 := fieldOk Try.underlying33 rfl rfl (by kernel_rfl)
theorem fo33_11 : FieldOk Try.prog 33 11 16 := fieldOk Try.underlying33 rfl rfl (by kernel_rfl)
theorem fo65_0 : FieldOk Try.prog 65 0 0 := fieldOk Try.underlying65 rfl rfl (by kernel_rfl)
theorem fo65_1 : FieldOk Try.prog 65 1 1 := fieldOk Try.underlying65 rfl rfl (by kernel_rfl)
theorem fo68_0 : FieldOk Try.prog 68 0 0 := fieldOk Try.underlying68 rfl rfl (by kernel_rfl)
theorem fo68_1 : FieldOk Try.prog 68 1 1 := fieldOk Try.underlying68 rfl rfl (by kernel_rfl)
theorem fo68_2 : FieldOk Try.prog 68 2 2 := fieldOk Try.underlying68 rfl rfl (by kernel_rfl)
theorem fo68_3 : FieldOk Try.prog 68 3 3 := fieldOk Try.underlying68 rfl rfl (by kernel_rfl)
theorem fo74_0 : FieldOk Try.prog 74 0 0 := fieldOk Try.underlying74 rfl rfl (by kernel_rfl)
theorem fo74_1 : FieldOk Try.prog 74 1 1 := fieldOk Try.underlying74 rfl rfl (by kernel_rfl)
theorem agok65 : AgOk Try.prog 65 #[(Field.mk "Key" 9 0 false "" "" 0), (Field.mk "Val" 9 1 false "" "" 16)] := ⟨Try.underlying65, by kernel_rfl, by kernel_rfl⟩
theorem x64_56 : X64 Try.prog 56 := x64 Try.func56 (by kernel_rfl) rfl (by kernel_rfl) (by kernel_rfl)
theorem xfrom_99 : XFrom Try.prog 99 := xfrom Try.func99 (by kernel_rfl) rfl (by kernel_rfl) (by kernel_rfl)
theorem kok7 : CallOk Try.prog 7 := callOk Try.func7 (by kernel_rfl) rfl
theorem kok9 : CallOk Try.prog 9 := callOk Try.func9 (by kernel_rfl) rfl
theorem kok14 : CallOk Try.prog 14 := callOk Try.func14 (by kernel_rfl) rfl
theorem kok15 : CallOk Try.prog 15 := callOk Try.func15 (by kernel_rfl) rfl
theorem kok16 : CallOk Try.prog 16 := callOk Try.func16 (by kernel_rfl) rfl
theorem kok18 : CallOk Try.prog 18 := callOk Try.func18 (by kernel_rfl) rfl
theorem kok19 : CallOk Try.prog 19 := callOk Try.func19 (by kernel_rfl) rfl
theorem kok23 : CallOk Try.prog 23 := callOk Try.func23 (by kernel_rfl) rfl
theorem kok24 : CallOk Try.prog 24 := callOk Try.func24 (by kernel_rfl) rfl
theorem kok28 : CallOk Try.prog 28 := callOk Try.func28 (by kernel_rfl) rfl
theorem kok29 : CallOk Try.prog 29 := callOk Try.func29 (by kernel_rfl) rfl
theorem kok30 : CallOk Try.prog 30 := callOk Try.func30 (by kernel_rfl) rfl
theorem kok31 : CallOk Try.prog 31 := callOk Try.func31 (by kernel_rfl) rfl
theorem kok32 : CallOk Try.prog 32 := callOk Try.func32 (by kernel_rfl) rfl
theorem kok33 : CallOk Try.prog 33 := callOk Try.func33 (by kernel_rfl) rfl
theorem kok34 : CallOk Try.prog 34 := callOk Try.func34 (by kernel_rfl) rfl
theorem kok35 : CallOk Try.prog 35 := callOk Try.func35 (by kernel_rfl) rfl
theorem kok36 : CallOk Try.prog 36 := callOk Try.func36 (by kernel_rfl) rfl
theorem kok37 : CallOk Try.prog 37 := callOk Try.func37 (by kernel_rfl) rfl
theorem kok38 : CallOk Try.prog 38 := callOk Try.func38 (by kernel_rfl) rfl
theorem kok39 : CallOk Try.prog 39 := callOk Try.func39 (by kernel_rfl) rfl
theorem kok40 : CallOk Try.prog 40 := callOk Try.func40 (by kernel_rfl) rfl
theorem kok41 : CallOk Try.prog 41 := callOk Try.func41 (by kernel_rfl) rfl
theorem kok42 : CallOk Try.prog 42 := callOk Try.func42 (by kernel_rfl) rfl
theorem kok43 : CallOk Try.prog 43 := callOk Try.func43 (by kernel_rfl) rfl
theorem kok45 : CallOk Try.prog 45 := callOk Try.func45 (by kernel_rfl) rfl
theorem kok48 : CallOk Try.prog 48 := callOk Try.func48 (by kernel_rfl) rfl
theorem kok49 : CallOk Try.prog 49 := callOk Try.func49 (by kernel_rfl) rfl
theorem kok50 : CallOk Try.prog 50 := callOk Try.func50 (by kernel_rfl) rfl
theorem kok51 : CallOk Try.prog 51 := callOk Try.func51 (by kernel_rfl) rfl
theorem kok52 : CallOk Try.prog 52 := callOk Try.func52 (by kernel_rfl) rfl
theorem kok53 : CallOk Try.prog 53 := callOk Try.func53 (by kernel_rfl) rfl
theorem kok60 : CallOk Try.prog 60 := callOk Try.func60 (by kernel_rfl) rfl
theorem kok61 : CallOk Try.prog 61 := callOk Try.func61 (by kernel_rfl) rfl
theorem kok62 : CallOk Try.prog 62 := callOk Try.func62 (by kernel_rfl) rfl
theorem kok63 : CallOk Try.prog 63 := callOk Try.func63 (by kernel_rfl) rfl
theorem kok64 : CallOk Try.prog 64 := callOk Try.func64 (by kernel_rfl) rfl
theorem kok65 : CallOk Try.prog 65 := callOk Try.func65 (by kernel_rfl) rfl
theorem kok66 : CallOk Try.prog 66 := callOk Try.func66 (by kernel_rfl) rfl
theorem kok67 : CallOk Try.prog 67 := callOk Try.func67 (by kernel_rfl) rfl
theorem kok68 : CallOk Try.prog 68 := callOk Try.func68 (by kernel_rfl) rfl
theorem kok69 : CallOk Try.prog 69 := callOk Try.func69 (by kernel_rfl) rfl
theorem kok70 : CallOk Try.prog 70 := callOk Try.func70 (by kernel_rfl) rfl
theorem kok71 : CallOk Try.prog 71 := callOk Try.func71 (by kernel_rfl) rfl
theorem kok72 : CallOk Try.prog 72 := callOk Try.func72 (by kernel_rfl) rfl
theorem kok73 : CallOk Try.prog 73 := callOk Try.func73 (by kernel_rfl) rfl
theorem kok74 : CallOk Try.prog 74 := callOk Try.func74 (by kernel_rfl) rfl
theorem kok75 : CallOk Try.prog 75 := callOk Try.func75 (by kernel_rfl) rfl
theorem kok76 : CallOk Try.prog 76 := callOk Try.func76 (by kernel_rfl) rfl
theorem kok77 : CallOk Try.prog 77 := callOk Try.func77 (by kernel_rfl) rfl
theorem kok84 : CallOk Try.prog 84 := callOk Try.func84 (by kernel_rfl) rfl
theorem kok86 : CallOk Try.prog 86 := callOk Try.func86 (by kernel_rfl) rfl
theorem kok87 : CallOk Try.prog 87 := callOk Try.func87 (by kernel_rfl) rfl
theorem kok88 : CallOk Try.prog 88 := callOk Try.func88 (by kernel_rfl) rfl
theorem kok89 : CallOk Try.prog 89 := callOk Try.func89 (by kernel_rfl) rfl
theorem kok90 : CallOk Try.prog 90 := callOk Try.func90 (by kernel_rfl) rfl
theorem kok91 : CallOk Try.prog 91 := callOk Try.func91 (by kernel_rfl) rfl
theorem kok92 : CallOk Try.prog 92 := callOk Try.func92 (by kernel_rfl) rfl
theorem kok93 : CallOk Try.prog 93 := callOk Try.func93 (by kernel_rfl) rfl
theorem kok94 : CallOk Try.prog 94 := callOk Try.func94 (by kernel_rfl) rfl
theorem kok95 : CallOk Try.prog 95 := callOk Try.func95 (by kernel_rfl) rfl
theorem kok96 : CallOk Try.prog 96 := callOk Try.func96 (by kernel_rfl) rfl
theorem kok97 : CallOk Try.prog 97 := callOk Try.func97 (by kernel_rfl) rfl
theorem kok98 : CallOk Try.prog 98 := callOk Try.func98 (by kernel_rfl) rfl
theorem kok105 : CallOk Try.prog 105 := callOk Try.func105 (by kernel_rfl) rfl
theorem kok106 : CallOk Try.prog 106 := callOk Try.func106 (by kernel_rfl) rfl
theorem kok107 : CallOk Try.prog 107 := callOk Try.func107 (by kernel_rfl) rfl
theorem kok108 : CallOk Try.prog 108 := callOk Try.func108 (by kernel_rfl) rfl
theorem kok109 : CallOk Try.prog 109 := callOk Try.func109 (by kernel_rfl) rfl
theorem kok110 : CallOk Try.prog 110 := callOk Try.func110 (by kernel_rfl) rfl
theorem kok111 : CallOk Try.prog 111 := callOk Try.func111 (by kernel_rfl) rfl
theorem kok112 : CallOk Try.prog 112 := callOk Try.func112 (by kernel_rfl) rfl
theorem kok113 : CallOk Try.prog 113 := callOk Try.func113 (by kernel_rfl) rfl
theorem kok114 : CallOk Try.prog 114 := callOk Try.func114 (by kernel_rfl) rfl
theorem kok115 : CallOk Try.prog 115 := callOk Try.func115 (by kernel_rfl) rfl
theorem kok119 : CallOk Try.prog 119 := callOk Try.func119 (by kernel_rfl) rfl
theorem kok120 : CallOk Try.prog 120 := callOk Try.func120 (by kernel_rfl) rfl
theorem kok121 : CallOk Try.prog 121 := callOk Try.func121 (by kernel_rfl) rfl
theorem kok122 : CallOk Try.prog 122 := callOk Try.func122 (by kernel_rfl) rfl
theorem kok125 : CallOk Try.prog 125 := callOk Try.func125 (by kernel_rfl) rfl
theorem kok126 : CallOk Try.prog 126 := callOk Try.func126 (by kernel_rfl) rfl
theorem kok127 : CallOk Try.prog 127 := callOk Try.func127 (by kernel_rfl) rfl
theorem kok128 : CallOk Try.prog 128 := callOk Try.func128 (by kernel_rfl) rfl
theorem c_ref11_Light {A : Nat → Prop} {a0 : List api_Pair} {v0 : Value} {w : World} (hs0 : Sl rep_api_Pair w A v0 a0) {r0 : Bool} (h : ref11_Light a0 = some r0) : Rets Try.prog 35 [v0] w (fun v w' => v = vB r0 ∧ Ext w w') := by
 unfold ref11_Light at h
 refine Rets.enter Try.func35 z z ?_
 have d : Sl rep_api_Pair w (imm (Lg.O0 A)) v0 a0 := (Sl.start hs0)
 refine (show WC _ _ _ _ [(0, v0)] _ from ?_)
 refine sq (rg (wY (ya z) z (nl (th (sq (sq (rg (wY (ym z) z (wY (Y.len ty25 z d) z ?_)))))))))
 refine wY (Y.gtr_i z z) z (nl (th ?_))
 rcases cnd h with ⟨e, h⟩ | ⟨e, h⟩
 ·refine WC.condT' z e (sq (rg (wY (ya z) z (nl (th (rt (At.thenR ?_)))))))
  obtain rfl := some1 h
  have J : Stp [] (Lg.O0 A) w (Lg.O0 A) w := (sr_ _ _ _)
  exact At.res (.inl z) z (.tmp z .nil) ⟨z, (se_ J z z)⟩
 ·refine WC.condF' z e (sk (th (sq (sq (rg (wY (ya z) z (nl (th (WC.block ?_)))))))))
  obtain ⟨H, h, r⟩ := flow1 h
  obtain ⟨I, h⟩ := loop_some h
  refine WC.joinB 0 (σ := Unit) (fun x w' => H = .go () ∧ w = w') (fun x => []) ?_ ?_
  ·refine WC.loop (σ := Int) (fun x k w' => loopN k (ref11_Light_lp1 a0) x = some H ∧ w = w') (fun x => [(0, v0), (3, vi x)]) 0 I (.cons z (.cons z .nil)) ⟨h, z⟩ ?_
   rintro t I _ ⟨h, rfl⟩
   obtain ⟨ad, ao, rfl, h, j⟩ := rnd1 h
   unfold ref11_Light_lp1 at h
   try dsimp only at h
   refine (show WC _ _ _ _ [(0, v0), (3, vi t)] _ from ?_)
   refine sq (sq (rg (wY (ym z) z (wY (ym z) z (wY (Y.len ty25 z d) z (wY (Y.lss_i z z) z (nl (th ?_))))))))
   rcases cnd h with ⟨l, h⟩ | ⟨l, h⟩
   ·refine WC.condT' z l (sk (th (sq (WC.block (sq (rg (wY (ym z) z (wY (ym z) z ?_))))))))
    obtain ⟨C, K, h⟩ := bnd h
    obtain ⟨ap, ai, aj, am, L, M, P, m, D, Q⟩ := Sl.at2 d K
    obtain ⟨_, _, rfl, rfl, rfl⟩ := D
    replace m : CellsAt _ _ _ [vs C.Key, vs C.Val] := m
    have E := CAt.imm m Q
    refine wY (Y.indexAddr ty25 ty65 z L z M P) z (wY (yf fo65_0 z) z (wY (yl ty9 z z (E.at_.sub 0 [vs C.Key] z)) z (wY (Y.len_s ty9 z) z (wY (Y.gtr_i z z) z (wY (ym z) z ?_)))))
    obtain ⟨ae, h, S⟩ := bnd h
    refine WL.cut 8 (σ := Bool) (fun x w' => x = ae ∧ w = w') (fun x => [(0, v0), (3, vi t), (28, vB x)]) ?_ ?_
    ·rcases cnd h with ⟨n, h⟩ | ⟨n, h⟩
     ·refine WL.ren 20 z (congrArg vB n) (WL.gS z z z z (WL.gS z z z z (WL.gS z z z z (WL.gS z z z z (WL.gS z z z z (WL.gS z z z z (WL.gS z z z z (wY (Y.pick (b := true) z z) z ?_))))))))
      exact nl (At.join (σ := Bool) true ⟨some1 h, z⟩ (.cons z (.cons z (.cons z .nil))))
     ·refine WL.ren 20 z (congrArg vB n) (ug z z (wY (ym z) z (ug z z (wY (ym z) z (ug z z ?_)))))
      obtain ⟨q, T, h⟩ := bnd h
      obtain ⟨aq, ak, al, an, U, W, X, o, F, Z⟩ := Sl.at2 d T
      obtain ⟨_, _, rfl, rfl, rfl⟩ := F
      replace o : CellsAt _ _ _ [vs q.Key, vs q.Val] := o
      have G := CAt.imm o Z
      refine wY (Y.indexAddr ty25 ty65 z U z W X) z (ug z z (wY (yf fo65_1 z) z (ug z z (wY (yl ty9 z z (G.at_.sub 1 [vs q.Val] z)) z (ug z z (wY (Y.len_s ty9 z) z (ug z z (wY (Y.gtr_i z z) z (wY (Y.pick (b := false) z z) z ?_)))))))))
      exact nl (At.join (σ := Bool) (decide (100 < (q.Val.length : Int))) ⟨some1 h, z⟩ (.cons z (.cons z (.cons z .nil))))
    ·rintro af _ ⟨rfl, rfl⟩
     replace h := S
     try dsimp only at h
     refine (show WL _ _ _ _ _ [(0, v0), (3, vi t), (28, vB af)] _ from ?_)
     refine nl (th ?_)
     rcases cnd h with ⟨p, h⟩ | ⟨p, h⟩
     ·refine WC.condT' z p (sq (rg (wY (ya z) z (nl (th (rt (At.inBlockR (At.thenR (At.loopR ?_)))))))))
      have h := outr1 h j r
      refine At.joinBR (At.inBlockR (At.thenR ?_))
      obtain rfl := some1 h
      have aa : Stp [] (Lg.O0 A) w (Lg.O0 A) w := (sr_ _ _ _)
      exact At.res (.inl z) z (.tmp z .nil) ⟨z, (se_ aa z z)⟩
     ·refine WC.condF' z p (sk (At.inBlock (th (rg (wY (ym z) z (wY (Y.add_i z z) z ?_))))))
      obtain ⟨ah, ab, h⟩ := lt1 h
      refine WL.yE (ya z) (congrArg vi ab.symm) z (nl ?_)
      exact At.round ah ad (Nat.lt_succ_self _) ⟨next1 h j, z⟩ (.cons z (.cons z .nil))
   ·refine WC.condF' z l (WC.exit (At.thenX (At.loopX ?_)))
    exact At.hitB (σ := Unit) () ⟨brk1 h j, z⟩ .nil
  ·rintro _ _ ⟨rfl, rfl⟩
   replace h := flowK_go r
   refine (show At _ _ _ [] _ from ?_)
   refine At.inBlockHit (th (sq (rg (wY (ya z) z (nl (th (rt ?_)))))))
   obtain rfl := some1 h
   have ac : Stp [] (Lg.O0 A) w (Lg.O0 A) w := (sr_ _ _ _)
   exact At.res (.inl z) z (.tmp z .nil) ⟨z, (se_ ac z z)⟩
theorem c_ref08_Light {A : Nat → Prop} {v0_3 : Value} {v0_5 : Value} {a0 : api_Hist} {w : World} (hs0_3 : Sl Rep.u w A v0_3 a0.Pos.Counts) (hs0_5 : Sl Rep.u w A v0_5 a0.Neg.Counts) {r0 : Bool} (h : ref08_Light a0 = some r0) : Rets Try.prog 36 [ag (hl a0 v0_3 v0_5)] w (fun v w' => v = vB r0 ∧ Ext w w') := by
 unfold ref08_Light at h
 refine Rets.enter Try.func36 z z ?_
 have j : Sl Rep.u w (imm (Lg.O0 A)) v0_3 a0.Pos.Counts := (Sl.start hs0_3)
 have l : Sl Rep.u w (imm (Lg.O0 A)) v0_5 a0.Neg.Counts := (Sl.start hs0_5)
 refine (show WC _ _ _ _ [(0, ag (hl a0 v0_3 v0_5))] _ from ?_)
 refine sq (rg ?_)
 have o := h
 obtain ⟨D, E, F, rfl⟩ := j.shape
 have h := o
 have p := h
 obtain ⟨G, H, I, rfl⟩ := l.shape
 have h := p
 refine WL.box (O := (Lg.O0 A)) 11 (hl a0 (vl D E F) (vl G H I)) z z z ?_
 intro K J m d n
 refine wY (ya z) z (nl (th (sq (rg (wY (yf fo31_2 z) z (wY (yf fo29_1 z) z (wY (yl ty27 z z (n.cell 3 _ z)) z ?_)))))))
 have q := j.i d z z
 refine wY (Y.len ty27 z q) z (wY (Y.leq_i z z) z (wY (ym z) z ?_))
 refine WL.cut 6 (σ := Unit) (fun _ w' => m = w') (fun _ => [(14, vB ((decide ((a0.Pos.Counts.length : Int) ≤ 300)) && (decide ((a0.Neg.Counts.length : Int) ≤ 300))))]) ?_ ?_
 ·refine WL.part 8 z (fun e => ?_) (fun e => ?_)
  ·refine ug z z (wY (yf fo31_3 z) z (ug z z (wY (yf fo29_1 z) z (ug z z (wY (yl ty27 z z (n.cell 5 _ z)) z (ug z z ?_))))))
   have r := l.i d z z
   refine wY (Y.len ty27 z r) z (ug z z (wY (Y.leq_i z z) z (wY (Y.pick (b := true) z z) z (WL.ren (v' := vB ((decide ((a0.Pos.Counts.length : Int) ≤ 300)) && (decide ((a0.Neg.Counts.length : Int) ≤ 300)))) 14 z (congrArg vB (andT e)) ?_))))
   exact nl (At.join () z (.cons z .nil))
  ·refine WL.gS z z z z (WL.gS z z z z (WL.gS z z z z (WL.gS z z z z (WL.gS z z z z (wY (Y.pick (b := false) z z) z (WL.ren (v' := vB ((decide ((a0.Pos.Counts.length : Int) ≤ 300)) && (decide ((a0.Neg.Counts.length : Int) ≤ 300)))) 14 z (congrArg vB (andF e)) ?_))))))
   exact nl (At.join () z (.cons z .nil))
 ·rintro _ _ rfl
  refine (show WL _ _ _ _ _ [(14, vB ((decide ((a0.Pos.Counts.length : Int) ≤ 300)) && (decide ((a0.Neg.Counts.length : Int) ≤ 300))))] _ from ?_)
  obtain ⟨L, t, h⟩ := lt1 h
  refine WL.yE (ya z) (congrArg vB t.symm) z (nl (th (rt ?_)))
  obtain rfl := some1 h
  have C : Stp [] (Lg.O0 A) w J m := (su_ d z)
  exact At.res (.inl z) z (.tmp z .nil) ⟨z, (se_ C z z)⟩
theorem c_ref12_Light {A : Nat → Prop} {v0_1 : Value} {v0_13 : Value} {v0_15 : Value} {a0 : api_Point} {w : World} (hs0_1 : Sl rep_api_Pair w A v0_1 a0.Attrs) (hs0_13 : Sl Rep.u w A v0_13 a0.Hist.Pos.Counts) (hs0_15 : Sl Rep.u w A v0_15 a0.Hist.Neg.Counts) {r0 : Bool} (h : ref12_Light a0 = some r0) : Rets Try.prog 18 [ag (cp a0 v0_1 v0_13 v0_15)] w (fun v w' => v = vB r0 ∧ Ext w w') := by
 unfold ref12_Light at h
 refine Rets.enter Try.func18 z z ?_
 have o : Sl rep_api_Pair w (imm (Lg.O0 A)) v0_1 a0.Attrs := (Sl.start hs0_1)
 have p : Sl Rep.u w (imm (Lg.O0 A)) v0_13 a0.Hist.Pos.Counts := (Sl.start hs0_13)
 have q : Sl Rep.u w (imm (Lg.O0 A)) v0_15 a0.Hist.Neg.Counts := (Sl.start hs0_15)
 refine (show WC _ _ _ _ [(0, ag (cp a0 v0_1 v0_13 v0_15))] _ from ?_)
 refine sq (rg ?_)
 have Q := h
 obtain ⟨K, L, M, rfl⟩ := o.shape
 have h := Q
 have S := h
 obtain ⟨r, t, C, rfl⟩ := p.shape
 have h := S
 have T := h
 obtain ⟨D, E, F, rfl⟩ := q.shape
 have h := T
 refine WL.box (O := (Lg.O0 A)) 11 (cp a0 (vl K L M) (vl r t C) (vl D E F)) z z z ?_
 intro P G U e j
 refine wY (ya z) z (nl (th (sq (rg (wY (yf fo33_0 z) z (wY (yl ty9 z z (j.cell 0 _ z)) z (wY (Y.len_s ty9 z) z (wY (Y.leq_i z z) z (wY (ym z) z ?_)))))))))
 obtain ⟨an, h, W⟩ := bnd h
 refine WL.cut 4 (σ := (Bool × Own)) (fun x w' => x.1 = an ∧ Stp [] G U x.2 w') (fun x => [(1, pt P 0), (11, vB x.1)]) ?_ ?_
 ·rcases cnd h with ⟨l, h⟩ | ⟨l, h⟩
  ·refine WL.ren 7 z (congrArg vB l) (ug z z (wY (yf fo33_1 z) z (ug z z (wY (yl ty25 z z (j.cell 1 _ z)) z (ug z z ?_)))))
   have X := o.i e z z
   obtain ⟨ao, Z, h⟩ := bnd h
   refine WL.call (vals := [(vl K L M)]) kok35 z z (c_ref11_Light (A := fun _ => True) (Sl.all X) Z) ?_
   rintro aE aF ⟨rfl, aa⟩
   obtain ⟨ap, aq, ar, I⟩ := adoptE G (fun k => 1) aa
   refine wY (Y.pick (b := true) z z) z ?_
   exact nl (At.join (σ := (Bool × Own)) (ao, ap) ⟨some1 h, (su_ I z)⟩ (.cons z (.cons z .nil)))
  ·refine WL.ren 7 z (congrArg vB l) (WL.gS z z z z (WL.gS z z z z (WL.gS z z z z (wY (Y.pick (b := false) z z) z ?_))))
   exact nl (At.join (σ := (Bool × Own)) (false, G) ⟨some1 h, (sr_ _ _ _)⟩ (.cons z (.cons z .nil)))
 ·rintro ⟨au, H⟩ ab ⟨rfl, d⟩
  replace h := W
  try dsimp only at h d
  refine (show WL _ _ _ _ _ [(1, pt P 0), (11, vB au)] _ from ?_)
  refine wY (ym z) z ?_
  obtain ⟨av, h, ac⟩ := bnd h
  refine WL.cut 4 (σ := (Bool × Own)) (fun x w' => x.1 = av ∧ Stp [] H ab x.2 w') (fun x => [(16, vB x.1)]) ?_ ?_
  ·rcases cnd h with ⟨m, h⟩ | ⟨m, h⟩
   ·refine WL.ren 12 z (congrArg vB m) (ug z z (wY (yf fo33_10 z) z (ug z z ?_)))
    have ad := j.st d z
    refine wY (yL ty31 z z (ad.cells 10 (hl a0.Hist (vl r t C) (vl D E F)) z) z) z (ug z z ?_)
    have af := (p.i e z z).i d z z
    have ai := (q.i e z z).i d z z
    obtain ⟨ax, aj, h⟩ := bnd h
    refine WL.call (vals := [ag (hl a0.Hist (vl r t C) (vl D E F))]) kok36 z z (c_ref08_Light (A := fun _ => True) (a0 := a0.Hist) (Sl.all af) (Sl.all ai) aj) ?_
    rintro aG aH ⟨rfl, ak⟩
    obtain ⟨ay, az, aA, J⟩ := adoptE H (fun k => 1) ak
    refine wY (Y.pick (b := true) z z) z ?_
    exact nl (At.join (σ := (Bool × Own)) (ax, ay) ⟨some1 h, (su_ J z)⟩ (.cons z .nil))
   ·refine WL.ren 12 z (congrArg vB m) (WL.gS z z z z (WL.gS z z z z (WL.gS z z z z (wY (Y.pick (b := false) z z) z ?_))))
    exact nl (At.join (σ := (Bool × Own)) (false, H) ⟨some1 h, (sr_ _ _ _)⟩ (.cons z .nil))
  ·rintro ⟨aC, aD⟩ al ⟨rfl, n⟩
   replace h := ac
   try dsimp only at h n
   refine (show WL _ _ _ _ _ [(16, vB aC)] _ from ?_)
   refine wY (ya z) z (nl (th (rt ?_)))
   obtain rfl := some1 h
   have am : Stp [] (Lg.O0 A) w aD al := (tr_ (su_ e z) (tr_ (su_ d z) (su_ n z)))
   exact At.res (.inl z) z (.tmp z .nil) ⟨z, (se_ am z z)⟩
theorem c_ref12_Some {A : Nat → Prop} {a0 : List api_Point} {v0 : Value} {a1 : Int} {w : World} (hs0 : Sl rep_api_Point w A v0 a0) {r0 : Bool} (h : ref12_Some a0 a1 = some r0) : Rets Try.prog 7 [v0, vi a1] w (fun v w' => v = vB r0 ∧ Ext w w') := by
 unfold ref12_Some at h
 refine Rets.enter Try.func7 z z ?_
 have p : Sl rep_api_Point w (imm (Lg.O0 A)) v0 a0 := (Sl.start hs0)
 refine (show WC _ _ _ _ [(0, v0), (1, vi a1)] _ from ?_)
 refine sq (rg (wY (ya z) z (nl (th (sq (sq (rg (wY (ym z) z (wY (Y.len ty22 z p) z ?_)))))))))
 refine wY (ym z) z (wY (Y.gtr_i z z) z (nl (th ?_)))
 rcases cnd h with ⟨e, h⟩ | ⟨e, h⟩
 ·refine WC.condT' z e (sq (rg (wY (ya z) z (nl (th (rt (At.thenR ?_)))))))
  obtain rfl := some1 h
  have M : Stp [] (Lg.O0 A) w (Lg.O0 A) w := (sr_ _ _ _)
  exact At.res (.inl z) z (.tmp z .nil) ⟨z, (se_ M z z)⟩
 ·refine WC.condF' z e (sk (th (sq (sq (rg (wY (ya z) z (nl (th (WC.block ?_)))))))))
  obtain ⟨F, h, q⟩ := flow1 h
  obtain ⟨G, h⟩ := loop_some h
  refine WC.joinB 0 (σ := Own) (fun x w' => F = .go () ∧ Stp [] (Lg.O0 A) w x w') (fun x => []) ?_ ?_
  ·refine WC.loop (σ := (Int × Own)) (fun x k w' => loopN k (ref12_Some_lp1 a0) x.1 = some F ∧ Stp [] (Lg.O0 A) w x.2 w') (fun x => [(0, v0), (5, vi x.1)]) (0, (Lg.O0 A)) G (.cons z (.cons z .nil)) ⟨h, (sr_ _ _ _)⟩ ?_
   rintro ⟨ai, H⟩ G aq ⟨h, d⟩
   obtain ⟨aj, av, rfl, h, j⟩ := rnd1 h
   unfold ref12_Some_lp1 at h
   try dsimp only at h d
   refine (show WC _ _ _ _ [(0, v0), (5, vi ai)] _ from ?_)
   refine sq (sq (rg (wY (ym z) z (wY (ym z) z ?_))))
   have r := p.i d z z
   refine wY (Y.len ty22 z r) z (wY (Y.lss_i z z) z (nl (th ?_)))
   rcases cnd h with ⟨l, h⟩ | ⟨l, h⟩
   ·refine WC.condT' z l (sk (th (sq (WC.block (sq (rg (wY (ym z) z (wY (ym z) z ?_))))))))
    obtain ⟨t, P, h⟩ := bnd h
    obtain ⟨ax, ao, ap, ar, Q, S, T, m, C, U⟩ := Sl.at2 r P
    obtain ⟨_, _, rfl, rfl, ⟨_, _, rfl, ⟨I, rfl, W⟩, ⟨_, _, rfl, rfl, ⟨_, _, rfl, rfl, ⟨_, _, rfl, rfl, ⟨_, _, rfl, rfl, ⟨_, _, rfl, rfl, ⟨_, _, rfl, rfl, ⟨_, _, rfl, rfl, ⟨_, _, rfl, rfl, ⟨_, _, rfl, ⟨_, _, rfl, rfl, ⟨_, _, rfl, rfl, ⟨_, _, rfl, ⟨_, _, rfl, rfl, ⟨J, rfl, X⟩⟩, ⟨_, _, rfl, rfl, ⟨K, rfl, Z⟩⟩⟩⟩⟩, rfl⟩⟩⟩⟩⟩⟩⟩⟩⟩⟩⟩ := C
    replace m : CellsAt _ _ _ (cp t I J K) := m
    have D := CAt.imm m U
    refine wY (Y.indexAddr ty22 ty33 z Q z S T) z (wY (yL ty33 z z D.at_ z) z ?_)
    obtain ⟨ay, aa, h⟩ := bnd h
    refine WL.call (vals := [ag (cp t I J K)]) kok18 z z (c_ref12_Light (A := fun _ => True) (a0 := t) (Sl.all W) (Sl.all X) (Sl.all Z) aa) ?_
    rintro au ab ⟨rfl, ac⟩
    obtain ⟨L, ak, al, o⟩ := adoptE H (fun k => 1) ac
    refine wY (Y.not z) z (nl (th ?_))
    rcases cnd h with ⟨n, h⟩ | ⟨n, h⟩
    ·refine WC.condT' z n (sq (rg (wY (ya z) z (nl (th (rt (At.inBlockR (At.thenR (At.loopR ?_)))))))))
     have h := outr1 h j q
     refine At.joinBR (At.inBlockR (At.thenR ?_))
     obtain rfl := some1 h
     have ad : Stp [] (Lg.O0 A) w L ab := (tr_ (su_ d z) (su_ o z))
     exact At.res (.inl z) z (.tmp z .nil) ⟨z, (se_ ad z z)⟩
    ·refine WC.condF' z n (sk (At.inBlock (th (rg (wY (ym z) z (wY (Y.add_i z z) z ?_))))))
     obtain ⟨am, ae, h⟩ := lt1 h
     refine WL.yE (ya z) (congrArg vi ae.symm) z (nl ?_)
     exact At.round (am, L) aj (Nat.lt_succ_self _) ⟨next1 h j, (tr_ (su_ d z) (su_ o z))⟩ (.cons z (.cons z .nil))
   ·refine WC.condF' z l (WC.exit (At.thenX (At.loopX ?_)))
    exact At.hitB (σ := Own) H ⟨brk1 h j, (su_ d z)⟩ .nil
  ·rintro an af ⟨rfl, E⟩
   replace h := flowK_go q
   refine (show At _ _ _ [] _ from ?_)
   refine At.inBlockHit (th (sq (rg (wY (ya z) z (nl (th (rt ?_)))))))
   obtain rfl := some1 h
   have ah : Stp [] (Lg.O0 A) w an af := (su_ E z)
   exact At.res (.inl z) z (.tmp z .nil) ⟨z, (se_ ah z z)⟩
theorem c_ref11_Same {A : Nat → Prop} {a0 : List api_Pair} {v0 : Value} {a1 : List api_Pair} {v1 : Value} {w : World} (hs0 : Sl rep_api_Pair w A v0 a0) (hs1 : Sl rep_api_Pair w A v1 a1) {r0 : Bool} (h : ref11_Same a0 a1 = some r0) : Rets Try.prog 48 [v0, v1] w (fun v w' => v = vB r0 ∧ Ext w w') := by
 unfold ref11_Same at h
 refine Rets.enter Try.func48 z z ?_
 have C : Sl rep_api_Pair w (imm (Lg.O0 A)) v0 a0 := (Sl.start hs0)
 have D : Sl rep_api_Pair w (imm (Lg.O0 A)) v1 a1 := (Sl.start hs1)
 refine (show WC _ _ _ _ [(0, v0), (1, v1)] _ from ?_)
 refine sq (rg (wY (ya z) z (nl (th (sq (sq (rg (wY (ym z) z (wY (Y.len ty25 z C) z ?_)))))))))
 refine wY (ym z) z (wY (Y.len ty25 z D) z (wY (Y.neq_i z z) z (nl (th ?_))))
 rcases cnd h with ⟨j, h⟩ | ⟨j, h⟩
 ·refine WC.condT' z j (sq (rg (wY (ya z) z (nl (th (rt (At.thenR ?_)))))))
  obtain rfl := some1 h
  have P : Stp [] (Lg.O0 A) w (Lg.O0 A) w := (sr_ _ _ _)
  exact At.res (.inl z) z (.tmp z .nil) ⟨z, (se_ P z z)⟩
 ·refine WC.condF' z j (sk (th (sq (sq (rg (wY (ya z) z (nl (th (WC.block ?_)))))))))
  obtain ⟨L, h, E⟩ := flow1 h
  obtain ⟨M, h⟩ := loop_some h
  refine WC.joinB 0 (σ := Own) (fun x w' => L = .go () ∧ Stp [] (Lg.O0 A) w x w') (fun x => []) ?_ ?_
  ·refine WC.loop (σ := (Int × Own)) (fun x k w' => loopN k (ref11_Same_lp1 a0 a1) x.1 = some L ∧ Stp [] (Lg.O0 A) w x.2 w') (fun x => [(0, v0), (1, v1), (5, vi x.1)]) (0, (Lg.O0 A)) M (.cons z (.cons z (.cons z .nil))) ⟨h, (sr_ _ _ _)⟩ ?_
   rintro ⟨am, q⟩ M ax ⟨h, d⟩
   obtain ⟨an, aA, rfl, h, l⟩ := rnd1 h
   unfold ref11_Same_lp1 at h
   try dsimp only at h d
   refine (show WC _ _ _ _ [(0, v0), (1, v1), (5, vi am)] _ from ?_)
   refine sq (sq (rg (wY (ym z) z (wY (ym z) z ?_))))
   have F := C.i d z z
   refine wY (Y.len ty25 z F) z (wY (Y.lss_i z z) z (nl (th ?_)))
   rcases cnd h with ⟨m, h⟩ | ⟨m, h⟩
   ·refine WC.condT' z m (sk (th (sq (WC.block (sq (WC.draw 8 q fmix (by kernel_rfl) ?_))))))
    intro Q e
    refine WS.y (ym z) z (WS.y (ym z) z ?_)
    obtain ⟨r, S, h⟩ := bnd h
    have T := F.i e z z
    obtain ⟨aC, aq, ar, ay, U, W, X, n, G, Z⟩ := Sl.at2 T S
    obtain ⟨_, _, rfl, rfl, rfl⟩ := G
    replace n : CellsAt _ _ _ [vs r.Key, vs r.Val] := n
    have H := CAt.imm n Z
    refine WS.y (Y.indexAddr ty25 ty65 z U z W X) z (WS.y (yL ty65 z z H.at_ z) z (WS.y (ym z) z (WS.y (ym z) z ?_)))
    obtain ⟨t, aa, h⟩ := bnd h
    have ac := (D.i d z z).i e z z
    obtain ⟨aD, au, av, az, ad, ae, af, o, I, ah⟩ := Sl.at2 ac aa
    obtain ⟨_, _, rfl, rfl, rfl⟩ := I
    replace o : CellsAt _ _ _ [vs t.Key, vs t.Val] := o
    have J := CAt.imm o ah
    refine WS.y (Y.indexAddr ty25 ty65 z ad z ae af) z (WS.y (yL ty65 z z J.at_ z) z (WS.tail (wY (Y.neq_ag agok65 z z (EqF.cons (by decide) (fun w => run_part_plain w (by kernel_rfl) z) (fun w => run_part_plain w (by kernel_rfl) z) (EqV.s (a := r.Key) (b := t.Key) ty9.u) (EqF.cons (by decide) (fun w => run_part_plain w (by kernel_rfl) z) (fun w => run_part_plain w (by kernel_rfl) z) (EqV.s (a := r.Val) (b := t.Val) ty9.u) EqF.nil))) z (nl (th ?_)))))
    rcases cnd h with ⟨p, h⟩ | ⟨p, h⟩
    ·refine WC.condT' z p (sq (rg (wY (ya z) z (nl (th (rt (At.inBlockR (At.thenR (At.loopR ?_)))))))))
     have h := outr1 h l E
     refine At.joinBR (At.inBlockR (At.thenR ?_))
     obtain rfl := some1 h
     have ai : Stp [] (Lg.O0 A) w q Q := (tr_ (su_ d z) (su_ e z))
     exact At.res (.inl z) z (.tmp z .nil) ⟨z, (se_ ai z z)⟩
    ·refine WC.condF' z p (sk (At.inBlock (th (rg (wY (ym z) z (wY (Y.add_i z z) z ?_))))))
     obtain ⟨ao, aj, h⟩ := lt1 h
     refine WL.yE (ya z) (congrArg vi aj.symm) z (nl ?_)
     exact At.round (ao, q) an (Nat.lt_succ_self _) ⟨next1 h l, (tr_ (su_ d z) (su_ e z))⟩ (.cons z (.cons z (.cons z .nil)))
   ·refine WC.condF' z m (WC.exit (At.thenX (At.loopX ?_)))
    exact At.hitB (σ := Own) q ⟨brk1 h l, (su_ d z)⟩ .nil
  ·rintro ap ak ⟨rfl, K⟩
   replace h := flowK_go E
   refine (show At _ _ _ [] _ from ?_)
   refine At.inBlockHit (th (sq (rg (wY (ya z) z (nl (th (rt ?_)))))))
   obtain rfl := some1 h
   have al : Stp [] (Lg.O0 A) w ap ak := (su_ K z)
   exact At.res (.inl z) z (.tmp z .nil) ⟨z, (se_ al z z)⟩
theorem c_ref11_Sorted {A : Nat → Prop} {a0 : List api_Pair} {v0 : Value} {w : World} (hs0 : Sl rep_api_Pair w A v0 a0) {r0 : List api_Pair} (h : ref11_Sorted a0 = some r0) : Rets Try.prog 49 [v0] w (fun v w' => ∃ (u0 : Value), v = u0 ∧ Ext w w' ∧ RowF rep_api_Pair 65 w w' u0 r0) := by
 unfold ref11_Sorted at h
 refine Rets.enter Try.func49 z z ?_
 have bk : Sl rep_api_Pair w (imm (Lg.O0 A)) v0 a0 := (Sl.start hs0)
 refine (show WC _ _ _ _ [(0, v0)] _ from ?_)
 refine sq (rg (wY (ya z) z (nl (th (sq (rg (wY (ya z) z (nl (th ?_)))))))))
 refine sq (sq (rg (wY (ya z) z (nl (th (WC.block ?_))))))
 obtain ⟨bc, h, bl⟩ := flow1 h
 obtain ⟨bd, h⟩ := loop_some h
 refine WC.joinB 0 (σ := (List api_Pair × Own × Value)) (fun x w' => bc = .go x.1 ∧ Stp [11, 1001] (Lg.O0 A) w x.2.1 w' ∧ OwnSl 1002 rep_api_Pair 65 x.2.1 w' x.2.2 x.1) (fun x => [(3, x.2.2)]) ?_ ?_
 ·refine WC.loop (σ := (List api_Pair × Int × Own × Value)) (fun x k w' => loopN k (ref11_Sorted_lp1 a0) (x.1, x.2.1) = some bc ∧ Stp [11, 1001] (Lg.O0 A) w x.2.2.1 w' ∧ OwnSl 1001 rep_api_Pair 65 x.2.2.1 w' x.2.2.2 x.1) (fun x => [(0, v0), (3, x.2.2.2), (4, vi x.2.1)]) ([], 0, (Lg.O0 A), sn) bd (.cons z (.cons z (.cons z .nil))) ⟨h, (sr_ _ _ _), (OwnSl.nil 1001 rep_api_Pair 65)⟩ ?_
  rintro ⟨M, j, P, e⟩ bd I ⟨h, m, p⟩
  obtain ⟨bG, co, rfl, h, aa⟩ := rnd1 h
  unfold ref11_Sorted_lp1 at h
  try dsimp only at h m p
  refine (show WC _ _ _ _ [(0, v0), (3, e), (4, vi j)] _ from ?_)
  refine sq (sq (rg (wY (ym z) z (wY (ym z) z ?_))))
  have J := bk.i m z z
  refine wY (Y.len ty25 z J) z (wY (Y.lss_i z z) z (nl (th ?_)))
  rcases cnd h with ⟨K, h⟩ | ⟨K, h⟩
  ·refine WC.condT' z K (sk (th (sq (WC.block (sq (rg (wY (ym z) z (wY (Y.len ty25 z p.src.sl) z ?_))))))))
   obtain ⟨bH, bm, h⟩ := lt1 h
   refine WL.yE (ya z) (congrArg vi bm.symm) z (nl (th (sq ?_)))
   obtain ⟨bI, h, bn⟩ := bnd h
   refine WC.join (σ := (Int × Own)) (fun x w' => x.1 = bI ∧ Stp [] P I x.2 w') (fun x => [(0, v0), (3, e), (4, vi j), (5, vi x.1)]) ?_ ?_
   ·refine WC.block ?_
    obtain ⟨bf, h, bo⟩ := flow1 h
    obtain ⟨bg, h⟩ := loop_some h
    refine WC.joinB 2 (σ := (Int × Own)) (fun x w' => bf = .go x.1 ∧ Stp [] P I x.2 w') (fun x => [(0, v0), (3, e), (4, vi j), (5, vi x.1)]) ?_ ?_
    ·refine WC.loop (σ := (Int × Own)) (fun x k w' => loopN k (ref11_Sorted_lp2 a0 M j) x.1 = some bf ∧ Stp [] P I x.2 w') (fun x => [(0, v0), (3, e), (4, vi j), (5, vi x.1)]) (bH, P) bg (.cons z (.cons z (.cons z (.cons z .nil)))) ⟨h, (sr_ _ _ _)⟩ ?_
     rintro ⟨Q, S⟩ bg b6 ⟨h, l⟩
     obtain ⟨bJ, cq, rfl, h, ab⟩ := rnd1 h
     unfold ref11_Sorted_lp2 at h
     try dsimp only at h l
     refine (show WC _ _ _ _ [(0, v0), (3, e), (4, vi j), (5, vi Q)] _ from ?_)
     refine sq (sq (WC.drawH [] [0, 1, 2, 3, 4, 5, 6, 7, 8, 9, 10, 11, 12, 13, 14, 15] S 16 fmix z (by kernel_rfl) ?_))
     intro bp n
     refine WD.y 0 z (by kernel_rfl) (fun _ _ _ => ym z) z (WD.y 1 z (by kernel_rfl) (fun _ _ _ => Y.gtr_i z z) z (WD.y 2 z (by kernel_rfl) (fun _ _ _ => ym z) z ?_))
     obtain ⟨bK, h, bq⟩ := bnd h
     refine WD.join (σ := Bool) (f' := 0) [15, 14, 13, 12, 11, 10, 9, 8, 7, 6, 5, 4, 3, 2, 1, 0] (fun x O' w' => x = bK ∧ bp = w' ∧ S = O') (fun x => [(0, v0), (3, e), (4, vi j), (5, vi Q), (30, vB x)]) (fun ac => ?_) ?_
     ·rcases cnd h with ⟨q, h⟩ | ⟨q, h⟩
      ·refine WD.ren 17 z (congrArg vB q) (WD.gT 3 z (by kernel_rfl) z z (fun _ _ _ => ym z) z (WD.gT 4 z (by kernel_rfl) z z (fun _ _ _ => ym z) z (WD.gT 5 z (by kernel_rfl) z z (fun _ _ _ => Y.sub_i z z) z ?_)))
       obtain ⟨T, br, h⟩ := bnd h
       have ad := (p.st l z z z).st n z z z
       obtain ⟨cr, bU, b7, ae, bt, bu, L, au⟩ := OwnSl.at ad br
       obtain ⟨_, _, rfl, rfl, rfl⟩ := au
       replace L : CellsAt _ _ _ [vs T.Key, vs T.Val] := L
       have av := CAt.own ad ae L
       refine WD.gT 6 z (by kernel_rfl) z z (fun _ _ _ => Y.indexAddr ty25 ty65 z ae z bt bu) z (WD.gT 7 z (by kernel_rfl) z z (fun _ _ _ => yf fo65_0 z) z (WD.gT 8 z (by kernel_rfl) z z (fun b8 cs ax => have ay := av.st ax z; yl ty9 z z (ay.at_.sub 0 [vs T.Key] z)) z (WD.gT 9 z (by kernel_rfl) z z (fun _ _ _ => ym z) z (WD.gT 10 z (by kernel_rfl) z z (fun _ _ _ => ym z) z ?_))))
       obtain ⟨C, az, h⟩ := bnd h
       have aC := (J.i l z z).i n z z
       obtain ⟨b9, bL, bM, bW, aD, aE, aF, D, af, aG⟩ := Sl.at2 aC az
       obtain ⟨_, _, rfl, rfl, rfl⟩ := af
       replace D : CellsAt _ _ _ [vs C.Key, vs C.Val] := D
       have ah := CAt.imm D aG
       refine WD.gT 11 z (by kernel_rfl) z z (fun _ _ _ => Y.indexAddr ty25 ty65 z aD z aE aF) z (WD.gT 12 z (by kernel_rfl) z z (fun _ _ _ => yf fo65_0 z) z (WD.gT 13 z (by kernel_rfl) z z (fun bX ca ai => have aH := ah.st ai z; yl ty9 z z (aH.at_.sub 0 [vs C.Key] z)) z (WD.gT 14 z (by kernel_rfl) z z (fun _ _ _ => Y.gtr_s z z) z (WD.y 15 z (by kernel_rfl) (fun _ _ _ => Y.pick (b := true) z z) z (WD.ren 17 z (congrArg vB q.symm) ?_)))))
       exact ac (sLess C.Key T.Key) _ _ _ ⟨some1 h, z, z⟩ (.cons z (.cons z (.cons z (.cons z (.cons z .nil)))))
      ·refine WD.ren 17 z (congrArg vB q) (WD.gS 3 z (by kernel_rfl) z z z z (WD.gS 4 z (by kernel_rfl) z z z z (WD.gS 5 z (by kernel_rfl) z z z z (WD.gS 6 z (by kernel_rfl) z z z z (WD.gS 7 z (by kernel_rfl) z z z z (WD.gS 8 z (by kernel_rfl) z z z z (WD.gS 9 z (by kernel_rfl) z z z z (WD.gS 10 z (by kernel_rfl) z z z z (WD.gS 11 z (by kernel_rfl) z z z z ?_)))))))))
       refine WD.gS 12 z (by kernel_rfl) z z z z (WD.gS 13 z (by kernel_rfl) z z z z (WD.gS 14 z (by kernel_rfl) z z z z (WD.y 15 z (by kernel_rfl) (fun _ _ _ => Y.pick (b := false) z z) z (WD.ren 17 z (congrArg vB q.symm) ?_))))
       exact ac false _ _ _ ⟨some1 h, z, z⟩ (.cons z (.cons z (.cons z (.cons z (.cons z .nil)))))
     ·rintro bO _ _ ⟨rfl, rfl, rfl⟩
      replace h := bq
      try dsimp only at h
      refine (show WD _ _ _ _ _ _ _ _ [(0, v0), (3, e), (4, vi j), (5, vi Q), (30, vB bO)] _ _ from ?_)
      refine WD.done_ (by kernel_rfl) (th ?_)
      rcases cnd h with ⟨E, h⟩ | ⟨E, h⟩
      ·refine WC.condT' z E (sk (th (WC.block (rg (wY (ym z) z (wY (Y.sub_i z z) z ?_))))))
       obtain ⟨bw, aI, h⟩ := lt1 h
       refine WL.yE (ya z) (congrArg vi aI.symm) z (nl (At.inBlock ?_))
       exact At.round (bw, S) bJ (Nat.lt_succ_self _) ⟨next1 h ab, (tr_ (su_ l z) (su_ n z))⟩ (.cons z (.cons z (.cons z (.cons z .nil))))
      ·refine WC.condF' z E (WC.exit (At.thenX (At.loopX ?_)))
       exact At.hitB (σ := (Int × Own)) (Q, S) ⟨brk1 h ab, (tr_ (su_ l z) (su_ n z))⟩ (.cons z (.cons z (.cons z (.cons z .nil))))
    ·rintro ⟨bh, bP⟩ cb ⟨rfl, U⟩
     replace h := flowK_go bo
     try dsimp only at h U
     refine (show At _ _ _ [(0, v0), (3, e), (4, vi j), (5, vi bh)] _ from ?_)
     refine At.inBlockHit ?_
     exact At.join (σ := (Int × Own)) (bh, bP) ⟨some1 h, (su_ U z)⟩ (.cons z (.cons z (.cons z (.cons z .nil))))
   ·rintro ⟨bi, bQ⟩ bx ⟨rfl, o⟩
    replace h := bn
    try dsimp only at h o
    refine (show At _ _ _ [(0, v0), (3, e), (4, vi j), (5, vi bi)] _ from ?_)
    refine th (sq (rg (wY (ya z) z (nl (th (sq (rg (wY (ym z) z (wY (ym z) z ?_)))))))))
    refine wY (ym z) z ?_
    obtain ⟨cc, aJ, h⟩ := bnd h
    have W := p.st o z z z
    refine WL.sliceOwn ty25 ty65 z z z W aJ z ?_
    intro cd aK
    obtain ⟨bY, aj, h⟩ := bnd h
    have aL := OwnSl.nil (O := bQ) (w := bx) 11 rep_api_Pair 65
    refine WL.append (by decide) ty25 ty65 z (by decide) z z aL aK.src aj z ?_
    intro ce bz bZ r aM
    refine wY (ya z) z (nl (th (sq (rg (wY (ym z) z (wY (ym z) z (wY (ym z) z ?_)))))))
    obtain ⟨d, aN, h⟩ := bnd h
    have aP := (J.i o z z).i r z z
    obtain ⟨cf, bR, bS, b0, aQ, aR, aS, F, ak, aT⟩ := Sl.at2 aP aN
    obtain ⟨_, _, rfl, rfl, rfl⟩ := ak
    replace F : CellsAt _ _ _ [vs d.Key, vs d.Val] := F
    have al := CAt.imm F aT
    refine wY (Y.indexAddr ty25 ty65 z aQ z aR aS) z (wY (yL ty65 z z al.at_ z) z (WL.buildSlice (O := bz) (R := rep_api_Pair) (vals := [(0, ag [vs d.Key, vs d.Val])]) 12 [vs d.Key, vs d.Val] (xs := [d]) (by decide) ty25 ty65 (by decide) (by decide) (fe_ z) (by kernel_rfl) z ⟨[vs d.Key, vs d.Val], [], z, ⟨[vs d.Key], [vs d.Val], z, z, z⟩, z⟩ z ?_))
    intro cg ch b1 t aU
    obtain ⟨b2, am, h⟩ := bnd h
    have aW := aM.st t z z z
    refine WL.append (by decide) ty25 ty65 z (by decide) z z aW aU.src am z ?_
    intro ci cj b3 G aX
    refine wY (ya z) z (nl (th (rg (wY (ym z) z (wY (ym z) z (wY (ym z) z ?_))))))
    obtain ⟨ck, aY, h⟩ := bnd h
    have a2 := ((W.st r z z z).st t z z z).st G z z z
    obtain ⟨cl, H, a3⟩ := OwnSl.giveF rfl flat_api_Pair a2
    obtain ⟨cm, a4, a5⟩ := Sl.slice (ρ := [(46, e), (47, vi bi)]) (x := (.tmp 46)) (lo := (some (.tmp 47))) (hi := none) ty25 ty65 rfl rfl rfl a3 aY
    refine wY (Y.sub (.cons z (.cons z .nil)) (a4 _ _)) z ?_
    obtain ⟨a6, an, h⟩ := bnd h
    have a7 := aX.st H z z z
    refine WL.append (by decide) ty25 ty65 z (by decide) z z a7 (Sl.src (Sl.mono a5 frs_imm)) an z ?_
    intro bA cn b4 ao a8
    refine wY (ya z) z (nl (At.inBlock (th (rg (wY (ym z) z (wY (Y.add_i z z) z ?_))))))
    obtain ⟨bB, a9, h⟩ := lt1 h
    refine WL.yE (ya z) (congrArg vi a9.symm) z (nl ?_)
    obtain ⟨bC, ap, ba⟩ := OwnSl.rlb 1001 rfl a8
    exact At.round (a6, bB, bC, bA) bG (Nat.lt_succ_self _) ⟨next1 h aa, (tr_ (su_ m z) (tr_ (su_ o z) (tr_ (su_ r z) (tr_ (su_ t z) (tr_ (su_ G z) (tr_ (su_ H z) (tr_ (su_ ao z) (su_ ap z)))))))), ba⟩ (.cons z (.cons z (.cons z .nil)))
  ·refine WC.condF' z K (WC.exit (At.thenX (At.loopX ?_)))
   obtain ⟨bD, aq, bb⟩ := OwnSl.rlb 1002 rfl p
   exact At.hitB (σ := (List api_Pair × Own × Value)) (M, bD, e) ⟨brk1 h aa, (tr_ (su_ m z) (su_ aq z)), bb⟩ (.cons z .nil)
 ·rintro ⟨b5, bT, bj⟩ bE ⟨rfl, X, ar⟩
  replace h := flowK_go bl
  try dsimp only at h X ar
  refine (show At _ _ _ [(3, bj)] _ from ?_)
  refine At.inBlockHit (th (sq (rg (wY (ym z) z (wY (ya z) z (nl (th (rt ?_))))))))
  obtain rfl := some1 h
  have Z : Stp [11, 1001] (Lg.O0 A) w bT bE := (su_ X z)
  exact At.res (.inl z) z (.tmp z .nil) ⟨bj, z, (se_ Z z z), (OwnSl.outF ar Z low0 z)⟩
theorem c_ref08_SameSide {A : Nat → Prop} {v0_1 : Value} {a0 : api_Side} {v1_1 : Value} {a1 : api_Side} {w : World} (hs0_1 : Sl Rep.u w A v0_1 a0.Counts) (hs1_1 : Sl Rep.u w A v1_1 a1.Counts) {r0 : Bool} (h : ref08_SameSide a0 a1 = some r0) : Rets Try.prog 84 [ag [vi a0.Offset, v0_1], ag [vi a1.Offset, v1_1]] w (fun v w' => v = vB r0 ∧ Ext w w') := by
 unfold ref08_SameSide at h
 refine Rets.enter Try.func84 z z ?_
 have n : Sl Rep.u w (imm (Lg.O0 A)) v0_1 a0.Counts := (Sl.start hs0_1)
 have aa : Sl Rep.u w (imm (Lg.O0 A)) v1_1 a1.Counts := (Sl.start hs1_1)
 refine (show WC _ _ _ _ [(0, ag [vi a0.Offset, v0_1]), (1, ag [vi a1.Offset, v1_1])] _ from ?_)
 refine sq (rg ?_)
 have ab := h
 obtain ⟨aL, aM, aN, rfl⟩ := n.shape
 have h := ab
 refine WL.box (O := (Lg.O0 A)) 11 [vi a0.Offset, (vl aL aM aN)] z z z ?_
 intro H aO a5 j ac
 have o := aa.i j z z
 have ad := h
 obtain ⟨aP, aQ, aR, rfl⟩ := o.shape
 have h := ad
 refine WL.box (O := aO) 12 [vi a1.Offset, (vl aP aQ aR)] z z z ?_
 intro I J m d p
 refine wY (ya z) z (nl (th (sq (sq (rg (wY (yf fo29_0 z) z ?_))))))
 have q := ac.st d z
 refine wY (yl ty3 z z (q.cell 0 _ z)) z (wY (yf fo29_0 z) z (wY (yl ty3 z z (p.cell 0 _ z)) z (wY (Y.neq_i z z) z (wY (ym z) z ?_))))
 refine WL.cut 8 (σ := Unit) (fun _ w' => m = w') (fun _ => [(2, pt H 0), (3, pt I 0), (19, vB ((!decide (a0.Offset = a1.Offset)) || (!decide ((a0.Counts.length : Int) = (a1.Counts.length : Int)))))]) ?_ ?_
 ·refine WL.part 11 z (fun r => ?_) (fun r => ?_)
  ·refine WL.gS z z z z (WL.gS z z z z (WL.gS z z z z (WL.gS z z z z (WL.gS z z z z (WL.gS z z z z (WL.gS z z z z (wY (Y.pick (b := true) z z) z (WL.ren (v' := vB ((!decide (a0.Offset = a1.Offset)) || (!decide ((a0.Counts.length : Int) = (a1.Counts.length : Int))))) 19 z (congrArg vB (orT r)) ?_))))))))
   exact nl (At.join () z (.cons z (.cons z (.cons z .nil))))
  ·refine ug z z (wY (yf fo29_1 z) z (ug z z (wY (yl ty27 z z (q.cell 1 _ z)) z (ug z z ?_))))
   have af := (n.i j z z).i d z z
   refine wY (Y.len ty27 z af) z (ug z z (wY (yf fo29_1 z) z (ug z z (wY (yl ty27 z z (p.cell 1 _ z)) z (ug z z ?_)))))
   have ah := o.i d z z
   refine wY (Y.len ty27 z ah) z (ug z z (wY (Y.neq_i z z) z (wY (Y.pick (b := false) z z) z (WL.ren (v' := vB ((!decide (a0.Offset = a1.Offset)) || (!decide ((a0.Counts.length : Int) = (a1.Counts.length : Int))))) 19 z (congrArg vB (orF r)) ?_))))
   exact nl (At.join () z (.cons z (.cons z (.cons z .nil))))
 ·rintro _ _ rfl
  refine (show WL _ _ _ _ _ [(2, pt H 0), (3, pt I 0), (19, vB ((!decide (a0.Offset = a1.Offset)) || (!decide ((a0.Counts.length : Int) = (a1.Counts.length : Int)))))] _ from ?_)
  refine nl (th ?_)
  rcases cnd h with ⟨t, h⟩ | ⟨t, h⟩
  ·refine WC.condT' z t (sq (rg (wY (ya z) z (nl (th (rt (At.thenR ?_)))))))
   obtain rfl := some1 h
   have ai : Stp [] (Lg.O0 A) w J m := (tr_ (su_ j z) (su_ d z))
   exact At.res (.inl z) z (.tmp z .nil) ⟨z, (se_ ai z z)⟩
  ·refine WC.condF' z t (sk (th (sq (sq (rg (wY (ya z) z (nl (th (WC.block ?_)))))))))
   obtain ⟨X, h, L⟩ := flow1 h
   obtain ⟨Z, h⟩ := loop_some h
   refine WC.joinB 0 (σ := Own) (fun x w' => X = .go () ∧ Stp [] J m x w') (fun x => []) ?_ ?_
   ·refine WC.loop (σ := (Int × Own)) (fun x k w' => loopN k (ref08_SameSide_lp1 a0 a1) x.1 = some X ∧ Stp [] J m x.2 w') (fun x => [(2, pt H 0), (3, pt I 0), (5, vi x.1)]) (0, J) Z (.cons z (.cons z (.cons z .nil))) ⟨h, (sr_ _ _ _)⟩ ?_
    rintro ⟨aS, K⟩ Z a6 ⟨h, e⟩
    obtain ⟨aT, a9, rfl, h, C⟩ := rnd1 h
    unfold ref08_SameSide_lp1 at h
    try dsimp only at h e
    refine (show WC _ _ _ _ [(2, pt H 0), (3, pt I 0), (5, vi aS)] _ from ?_)
    refine sq (sq (rg (wY (ym z) z (wY (yf fo29_1 z) z ?_))))
    have M := q.st e z
    refine wY (yl ty27 z z (M.cell 1 _ z)) z ?_
    have P := ((n.i j z z).i d z z).i e z z
    refine wY (Y.len ty27 z P) z (wY (Y.lss_i z z) z (nl (th ?_)))
    rcases cnd h with ⟨D, h⟩ | ⟨D, h⟩
    ·refine WC.condT' z D (sk (th (sq (WC.block (sq (WC.draw 10 K fmix (by kernel_rfl) ?_))))))
     intro al l
     refine WS.y (yf fo29_1 z) z ?_
     have am := M.st l z
     refine WS.y (yl ty27 z z (am.cell 1 _ z)) z (WS.y (ym z) z ?_)
     obtain ⟨aU, an, h⟩ := bnd h
     have ao := P.i l z z
     obtain ⟨ba, aZ, a2, a7, ap, aq, ar, E, Q, au⟩ := Sl.at2 ao an
     obtain rfl := Q
     replace E : CellsAt _ _ _ [vu aU] := E
     have S := CAt.imm E au
     refine WS.y (Y.indexAddr ty27 ty26 z ap z aq ar) z (WS.y (yl ty26 z z S.at_) z (WS.y (yf fo29_1 z) z ?_))
     have ax := (p.st e z).st l z
     refine WS.y (yl ty27 z z (ax.cell 1 _ z)) z (WS.y (ym z) z ?_)
     obtain ⟨aW, ay, h⟩ := bnd h
     have aC := ((o.i d z z).i e z z).i l z z
     obtain ⟨bb, a3, a4, a8, aD, aE, aF, F, T, aG⟩ := Sl.at2 aC ay
     obtain rfl := T
     replace F : CellsAt _ _ _ [vu aW] := F
     have U := CAt.imm F aG
     refine WS.y (Y.indexAddr ty27 ty26 z aD z aE aF) z (WS.y (yl ty26 z z U.at_) z (WS.tail (wY (Y.neq_u z z) z (nl (th ?_)))))
     rcases cnd h with ⟨G, h⟩ | ⟨G, h⟩
     ·refine WC.condT' z G (sq (rg (wY (ya z) z (nl (th (rt (At.inBlockR (At.thenR (At.loopR ?_)))))))))
      have h := outr1 h C L
      refine At.joinBR (At.inBlockR (At.thenR ?_))
      obtain rfl := some1 h
      have aH : Stp [] (Lg.O0 A) w K al := (tr_ (su_ j z) (tr_ (su_ d z) (tr_ (su_ e z) (su_ l z))))
      exact At.res (.inl z) z (.tmp z .nil) ⟨z, (se_ aH z z)⟩
     ·refine WC.condF' z G (sk (At.inBlock (th (rg (wY (ym z) z (wY (Y.add_i z z) z ?_))))))
      obtain ⟨aX, aI, h⟩ := lt1 h
      refine WL.yE (ya z) (congrArg vi aI.symm) z (nl ?_)
      exact At.round (aX, K) aT (Nat.lt_succ_self _) ⟨next1 h C, (tr_ (su_ e z) (su_ l z))⟩ (.cons z (.cons z (.cons z .nil)))
    ·refine WC.condF' z D (WC.exit (At.thenX (At.loopX ?_)))
     exact At.hitB (σ := Own) K ⟨brk1 h C, (su_ e z)⟩ .nil
   ·rintro aY aJ ⟨rfl, W⟩
    replace h := flowK_go L
    refine (show At _ _ _ [] _ from ?_)
    refine At.inBlockHit (th (sq (rg (wY (ya z) z (nl (th (rt ?_)))))))
    obtain rfl := some1 h
    have aK : Stp [] (Lg.O0 A) w aY aJ := (tr_ (su_ j z) (tr_ (su_ d z) (su_ W z)))
    exact At.res (.inl z) z (.tmp z .nil) ⟨z, (se_ aK z z)⟩
theorem c_ref08_Same {A : Nat → Prop} {v0_3 : Value} {v0_5 : Value} {a0 : api_Hist} {v1_3 : Value} {v1_5 : Value} {a1 : api_Hist} {w : World} (hs0_3 : Sl Rep.u w A v0_3 a0.Pos.Counts) (hs0_5 : Sl Rep.u w A v0_5 a0.Neg.Counts) (hs1_3 : Sl Rep.u w A v1_3 a1.Pos.Counts) (hs1_5 : Sl Rep.u w A v1_5 a1.Neg.Counts) {r0 : Bool} (h : ref08_Same a0 a1 = some r0) : Rets Try.prog 50 [ag (hl a0 v0_3 v0_5), ag (hl a1 v1_3 v1_5)] w (fun v w' => v = vB r0 ∧ Ext w w') := by
 unfold ref08_Same at h
 refine Rets.enter Try.func50 z z ?_
 have C : Sl Rep.u w (imm (Lg.O0 A)) v0_3 a0.Pos.Counts := (Sl.start hs0_3)
 have D : Sl Rep.u w (imm (Lg.O0 A)) v0_5 a0.Neg.Counts := (Sl.start hs0_5)
 have ac : Sl Rep.u w (imm (Lg.O0 A)) v1_3 a1.Pos.Counts := (Sl.start hs1_3)
 have ad : Sl Rep.u w (imm (Lg.O0 A)) v1_5 a1.Neg.Counts := (Sl.start hs1_5)
 refine (show WC _ _ _ _ [(0, ag (hl a0 v0_3 v0_5)), (1, ag (hl a1 v1_3 v1_5))] _ from ?_)
 refine sq (rg ?_)
 have ae := h
 obtain ⟨E, F, G, rfl⟩ := C.shape
 have h := ae
 have af := h
 obtain ⟨H, I, J, rfl⟩ := D.shape
 have h := af
 refine WL.box (O := (Lg.O0 A)) 11 (hl a0 (vl E F G) (vl H I J)) z z z ?_
 intro q aH aU j ah
 have K := ac.i j z z
 have ai := h
 obtain ⟨L, M, P, rfl⟩ := K.shape
 have h := ai
 have Q := ad.i j z z
 have aj := h
 obtain ⟨S, T, U, rfl⟩ := Q.shape
 have h := aj
 refine WL.box (O := aH) 12 (hl a1 (vl L M P) (vl S T U)) z z z ?_
 intro r W X d l
 refine wY (ya z) z (nl (th (sq (rg (wY (yf fo31_0 z) z ?_)))))
 have m := ah.st d z
 refine wY (yl ty3 z z (m.cell 0 _ z)) z (wY (yf fo31_0 z) z (wY (yl ty3 z z (l.cell 0 _ z)) z (wY (Y.eql_i z z) z (wY (ym z) z ?_))))
 refine WL.cut 6 (σ := Unit) (fun _ w' => X = w') (fun _ => [(2, pt q 0), (3, pt r 0), (16, vB ((decide (a0.Scale = a1.Scale)) && (decide (a0.Zero = a1.Zero))))]) ?_ ?_
 ·refine WL.part 10 z (fun n => ?_) (fun n => ?_)
  ·refine ug z z (wY (yf fo31_1 z) z (ug z z (wY (yl ty26 z z (m.cell 1 _ z)) z (ug z z (wY (yf fo31_1 z) z (ug z z (wY (yl ty26 z z (l.cell 1 _ z)) z (ug z z (wY (Y.eql_u z z) z ?_)))))))))
   refine wY (Y.pick (b := true) z z) z (WL.ren (v' := vB ((decide (a0.Scale = a1.Scale)) && (decide (a0.Zero = a1.Zero)))) 16 z (congrArg vB (andT n)) ?_)
   exact nl (At.join () z (.cons z (.cons z (.cons z .nil))))
  ·refine WL.gS z z z z (WL.gS z z z z (WL.gS z z z z (WL.gS z z z z (WL.gS z z z z (wY (Y.pick (b := false) z z) z (WL.ren (v' := vB ((decide (a0.Scale = a1.Scale)) && (decide (a0.Zero = a1.Zero)))) 16 z (congrArg vB (andF n)) ?_))))))
   exact nl (At.join () z (.cons z (.cons z (.cons z .nil))))
 ·rintro _ _ rfl
  refine (show WL _ _ _ _ _ [(2, pt q 0), (3, pt r 0), (16, vB ((decide (a0.Scale = a1.Scale)) && (decide (a0.Zero = a1.Zero))))] _ from ?_)
  refine wY (ym z) z ?_
  obtain ⟨aI, h, ak⟩ := bnd h
  refine WL.cut 6 (σ := (Bool × Own)) (fun x w' => x.1 = aI ∧ Stp [] W X x.2 w') (fun x => [(2, pt q 0), (3, pt r 0), (23, vB x.1)]) ?_ ?_
  ·rcases cnd h with ⟨o, h⟩ | ⟨o, h⟩
   ·refine WL.ren 17 z (congrArg vB o) (ug z z (wY (yf fo31_2 z) z (ug z z (wY (yL ty29 z z (m.cells 2 [vi a0.Pos.Offset, (vl E F G)] z) z) z (ug z z (wY (yf fo31_2 z) z (ug z z (wY (yL ty29 z z (l.cells 2 [vi a1.Pos.Offset, (vl L M P)] z) z) z (ug z z ?_)))))))))
    have am := (C.i j z z).i d z z
    have an := K.i d z z
    obtain ⟨aJ, ao, h⟩ := bnd h
    refine WL.call (vals := [ag [vi a0.Pos.Offset, (vl E F G)], ag [vi a1.Pos.Offset, (vl L M P)]]) kok84 z z (c_ref08_SameSide (A := fun _ => True) (a0 := a0.Pos) (a1 := a1.Pos) (Sl.all am) (Sl.all an) ao) ?_
    rintro aW aX ⟨rfl, ap⟩
    obtain ⟨aK, aL, aM, aa⟩ := adoptE W (fun k => 1) ap
    refine wY (Y.pick (b := true) z z) z ?_
    exact nl (At.join (σ := (Bool × Own)) (aJ, aK) ⟨some1 h, (su_ aa z)⟩ (.cons z (.cons z (.cons z .nil))))
   ·refine WL.ren 17 z (congrArg vB o) (WL.gS z z z z (WL.gS z z z z (WL.gS z z z z (WL.gS z z z z (WL.gS z z z z (wY (Y.pick (b := false) z z) z ?_))))))
    exact nl (At.join (σ := (Bool × Own)) (false, W) ⟨some1 h, (sr_ _ _ _)⟩ (.cons z (.cons z (.cons z .nil))))
  ·rintro ⟨aN, Z⟩ aq ⟨rfl, e⟩
   replace h := ak
   try dsimp only at h e
   refine (show WL _ _ _ _ _ [(2, pt q 0), (3, pt r 0), (23, vB aN)] _ from ?_)
   refine wY (ym z) z ?_
   obtain ⟨aO, h, ar⟩ := bnd h
   refine WL.cut 6 (σ := (Bool × Own)) (fun x w' => x.1 = aO ∧ Stp [] Z aq x.2 w') (fun x => [(30, vB x.1)]) ?_ ?_
   ·rcases cnd h with ⟨p, h⟩ | ⟨p, h⟩
    ·refine WL.ren 24 z (congrArg vB p) (ug z z (wY (yf fo31_3 z) z (ug z z ?_)))
     have au := m.st e z
     refine wY (yL ty29 z z (au.cells 4 [vi a0.Neg.Offset, (vl H I J)] z) z) z (ug z z (wY (yf fo31_3 z) z (ug z z ?_)))
     have av := l.st e z
     refine wY (yL ty29 z z (av.cells 4 [vi a1.Neg.Offset, (vl S T U)] z) z) z (ug z z ?_)
     have az := ((D.i j z z).i d z z).i e z z
     have aC := (Q.i d z z).i e z z
     obtain ⟨aP, aD, h⟩ := bnd h
     refine WL.call (vals := [ag [vi a0.Neg.Offset, (vl H I J)], ag [vi a1.Neg.Offset, (vl S T U)]]) kok84 z z (c_ref08_SameSide (A := fun _ => True) (a0 := a0.Neg) (a1 := a1.Neg) (Sl.all az) (Sl.all aC) aD) ?_
     rintro aY aZ ⟨rfl, aE⟩
     obtain ⟨aQ, aR, aS, ab⟩ := adoptE Z (fun k => 1) aE
     refine wY (Y.pick (b := true) z z) z ?_
     exact nl (At.join (σ := (Bool × Own)) (aP, aQ) ⟨some1 h, (su_ ab z)⟩ (.cons z .nil))
    ·refine WL.ren 24 z (congrArg vB p) (WL.gS z z z z (WL.gS z z z z (WL.gS z z z z (WL.gS z z z z (WL.gS z z z z (wY (Y.pick (b := false) z z) z ?_))))))
     exact nl (At.join (σ := (Bool × Own)) (false, Z) ⟨some1 h, (sr_ _ _ _)⟩ (.cons z .nil))
   ·rintro ⟨x64, aT⟩ aF ⟨rfl, t⟩
    replace h := ar
    try dsimp only at h t
    refine (show WL _ _ _ _ _ [(30, vB x64)] _ from ?_)
    refine wY (ya z) z (nl (th (rt ?_)))
    obtain rfl := some1 h
    have aG : Stp [] (Lg.O0 A) w aT aF := (tr_ (su_ j z) (tr_ (su_ d z) (tr_ (su_ e z) (su_ t z))))
    exact At.res (.inl z) z (.tmp z .nil) ⟨z, (se_ aG z z)⟩
theorem c_ref12_Same {A : Nat → Prop} {v0_1 : Value} {v0_13 : Value} {v0_15 : Value} {a0 : api_Point} {v1_1 : Value} {v1_13 : Value} {v1_15 : Value} {a1 : api_Point} {w : World} (hs0_1 : Sl rep_api_Pair w A v0_1 a0.Attrs) (hs0_13 : Sl Rep.u w A v0_13 a0.Hist.Pos.Counts) (hs0_15 : Sl Rep.u w A v0_15 a0.Hist.Neg.Counts) (hs1_1 : Sl rep_api_Pair w A v1_1 a1.Attrs) (hs1_13 : Sl Rep.u w A v1_13 a1.Hist.Pos.Counts) (hs1_15 : Sl Rep.u w A v1_15 a1.Hist.Neg.Counts) {r0 : Bool} (h : ref12_Same a0 a1 = some r0) : Rets Try.prog 23 [ag (cp a0 v0_1 v0_13 v0_15), ag (cp a1 v1_1 v1_13 v1_15)] w (fun v w' => v = vB r0 ∧ Ext w w') := by
 unfold ref12_Same at h
 refine Rets.enter Try.func23 z z ?_
 have ac : Sl rep_api_Pair w (imm (Lg.O0 A)) v0_1 a0.Attrs := (Sl.start hs0_1)
 have ad : Sl Rep.u w (imm (Lg.O0 A)) v0_13 a0.Hist.Pos.Counts := (Sl.start hs0_13)
 have ae : Sl Rep.u w (imm (Lg.O0 A)) v0_15 a0.Hist.Neg.Counts := (Sl.start hs0_15)
 have bA : Sl rep_api_Pair w (imm (Lg.O0 A)) v1_1 a1.Attrs := (Sl.start hs1_1)
 have bB : Sl Rep.u w (imm (Lg.O0 A)) v1_13 a1.Hist.Pos.Counts := (Sl.start hs1_13)
 have bC : Sl Rep.u w (imm (Lg.O0 A)) v1_15 a1.Hist.Neg.Counts := (Sl.start hs1_15)
 refine (show WC _ _ _ _ [(0, ag (cp a0 v0_1 v0_13 v0_15)), (1, ag (cp a1 v1_1 v1_13 v1_15))] _ from ?_)
 refine sq (rg ?_)
 have bD := h
 obtain ⟨bs, bt, bu, rfl⟩ := ac.shape
 have h := bD
 have bE := h
 obtain ⟨af, ah, ai, rfl⟩ := ad.shape
 have h := bE
 have bG := h
 obtain ⟨aj, ak, al, rfl⟩ := ae.shape
 have h := bG
 refine WL.box (O := (Lg.O0 A)) 11 (cp a0 (vl bs bt bu) (vl af ah ai) (vl aj ak al)) z z z ?_
 intro n cd cl p W
 have am := bA.i p z z
 have bH := h
 obtain ⟨bw, bx, bz, rfl⟩ := am.shape
 have h := bH
 have an := bB.i p z z
 have bI := h
 obtain ⟨ao, ap, aq, rfl⟩ := an.shape
 have h := bI
 have ar := bC.i p z z
 have bJ := h
 obtain ⟨au, av, ax, rfl⟩ := ar.shape
 have h := bJ
 refine WL.box (O := cd) 12 (cp a1 (vl bw bx bz) (vl ao ap aq) (vl au av ax)) z z z ?_
 intro o Z cm e X
 refine wY (ya z) z (nl (th (sq (sq (WC.drawH [] [0, 1, 2, 3, 4, 5, 6, 7, 8, 9, 10, 11, 12, 13, 14] Z 15 fmix z (by kernel_rfl) ?_)))))
 intro bK d
 refine WD.y 0 z (by kernel_rfl) (fun _ _ _ => yf fo33_0 z) z (WD.y 1 z (by kernel_rfl) (fun cn cs aE => have bL := W.st e z; have bM := bL.st d z; have bO := bM.st aE z; yl ty9 z z (bO.cell 0 _ z)) z (WD.y 2 z (by kernel_rfl) (fun _ _ _ => yf fo33_0 z) z (WD.y 3 z (by kernel_rfl) (fun co ct aF => have bP := X.st d z; have bQ := bP.st aF z; yl ty9 z z (bQ.cell 0 _ z)) z (WD.y 4 z (by kernel_rfl) (fun _ _ _ => Y.neq_s z z) z (WD.y 5 z (by kernel_rfl) (fun _ _ _ => ym z) z ?_)))))
 obtain ⟨ce, h, bR⟩ := bnd h
 refine WD.join (σ := (Bool × Own)) (f' := 0) [14, 13, 12, 11, 8, 10, 9, 7, 6, 5, 4, 3, 2, 1, 0] (fun x O' w' => x.1 = ce ∧ Stp [] Z bK x.2 w' ∧ x.2 = O') (fun x => [(2, pt n 0), (3, pt o 0), (19, vB x.1)]) (fun ay => ?_) ?_
 ·rcases cnd h with ⟨r, h⟩ | ⟨r, h⟩
  ·refine WD.ren 10 z (congrArg vB r) (WD.gS 6 z (by kernel_rfl) z z z z (WD.gS 7 z (by kernel_rfl) z z z z (WD.gS 9 z (by kernel_rfl) z z z z (WD.gS 10 z (by kernel_rfl) z z z z (WD.heavy 8 z (by kernel_rfl) (WL.gS z z z z (nl (At.dq (sr_ _ _ _) (WD.heavy 11 z (by kernel_rfl) ?_)))))))))
   refine WL.gS z z z z (nl (At.dq (sr_ _ _ _) (WD.heavy 12 z (by kernel_rfl) (WL.gS z z z z (nl (At.dq (sr_ _ _ _) (WD.gS 13 z (by kernel_rfl) z z z z (WD.y 14 z (by kernel_rfl) (fun _ _ _ => Y.pick (b := true) z z) z (WD.ren 10 z (congrArg vB r.symm) ?_)))))))))
   exact ay (true, Z) _ _ _ ⟨some1 h, (sr_ _ _ _), z⟩ (.cons z (.cons z (.cons z .nil)))
  ·refine WD.ren 10 z (congrArg vB r) (WD.gT 6 z (by kernel_rfl) z z (fun _ _ _ => yf fo33_1 z) z (WD.gT 7 z (by kernel_rfl) z z (fun cq cu aG => have bS := W.st e z; have bT := bS.st d z; have bU := bT.st aG z; yl ty25 z z (bU.cell 1 _ z)) z (WD.gT 9 z (by kernel_rfl) z z (fun _ _ _ => yf fo33_1 z) z (WD.gT 10 z (by kernel_rfl) z z (fun cg cr az => have aH := X.st d z; have aI := aH.st az z; yl ty25 z z (aI.cell 1 _ z)) z (WD.heavy 8 z (by kernel_rfl) (ug z z ?_))))))
   have aL := ((ac.i p z z).i e z z).i d z z
   obtain ⟨bW, aM, h⟩ := bnd h
   refine WL.call (vals := [(vl bs bt bu)]) kok49 z z (c_ref11_Sorted (A := fun _ => True) (Sl.all aL) aM) ?_
   rintro D aN ⟨_, rfl, aO, bX⟩
   obtain ⟨aA, b7, aa, t⟩ := adoptE Z (fun k => if ob D = some k then 13 else 1) aO
   have aP : OwnSl 13 rep_api_Pair 65 aA aN D bW := RowF.adopt 13 flat_api_Pair bX aa (fun k hk => if_pos hk)
   refine nl (At.dq (su_ t z) (WD.heavy 11 z (by kernel_rfl) (ug z z ?_)))
   have aS := ((am.i e z z).i d z z).i t z z
   obtain ⟨bY, aT, h⟩ := bnd h
   refine WL.call (vals := [(vl bw bx bz)]) kok49 z z (c_ref11_Sorted (A := fun _ => True) (Sl.all aS) aT) ?_
   rintro E aU ⟨_, rfl, aW, bZ⟩
   obtain ⟨aC, b8, ab, C⟩ := adoptE aA (fun k => if ob E = some k then 14 else 1) aW
   have aX : OwnSl 14 rep_api_Pair 65 aC aU E bY := RowF.adopt 14 flat_api_Pair bZ ab (fun k hk => if_pos hk)
   refine nl (At.dq (su_ C z) (WD.heavy 12 z (by kernel_rfl) (ug z z ?_)))
   have aY := aP.st C z z z
   obtain ⟨b0, aZ, h⟩ := bnd h
   refine WL.call (vals := [D, E]) kok48 z z (c_ref11_Same (A := fun _ => True) (aY.src.sl) (aX.src.sl) aZ) ?_
   rintro ch ci ⟨rfl, a2⟩
   obtain ⟨b1, b9, ca, S⟩ := adoptE aC (fun k => 1) a2
   refine nl (At.dq (su_ S z) (WD.gT 13 z (by kernel_rfl) z z (fun _ _ _ => Y.not z) z (WD.y 14 z (by kernel_rfl) (fun _ _ _ => Y.pick (b := false) z z) z (WD.ren 10 z (congrArg vB r.symm) ?_))))
   exact ay ((!b0), b1) _ _ _ ⟨some1 h, (tr_ (su_ t z) (tr_ (su_ C z) (su_ S z))), z⟩ (.cons z (.cons z (.cons z .nil)))
 ·rintro ⟨cf, T⟩ _ q ⟨rfl, j, rfl⟩
  replace h := bR
  try dsimp only at h j
  refine (show WD _ _ _ _ _ _ _ _ [(2, pt n 0), (3, pt o 0), (19, vB cf)] _ _ from ?_)
  refine WD.done_ (by kernel_rfl) (th ?_)
  rcases cnd h with ⟨F, h⟩ | ⟨F, h⟩
  ·refine WC.condT' z F (sq (rg (wY (ya z) z (nl (th (rt (At.thenR ?_)))))))
   obtain rfl := some1 h
   have a3 : Stp [] (Lg.O0 A) w T q := (tr_ (su_ p z) (tr_ (su_ e z) (tr_ (su_ d z) (su_ j z))))
   exact At.res (.inl z) z (.tmp z .nil) ⟨z, (se_ a3 z z)⟩
  ·refine WC.condF' z F (sk (th (sq (sq (rg (wY (yf fo33_2 z) z ?_))))))
   have l := ((W.st e z).st d z).st j z
   refine wY (yl ty3 z z (l.cell 2 _ z)) z (wY (yf fo33_2 z) z ?_)
   have m := (X.st d z).st j z
   refine wY (yl ty3 z z (m.cell 2 _ z)) z (wY (Y.neq_i z z) z (wY (ym z) z ?_))
   refine WL.cut 6 (σ := Unit) (fun _ w' => q = w') (fun _ => [(2, pt n 0), (3, pt o 0), (31, vB ((!decide (a0.Kind = a1.Kind)) || (!decide (a0.Temp = a1.Temp))))]) ?_ ?_
   ·refine WL.part 25 z (fun G => ?_) (fun G => ?_)
    ·refine WL.gS z z z z (WL.gS z z z z (WL.gS z z z z (WL.gS z z z z (WL.gS z z z z (wY (Y.pick (b := true) z z) z (WL.ren (v' := vB ((!decide (a0.Kind = a1.Kind)) || (!decide (a0.Temp = a1.Temp)))) 31 z (congrArg vB (orT G)) ?_))))))
     exact nl (At.join () z (.cons z (.cons z (.cons z .nil))))
    ·refine ug z z (wY (yf fo33_3 z) z (ug z z (wY (yl ty3 z z (l.cell 3 _ z)) z (ug z z (wY (yf fo33_3 z) z (ug z z (wY (yl ty3 z z (m.cell 3 _ z)) z (ug z z (wY (Y.neq_i z z) z ?_)))))))))
     refine wY (Y.pick (b := false) z z) z (WL.ren (v' := vB ((!decide (a0.Kind = a1.Kind)) || (!decide (a0.Temp = a1.Temp)))) 31 z (congrArg vB (orF G)) ?_)
     exact nl (At.join () z (.cons z (.cons z (.cons z .nil))))
   ·rintro _ _ rfl
    refine (show WL _ _ _ _ _ [(2, pt n 0), (3, pt o 0), (31, vB ((!decide (a0.Kind = a1.Kind)) || (!decide (a0.Temp = a1.Temp))))] _ from ?_)
    refine wY (ym z) z ?_
    refine WL.cut 6 (σ := Unit) (fun _ w' => q = w') (fun _ => [(2, pt n 0), (3, pt o 0), (38, vB (((!decide (a0.Kind = a1.Kind)) || (!decide (a0.Temp = a1.Temp))) || (!decide (a0.Mono = a1.Mono))))]) ?_ ?_
    ·refine WL.part 32 z (fun H => ?_) (fun H => ?_)
     ·refine WL.gS z z z z (WL.gS z z z z (WL.gS z z z z (WL.gS z z z z (WL.gS z z z z (wY (Y.pick (b := true) z z) z (WL.ren (v' := vB (((!decide (a0.Kind = a1.Kind)) || (!decide (a0.Temp = a1.Temp))) || (!decide (a0.Mono = a1.Mono)))) 38 z (congrArg vB (orT H)) ?_))))))
      exact nl (At.join () z (.cons z (.cons z (.cons z .nil))))
     ·refine ug z z (wY (yf fo33_4 z) z (ug z z (wY (yl ty4 z z (l.cell 4 _ z)) z (ug z z (wY (yf fo33_4 z) z (ug z z (wY (yl ty4 z z (m.cell 4 _ z)) z (ug z z (wY (Y.neqB z z ty4.u) z ?_)))))))))
      refine wY (Y.pick (b := false) z z) z (WL.ren (v' := vB (((!decide (a0.Kind = a1.Kind)) || (!decide (a0.Temp = a1.Temp))) || (!decide (a0.Mono = a1.Mono)))) 38 z (congrArg vB (orF H)) ?_)
      exact nl (At.join () z (.cons z (.cons z (.cons z .nil))))
    ·rintro _ _ rfl
     refine (show WL _ _ _ _ _ [(2, pt n 0), (3, pt o 0), (38, vB (((!decide (a0.Kind = a1.Kind)) || (!decide (a0.Temp = a1.Temp))) || (!decide (a0.Mono = a1.Mono))))] _ from ?_)
     refine wY (ym z) z ?_
     refine WL.cut 6 (σ := Unit) (fun _ w' => q = w') (fun _ => [(2, pt n 0), (3, pt o 0), (45, vB ((((!decide (a0.Kind = a1.Kind)) || (!decide (a0.Temp = a1.Temp))) || (!decide (a0.Mono = a1.Mono))) || (!decide (a0.Start = a1.Start))))]) ?_ ?_
     ·refine WL.part 39 z (fun I => ?_) (fun I => ?_)
      ·refine WL.gS z z z z (WL.gS z z z z (WL.gS z z z z (WL.gS z z z z (WL.gS z z z z (wY (Y.pick (b := true) z z) z (WL.ren (v' := vB ((((!decide (a0.Kind = a1.Kind)) || (!decide (a0.Temp = a1.Temp))) || (!decide (a0.Mono = a1.Mono))) || (!decide (a0.Start = a1.Start)))) 45 z (congrArg vB (orT I)) ?_))))))
       exact nl (At.join () z (.cons z (.cons z (.cons z .nil))))
      ·refine ug z z (wY (yf fo33_5 z) z (ug z z (wY (yl ty3 z z (l.cell 5 _ z)) z (ug z z (wY (yf fo33_5 z) z (ug z z (wY (yl ty3 z z (m.cell 5 _ z)) z (ug z z (wY (Y.neq_i z z) z ?_)))))))))
       refine wY (Y.pick (b := false) z z) z (WL.ren (v' := vB ((((!decide (a0.Kind = a1.Kind)) || (!decide (a0.Temp = a1.Temp))) || (!decide (a0.Mono = a1.Mono))) || (!decide (a0.Start = a1.Start)))) 45 z (congrArg vB (orF I)) ?_)
       exact nl (At.join () z (.cons z (.cons z (.cons z .nil))))
     ·rintro _ _ rfl
      refine (show WL _ _ _ _ _ [(2, pt n 0), (3, pt o 0), (45, vB ((((!decide (a0.Kind = a1.Kind)) || (!decide (a0.Temp = a1.Temp))) || (!decide (a0.Mono = a1.Mono))) || (!decide (a0.Start = a1.Start))))] _ from ?_)
      refine wY (ym z) z ?_
      refine WL.cut 6 (σ := Unit) (fun _ w' => q = w') (fun _ => [(2, pt n 0), (3, pt o 0), (52, vB (((((!decide (a0.Kind = a1.Kind)) || (!decide (a0.Temp = a1.Temp))) || (!decide (a0.Mono = a1.Mono))) || (!decide (a0.Start = a1.Start))) || (!decide (a0.Time = a1.Time))))]) ?_ ?_
      ·refine WL.part 46 z (fun J => ?_) (fun J => ?_)
       ·refine WL.gS z z z z (WL.gS z z z z (WL.gS z z z z (WL.gS z z z z (WL.gS z z z z (wY (Y.pick (b := true) z z) z (WL.ren (v' := vB (((((!decide (a0.Kind = a1.Kind)) || (!decide (a0.Temp = a1.Temp))) || (!decide (a0.Mono = a1.Mono))) || (!decide (a0.Start = a1.Start))) || (!decide (a0.Time = a1.Time)))) 52 z (congrArg vB (orT J)) ?_))))))
        exact nl (At.join () z (.cons z (.cons z (.cons z .nil))))
       ·refine ug z z (wY (yf fo33_6 z) z (ug z z (wY (yl ty3 z z (l.cell 6 _ z)) z (ug z z (wY (yf fo33_6 z) z (ug z z (wY (yl ty3 z z (m.cell 6 _ z)) z (ug z z (wY (Y.neq_i z z) z ?_)))))))))
        refine wY (Y.pick (b := false) z z) z (WL.ren (v' := vB (((((!decide (a0.Kind = a1.Kind)) || (!decide (a0.Temp = a1.Temp))) || (!decide (a0.Mono = a1.Mono))) || (!decide (a0.Start = a1.Start))) || (!decide (a0.Time = a1.Time)))) 52 z (congrArg vB (orF J)) ?_)
        exact nl (At.join () z (.cons z (.cons z (.cons z .nil))))
      ·rintro _ _ rfl
       refine (show WL _ _ _ _ _ [(2, pt n 0), (3, pt o 0), (52, vB (((((!decide (a0.Kind = a1.Kind)) || (!decide (a0.Temp = a1.Temp))) || (!decide (a0.Mono = a1.Mono))) || (!decide (a0.Start = a1.Start))) || (!decide (a0.Time = a1.Time))))] _ from ?_)
       refine nl (th ?_)
       rcases cnd h with ⟨K, h⟩ | ⟨K, h⟩
       ·refine WC.condT' z K (sq (rg (wY (ya z) z (nl (th (rt (At.thenR ?_)))))))
        obtain rfl := some1 h
        have a7 : Stp [] (Lg.O0 A) w T q := (tr_ (su_ p z) (tr_ (su_ e z) (tr_ (su_ d z) (su_ j z))))
        exact At.res (.inl z) z (.tmp z .nil) ⟨z, (se_ a7 z z)⟩
       ·refine WC.condF' z K (sk (th (sq (rg (wY (yf fo33_7 z) z (wY (yl ty3 z z (l.cell 7 _ z)) z (wY (yf fo33_7 z) z (wY (yl ty3 z z (m.cell 7 _ z)) z (wY (Y.eql_i z z) z ?_)))))))))
        refine wY (ym z) z ?_
        refine WL.cut 6 (σ := Unit) (fun _ w' => q = w') (fun _ => [(2, pt n 0), (3, pt o 0), (64, vB ((decide (a0.Int_ = a1.Int_)) && (decide (a0.Re = a1.Re))))]) ?_ ?_
        ·refine WL.part 58 z (fun L => ?_) (fun L => ?_)
         ·refine ug z z (wY (yf fo33_8 z) z (ug z z (wY (yl ty26 z z (l.cell 8 _ z)) z (ug z z (wY (yf fo33_8 z) z (ug z z (wY (yl ty26 z z (m.cell 8 _ z)) z (ug z z (wY (Y.eql_u z z) z ?_)))))))))
          refine wY (Y.pick (b := true) z z) z (WL.ren (v' := vB ((decide (a0.Int_ = a1.Int_)) && (decide (a0.Re = a1.Re)))) 64 z (congrArg vB (andT L)) ?_)
          exact nl (At.join () z (.cons z (.cons z (.cons z .nil))))
         ·refine WL.gS z z z z (WL.gS z z z z (WL.gS z z z z (WL.gS z z z z (WL.gS z z z z (wY (Y.pick (b := false) z z) z (WL.ren (v' := vB ((decide (a0.Int_ = a1.Int_)) && (decide (a0.Re = a1.Re)))) 64 z (congrArg vB (andF L)) ?_))))))
          exact nl (At.join () z (.cons z (.cons z (.cons z .nil))))
        ·rintro _ _ rfl
         refine (show WL _ _ _ _ _ [(2, pt n 0), (3, pt o 0), (64, vB ((decide (a0.Int_ = a1.Int_)) && (decide (a0.Re = a1.Re))))] _ from ?_)
         refine wY (ym z) z ?_
         refine WL.cut 6 (σ := Unit) (fun _ w' => q = w') (fun _ => [(2, pt n 0), (3, pt o 0), (71, vB (((decide (a0.Int_ = a1.Int_)) && (decide (a0.Re = a1.Re))) && (decide (a0.Im = a1.Im))))]) ?_ ?_
         ·refine WL.part 65 z (fun M => ?_) (fun M => ?_)
          ·refine ug z z (wY (yf fo33_9 z) z (ug z z (wY (yl ty26 z z (l.cell 9 _ z)) z (ug z z (wY (yf fo33_9 z) z (ug z z (wY (yl ty26 z z (m.cell 9 _ z)) z (ug z z (wY (Y.eql_u z z) z ?_)))))))))
           refine wY (Y.pick (b := true) z z) z (WL.ren (v' := vB (((decide (a0.Int_ = a1.Int_)) && (decide (a0.Re = a1.Re))) && (decide (a0.Im = a1.Im)))) 71 z (congrArg vB (andT M)) ?_)
           exact nl (At.join () z (.cons z (.cons z (.cons z .nil))))
          ·refine WL.gS z z z z (WL.gS z z z z (WL.gS z z z z (WL.gS z z z z (WL.gS z z z z (wY (Y.pick (b := false) z z) z (WL.ren (v' := vB (((decide (a0.Int_ = a1.Int_)) && (decide (a0.Re = a1.Re))) && (decide (a0.Im = a1.Im)))) 71 z (congrArg vB (andF M)) ?_))))))
           exact nl (At.join () z (.cons z (.cons z (.cons z .nil))))
         ·rintro _ _ rfl
          refine (show WL _ _ _ _ _ [(2, pt n 0), (3, pt o 0), (71, vB (((decide (a0.Int_ = a1.Int_)) && (decide (a0.Re = a1.Re))) && (decide (a0.Im = a1.Im))))] _ from ?_)
          refine wY (ym z) z ?_
          refine WL.cut 6 (σ := Unit) (fun _ w' => q = w') (fun _ => [(2, pt n 0), (3, pt o 0), (78, vB ((((decide (a0.Int_ = a1.Int_)) && (decide (a0.Re = a1.Re))) && (decide (a0.Im = a1.Im))) && (decide (a0.Flags = a1.Flags))))]) ?_ ?_
          ·refine WL.part 72 z (fun P => ?_) (fun P => ?_)
           ·refine ug z z (wY (yf fo33_11 z) z (ug z z (wY (yl ty3 z z (l.cell 16 _ z)) z (ug z z (wY (yf fo33_11 z) z (ug z z (wY (yl ty3 z z (m.cell 16 _ z)) z (ug z z (wY (Y.eql_i z z) z ?_)))))))))
            refine wY (Y.pick (b := true) z z) z (WL.ren (v' := vB ((((decide (a0.Int_ = a1.Int_)) && (decide (a0.Re = a1.Re))) && (decide (a0.Im = a1.Im))) && (decide (a0.Flags = a1.Flags)))) 78 z (congrArg vB (andT P)) ?_)
            exact nl (At.join () z (.cons z (.cons z (.cons z .nil))))
           ·refine WL.gS z z z z (WL.gS z z z z (WL.gS z z z z (WL.gS z z z z (WL.gS z z z z (wY (Y.pick (b := false) z z) z (WL.ren (v' := vB ((((decide (a0.Int_ = a1.Int_)) && (decide (a0.Re = a1.Re))) && (decide (a0.Im = a1.Im))) && (decide (a0.Flags = a1.Flags)))) 78 z (congrArg vB (andF P)) ?_))))))
            exact nl (At.join () z (.cons z (.cons z (.cons z .nil))))
          ·rintro _ _ rfl
           refine (show WL _ _ _ _ _ [(2, pt n 0), (3, pt o 0), (78, vB ((((decide (a0.Int_ = a1.Int_)) && (decide (a0.Re = a1.Re))) && (decide (a0.Im = a1.Im))) && (decide (a0.Flags = a1.Flags))))] _ from ?_)
           refine wY (ym z) z ?_
           obtain ⟨b2, h, a8⟩ := bnd h
           refine WL.cut 6 (σ := (Bool × Own)) (fun x w' => x.1 = b2 ∧ Stp [] T q x.2 w') (fun x => [(85, vB x.1)]) ?_ ?_
           ·rcases cnd h with ⟨Q, h⟩ | ⟨Q, h⟩
            ·refine WL.ren 79 z (congrArg vB Q) (ug z z (wY (yf fo33_10 z) z (ug z z (wY (yL ty31 z z (l.cells 10 (hl a0.Hist (vl af ah ai) (vl aj ak al)) z) z) z (ug z z (wY (yf fo33_10 z) z (ug z z (wY (yL ty31 z z (m.cells 10 (hl a1.Hist (vl ao ap aq) (vl au av ax)) z) z) z (ug z z ?_)))))))))
             have bc := (((ad.i p z z).i e z z).i d z z).i j z z
             have bh := (((ae.i p z z).i e z z).i d z z).i j z z
             have bk := ((an.i e z z).i d z z).i j z z
             have bn := ((ar.i e z z).i d z z).i j z z
             obtain ⟨b3, bo, h⟩ := bnd h
             refine WL.call (vals := [ag (hl a0.Hist (vl af ah ai) (vl aj ak al)), ag (hl a1.Hist (vl ao ap aq) (vl au av ax))]) kok50 z z (c_ref08_Same (A := fun _ => True) (a0 := a0.Hist) (a1 := a1.Hist) (Sl.all bc) (Sl.all bh) (Sl.all bk) (Sl.all bn) bo) ?_
             rintro cj ck ⟨rfl, bp⟩
             obtain ⟨b4, cb, cc, aD⟩ := adoptE T (fun k => 1) bp
             refine wY (Y.pick (b := true) z z) z ?_
             exact nl (At.join (σ := (Bool × Own)) (b3, b4) ⟨some1 h, (su_ aD z)⟩ (.cons z .nil))
            ·refine WL.ren 79 z (congrArg vB Q) (WL.gS z z z z (WL.gS z z z z (WL.gS z z z z (WL.gS z z z z (WL.gS z z z z (wY (Y.pick (b := false) z z) z ?_))))))
             exact nl (At.join (σ := (Bool × Own)) (false, T) ⟨some1 h, (sr_ _ _ _)⟩ (.cons z .nil))
           ·rintro ⟨b5, b6⟩ bq ⟨rfl, U⟩
            replace h := a8
            try dsimp only at h U
            refine (show WL _ _ _ _ _ [(85, vB b5)] _ from ?_)
            refine wY (ya z) z (nl (th (rt ?_)))
            obtain rfl := some1 h
            have br : Stp [] (Lg.O0 A) w b6 bq := (tr_ (su_ p z) (tr_ (su_ e z) (tr_ (su_ d z) (tr_ (su_ j z) (su_ U z)))))
            exact At.res (.inl z) z (.tmp z .nil) ⟨z, (se_ br z z)⟩
theorem c_ref12_SameAll {A : Nat → Prop} {a0 : List api_Point} {v0 : Value} {a1 : List api_Point} {v1 : Value} {w : World} (hs0 : Sl rep_api_Point w A v0 a0) (hs1 : Sl rep_api_Point w A v1 a1) {r0 : Bool} (h : ref12_SameAll a0 a1 = some r0) : Rets Try.prog 9 [v0, v1] w (fun v w' => v = vB r0 ∧ Ext w w') := by
 unfold ref12_SameAll at h
 refine Rets.enter Try.func9 z z ?_
 have r : Sl rep_api_Point w (imm (Lg.O0 A)) v0 a0 := (Sl.start hs0)
 have t : Sl rep_api_Point w (imm (Lg.O0 A)) v1 a1 := (Sl.start hs1)
 refine (show WC _ _ _ _ [(0, v0), (1, v1)] _ from ?_)
 refine sq (rg (wY (ya z) z (nl (th (sq (sq (rg (wY (ym z) z (wY (Y.len ty22 z r) z ?_)))))))))
 refine wY (ym z) z (wY (Y.len ty22 z t) z (wY (Y.neq_i z z) z (nl (th ?_))))
 rcases cnd h with ⟨j, h⟩ | ⟨j, h⟩
 ·refine WC.condT' z j (sq (rg (wY (ya z) z (nl (th (rt (At.thenR ?_)))))))
  obtain rfl := some1 h
  have aa : Stp [] (Lg.O0 A) w (Lg.O0 A) w := (sr_ _ _ _)
  exact At.res (.inl z) z (.tmp z .nil) ⟨z, (se_ aa z z)⟩
 ·refine WC.condF' z j (sk (th (sq (sq (rg (wY (ya z) z (nl (th (WC.block ?_)))))))))
  obtain ⟨M, h, C⟩ := flow1 h
  obtain ⟨P, h⟩ := loop_some h
  refine WC.joinB 0 (σ := Own) (fun x w' => M = .go () ∧ Stp [] (Lg.O0 A) w x w') (fun x => []) ?_ ?_
  ·refine WC.loop (σ := (Int × Own)) (fun x k w' => loopN k (ref12_SameAll_lp1 a0 a1) x.1 = some M ∧ Stp [] (Lg.O0 A) w x.2 w') (fun x => [(0, v0), (1, v1), (5, vi x.1)]) (0, (Lg.O0 A)) P (.cons z (.cons z (.cons z .nil))) ⟨h, (sr_ _ _ _)⟩ ?_
   rintro ⟨aG, D⟩ P aQ ⟨h, d⟩
   obtain ⟨aH, aW, rfl, h, l⟩ := rnd1 h
   unfold ref12_SameAll_lp1 at h
   try dsimp only at h d
   refine (show WC _ _ _ _ [(0, v0), (1, v1), (5, vi aG)] _ from ?_)
   refine sq (sq (rg (wY (ym z) z (wY (ym z) z ?_))))
   have E := r.i d z z
   refine wY (Y.len ty22 z E) z (wY (Y.lss_i z z) z (nl (th ?_)))
   rcases cnd h with ⟨m, h⟩ | ⟨m, h⟩
   ·refine WC.condT' z m (sk (th (sq (WC.block (sq (WC.draw 8 D fmix (by kernel_rfl) ?_))))))
    intro aR e
    refine WS.y (ym z) z (WS.y (ym z) z ?_)
    obtain ⟨F, ab, h⟩ := bnd h
    have ac := E.i e z z
    obtain ⟨aX, aM, aN, aS, ad, ae, af, n, H, ah⟩ := Sl.at2 ac ab
    obtain ⟨_, _, rfl, rfl, ⟨_, _, rfl, ⟨Q, rfl, ai⟩, ⟨_, _, rfl, rfl, ⟨_, _, rfl, rfl, ⟨_, _, rfl, rfl, ⟨_, _, rfl, rfl, ⟨_, _, rfl, rfl, ⟨_, _, rfl, rfl, ⟨_, _, rfl, rfl, ⟨_, _, rfl, rfl, ⟨_, _, rfl, ⟨_, _, rfl, rfl, ⟨_, _, rfl, rfl, ⟨_, _, rfl, ⟨_, _, rfl, rfl, ⟨S, rfl, aj⟩⟩, ⟨_, _, rfl, rfl, ⟨T, rfl, ak⟩⟩⟩⟩⟩, rfl⟩⟩⟩⟩⟩⟩⟩⟩⟩⟩⟩ := H
    replace n : CellsAt _ _ _ (cp F Q S T) := n
    have I := CAt.imm n ah
    refine WS.y (Y.indexAddr ty22 ty33 z ad z ae af) z (WS.y (yL ty33 z z I.at_ z) z (WS.y (ym z) z (WS.y (ym z) z ?_)))
    obtain ⟨G, al, h⟩ := bnd h
    have an := (t.i d z z).i e z z
    obtain ⟨aY, aO, aP, aT, ao, ap, aq, o, J, ar⟩ := Sl.at2 an al
    obtain ⟨_, _, rfl, rfl, ⟨_, _, rfl, ⟨U, rfl, au⟩, ⟨_, _, rfl, rfl, ⟨_, _, rfl, rfl, ⟨_, _, rfl, rfl, ⟨_, _, rfl, rfl, ⟨_, _, rfl, rfl, ⟨_, _, rfl, rfl, ⟨_, _, rfl, rfl, ⟨_, _, rfl, rfl, ⟨_, _, rfl, ⟨_, _, rfl, rfl, ⟨_, _, rfl, rfl, ⟨_, _, rfl, ⟨_, _, rfl, rfl, ⟨W, rfl, av⟩⟩, ⟨_, _, rfl, rfl, ⟨X, rfl, ax⟩⟩⟩⟩⟩, rfl⟩⟩⟩⟩⟩⟩⟩⟩⟩⟩⟩ := J
    replace o : CellsAt _ _ _ (cp G U W X) := o
    have K := CAt.imm o ar
    refine WS.y (Y.indexAddr ty22 ty33 z ao z ap aq) z (WS.y (yL ty33 z z K.at_ z) z (WS.tail ?_))
    obtain ⟨aZ, ay, h⟩ := bnd h
    refine WL.call (vals := [ag (cp F Q S T), ag (cp G U W X)]) kok23 z z (c_ref12_Same (A := fun _ => True) (a0 := F) (a1 := G) (Sl.all ai) (Sl.all aj) (Sl.all ak) (Sl.all au) (Sl.all av) (Sl.all ax) ay) ?_
    rintro aU az ⟨rfl, aA⟩
    obtain ⟨Z, aI, aJ, q⟩ := adoptE D (fun k => 1) aA
    refine wY (Y.not z) z (nl (th ?_))
    rcases cnd h with ⟨p, h⟩ | ⟨p, h⟩
    ·refine WC.condT' z p (sq (rg (wY (ya z) z (nl (th (rt (At.inBlockR (At.thenR (At.loopR ?_)))))))))
     have h := outr1 h l C
     refine At.joinBR (At.inBlockR (At.thenR ?_))
     obtain rfl := some1 h
     have aC : Stp [] (Lg.O0 A) w Z az := (tr_ (su_ d z) (tr_ (su_ e z) (su_ q z)))
     exact At.res (.inl z) z (.tmp z .nil) ⟨z, (se_ aC z z)⟩
    ·refine WC.condF' z p (sk (At.inBlock (th (rg (wY (ym z) z (wY (Y.add_i z z) z ?_))))))
     obtain ⟨aK, aD, h⟩ := lt1 h
     refine WL.yE (ya z) (congrArg vi aD.symm) z (nl ?_)
     exact At.round (aK, Z) aH (Nat.lt_succ_self _) ⟨next1 h l, (tr_ (su_ d z) (tr_ (su_ e z) (su_ q z)))⟩ (.cons z (.cons z (.cons z .nil)))
   ·refine WC.condF' z m (WC.exit (At.thenX (At.loopX ?_)))
    exact At.hitB (σ := Own) D ⟨brk1 h l, (su_ d z)⟩ .nil
  ·rintro aL aE ⟨rfl, L⟩
   replace h := flowK_go C
   refine (show At _ _ _ [] _ from ?_)
   refine At.inBlockHit (th (sq (rg (wY (ya z) z (nl (th (rt ?_)))))))
   obtain rfl := some1 h
   have aF : Stp [] (Lg.O0 A) w aL aE := (su_ L z)
   exact At.res (.inl z) z (.tmp z .nil) ⟨z, (se_ aF z z)⟩
theorem c_hist_sides {A : Nat → Prop} {v0_3 : Value} {v0_5 : Value} {a0 : api_Hist} {w : World} (hs0_3 : Sl Rep.u w A v0_3 a0.Pos.Counts) (hs0_5 : Sl Rep.u w A v0_5 a0.Neg.Counts) {r0 : List api_Side} (h : hist_sides a0 = some r0) : Rets Try.prog 51 [ag (hl a0 v0_3 v0_5)] w (fun v w' => ∃ (E : List Value), v = Value.agg (List.toArray E) ∧ Ext w w' ∧ Rows' rep_api_Side w' (fun k => A k ∨ w.heap.size ≤ k) E r0 ∧ r0.length = 2) := by
 unfold hist_sides at h
 refine Rets.enter Try.func51 z z ?_
 have r : Sl Rep.u w (imm (Lg.O0 A)) v0_3 a0.Pos.Counts := (Sl.start hs0_3)
 have t : Sl Rep.u w (imm (Lg.O0 A)) v0_5 a0.Neg.Counts := (Sl.start hs0_5)
 refine (show WC _ _ _ _ [(0, ag (hl a0 v0_3 v0_5))] _ from ?_)
 refine sq (rg ?_)
 have G := h
 obtain ⟨l, m, n, rfl⟩ := r.shape
 have h := G
 have H := h
 obtain ⟨d, e, j, rfl⟩ := t.shape
 have h := H
 refine WL.box (O := (Lg.O0 A)) 11 (hl a0 (vl l m n) (vl d e j)) z z z ?_
 intro aa W X p I
 refine WL.alloc (O := W) 12 [vi 0, sn, vi 0, sn] ty92 z z ?_
 intro ab F Z o J
 refine nl (th (sq (rg (wY (yf fo31_2 z) z ?_))))
 have C := I.st o z
 refine wY (yL ty29 z z (C.cells 2 [vi a0.Pos.Offset, (vl l m n)] z) z) z (wY (yf fo31_3 z) z (wY (yL ty29 z z (C.cells 4 [vi a0.Neg.Offset, (vl d e j)] z) z) z (wY (yb (vals := [(0, ag [vi a0.Pos.Offset, (vl l m n)]), (1, ag [vi a0.Neg.Offset, (vl d e j)])]) (cells := [vi a0.Pos.Offset, (vl l m n), vi a0.Neg.Offset, (vl d e j)]) (fe_ z) (by kernel_rfl)) z (WL.store (v := ag [vi a0.Pos.Offset, (vl l m n), vi a0.Neg.Offset, (vl d e j)]) (cells' := [vi a0.Pos.Offset, (vl l m n), vi a0.Neg.Offset, (vl d e j)]) ty92 z z J z (le_ z) z z ?_))))
 intro K q L
 refine nl (th (rt ?_))
 obtain rfl := some1 h
 have D : Stp [12] (Lg.O0 A) w F K := (tr_ (su_ p z) (tr_ (su_ o z) (su_ q z)))
 have Q := ((r.i p z z).i o z z).i q z z
 have U := ((t.i p z z).i o z z).i q z z
 exact At.res (.inl z) z (.cell z (L.runAg 0 [vi a0.Pos.Offset, (vl l m n), vi a0.Neg.Offset, (vl d e j)] ty92 z z z) .nil) ⟨[vi a0.Pos.Offset, (vl l m n), vi a0.Neg.Offset, (vl d e j)], z, (se_ D z z), (Rows'.outI (O' := F) (R := rep_api_Side) ⟨[vi a0.Pos.Offset, (vl l m n)], [vi a0.Neg.Offset, (vl d e j)], z, ⟨[vi a0.Pos.Offset], [(vl l m n)], z, z, ⟨_, z, Q⟩⟩, ⟨[vi a0.Neg.Offset, (vl d e j)], [], z, ⟨[vi a0.Neg.Offset], [(vl d e j)], z, z, ⟨_, z, U⟩⟩, z⟩⟩ D low0 O0_A), z⟩
theorem c_hist_check {A : Nat → Prop} {v0_1 : Value} {a0 : api_Side} {w : World} (hs0_1 : Sl Rep.u w A v0_1 a0.Counts) {r0 : Int} (h : hist_check a0 = some r0) : Rets Try.prog 52 [ag [vi a0.Offset, v0_1]] w (fun v w' => v = vi r0 ∧ Ext w w') := by
 unfold hist_check at h
 refine Rets.enter Try.func52 z z ?_
 have I : Sl Rep.u w (imm (Lg.O0 A)) v0_1 a0.Counts := (Sl.start hs0_1)
 refine (show WC _ _ _ _ [(0, ag [vi a0.Offset, v0_1])] _ from ?_)
 refine sq (rg ?_)
 have S := h
 obtain ⟨ar, au, av, rfl⟩ := I.shape
 have h := S
 refine WL.box (O := (Lg.O0 A)) 11 [vi a0.Offset, (vl ar au av)] z z z ?_
 intro H m e j l
 refine wY (ya z) z (nl (th (sq (rg (wY (yf fo29_1 z) z (wY (yl ty27 z z (l.cell 1 _ z)) z ?_))))))
 have n := I.i j z z
 refine wY (Y.len ty27 z n) z ?_
 obtain ⟨d, J, h⟩ := lt1 h
 refine WL.yE (ya z) (congrArg vi J.symm) z (nl (th (sq (WC.block (sq (rg (wY (ym z) z (wY (Y.gtr_i z z) z ?_))))))))
 obtain ⟨aH, T, h⟩ := lt1 h
 refine WL.yE (ya z) (congrArg vB T.symm) z (nl (th ?_))
 rcases cnd h with ⟨o, h⟩ | ⟨o, h⟩
 ·refine WC.condT' z o (sq (rg (wY (ya z) z (nl (th (rt (At.inBlockR (At.thenR ?_))))))))
  obtain rfl := some1 h
  have U : Stp [] (Lg.O0 A) w m e := (su_ j z)
  exact At.res (.inl z) z (.tmp z .nil) ⟨z, (se_ U z z)⟩
 ·refine WC.condF' z o (sq (rg (wY (ym z) z (wY (Y.eql_i z z) z (wY (ym z) z ?_)))))
  refine WL.cut 4 (σ := Unit) (fun _ w' => e = w') (fun _ => [(1, pt H 0), (3, vi d), (17, vB ((decide (d = 0)) && (!decide (a0.Offset = 0))))]) ?_ ?_
  ·refine WL.part 13 z (fun p => ?_) (fun p => ?_)
   ·refine ug z z (wY (yf fo29_0 z) z (ug z z (wY (yl ty3 z z (l.cell 0 _ z)) z (ug z z (wY (Y.neq_i z z) z (wY (Y.pick (b := true) z z) z (WL.ren (v' := vB ((decide (d = 0)) && (!decide (a0.Offset = 0)))) 17 z (congrArg vB (andT p)) ?_)))))))
    exact nl (At.join () z (.cons z (.cons z (.cons z .nil))))
   ·refine WL.gS z z z z (WL.gS z z z z (WL.gS z z z z (wY (Y.pick (b := false) z z) z (WL.ren (v' := vB ((decide (d = 0)) && (!decide (a0.Offset = 0)))) 17 z (congrArg vB (andF p)) ?_))))
    exact nl (At.join () z (.cons z (.cons z (.cons z .nil))))
  ·rintro _ _ rfl
   refine (show WL _ _ _ _ _ [(1, pt H 0), (3, vi d), (17, vB ((decide (d = 0)) && (!decide (a0.Offset = 0))))] _ from ?_)
   obtain ⟨aI, W, h⟩ := lt1 h
   refine WL.yE (ya z) (congrArg vB W.symm) z (nl (th ?_))
   rcases cnd h with ⟨q, h⟩ | ⟨q, h⟩
   ·refine WC.condT' z q (sq (rg (wY (ya z) z (nl (th (rt (At.inBlockR (At.thenR ?_))))))))
    obtain rfl := some1 h
    have X : Stp [] (Lg.O0 A) w m e := (su_ j z)
    exact At.res (.inl z) z (.tmp z .nil) ⟨z, (se_ X z z)⟩
   ·refine WC.condF' z q (sq (rg (wY (ym z) z (wY (Y.eql_i z z) z ?_))))
    obtain ⟨aJ, Z, h⟩ := lt1 h
    refine WL.yE (ya z) (congrArg vB Z.symm) z (nl (th ?_))
    rcases cnd h with ⟨r, h⟩ | ⟨r, h⟩
    ·refine WC.condT' z r (sq (rg (wY (ya z) z (nl (th (rt (At.inBlockR (At.thenR ?_))))))))
     obtain rfl := some1 h
     have aa : Stp [] (Lg.O0 A) w m e := (su_ j z)
     exact At.res (.inl z) z (.tmp z .nil) ⟨z, (se_ aa z z)⟩
    ·refine WC.condF' z r (sq (rg (wY (yf fo29_1 z) z (wY (yl ty27 z z (l.cell 1 _ z)) z ?_))))
     obtain ⟨ax, ab, h⟩ := bnd h
     obtain ⟨aK, aA, aC, aF, ac, ad, ae, t, K, af⟩ := Sl.at2 n ab
     obtain rfl := K
     replace t : CellsAt _ _ _ [vu ax] := t
     have L := CAt.imm t af
     refine wY (Y.indexAddr ty27 ty26 z ac z ad ae) z (wY (yl ty26 z z L.at_) z (wY (Y.eql_u (b := 0) z z) z (wY (ym z) z ?_)))
     obtain ⟨ay, h, ah⟩ := bnd h
     refine WL.cut 8 (σ := Bool) (fun x w' => x = ay ∧ e = w') (fun x => [(1, pt H 0), (3, vi d), (35, vB x)]) ?_ ?_
     ·rcases cnd h with ⟨C, h⟩ | ⟨C, h⟩
      ·refine WL.ren 27 z (congrArg vB C) (WL.gS z z z z (WL.gS z z z z (WL.gS z z z z (WL.gS z z z z (WL.gS z z z z (WL.gS z z z z (WL.gS z z z z (wY (Y.pick (b := true) z z) z ?_))))))))
       exact nl (At.join (σ := Bool) true ⟨some1 h, z⟩ (.cons z (.cons z (.cons z .nil))))
      ·refine WL.ren 27 z (congrArg vB C) (ug z z (wY (yf fo29_1 z) z (ug z z (wY (yl ty27 z z (l.cell 1 _ z)) z (ug z z (wY (ym z) z (ug z z (wY (Y.sub_i z z) z (ug z z ?_)))))))))
       obtain ⟨Q, ai, h⟩ := bnd h
       obtain ⟨aL, aD, aE, aG, aj, ak, al, D, M, am⟩ := Sl.at2 n ai
       obtain rfl := M
       replace D : CellsAt _ _ _ [vu Q] := D
       have P := CAt.imm D am
       refine wY (Y.indexAddr ty27 ty26 z aj z ak al) z (ug z z (wY (yl ty26 z z P.at_) z (ug z z (wY (Y.eql_u (b := 0) z z) z (wY (Y.pick (b := false) z z) z ?_)))))
       exact nl (At.join (σ := Bool) (decide (Q = 0)) ⟨some1 h, z⟩ (.cons z (.cons z (.cons z .nil))))
     ·rintro az _ ⟨rfl, rfl⟩
      replace h := ah
      try dsimp only at h
      refine (show WL _ _ _ _ _ [(1, pt H 0), (3, vi d), (35, vB az)] _ from ?_)
      refine wY (ya z) z (nl (th ?_))
      rcases cnd h with ⟨E, h⟩ | ⟨E, h⟩
      ·refine WC.condT' z E (sq (rg (wY (ya z) z (nl (th (rt (At.inBlockR (At.thenR ?_))))))))
       obtain rfl := some1 h
       have an : Stp [] (Lg.O0 A) w m e := (su_ j z)
       exact At.res (.inl z) z (.tmp z .nil) ⟨z, (se_ an z z)⟩
      ·refine WC.condF' z E (sq (rg (wY (yf fo29_0 z) z (wY (yl ty3 z z (l.cell 0 _ z)) z (wY (Y.lss_i z z) z (wY (ym z) z ?_))))))
       refine WL.cut 7 (σ := Unit) (fun _ w' => e = w') (fun _ => [(47, vB ((decide (a0.Offset < (-1073741824))) || (decide (w64 (1073741824 - (w64 (d - 1))) < a0.Offset))))]) ?_ ?_
       ·refine WL.part 40 z (fun F => ?_) (fun F => ?_)
        ·refine WL.gS z z z z (WL.gS z z z z (WL.gS z z z z (WL.gS z z z z (WL.gS z z z z (WL.gS z z z z (wY (Y.pick (b := true) z z) z (WL.ren (v' := vB ((decide (a0.Offset < (-1073741824))) || (decide (w64 (1073741824 - (w64 (d - 1))) < a0.Offset)))) 47 z (congrArg vB (orT F)) ?_)))))))
         exact nl (At.join () z (.cons z .nil))
        ·refine ug z z (wY (yf fo29_0 z) z (ug z z (wY (yl ty3 z z (l.cell 0 _ z)) z (ug z z (wY (ym z) z (ug z z (wY (Y.sub_i z z) z (ug z z (wY (Y.sub_i z z) z ?_)))))))))
         refine ug z z (wY (Y.gtr_i z z) z (wY (Y.pick (b := false) z z) z (WL.ren (v' := vB ((decide (a0.Offset < (-1073741824))) || (decide (w64 (1073741824 - (w64 (d - 1))) < a0.Offset)))) 47 z (congrArg vB (orF F)) ?_)))
         exact nl (At.join () z (.cons z .nil))
       ·rintro _ _ rfl
        refine (show WL _ _ _ _ _ [(47, vB ((decide (a0.Offset < (-1073741824))) || (decide (w64 (1073741824 - (w64 (d - 1))) < a0.Offset))))] _ from ?_)
        obtain ⟨aM, ao, h⟩ := lt1 h
        refine WL.yE (ya z) (congrArg vB ao.symm) z (nl (th ?_))
        rcases cnd h with ⟨G, h⟩ | ⟨G, h⟩
        ·refine WC.condT' z G (sq (rg (wY (ya z) z (nl (th (rt (At.inBlockR (At.thenR ?_))))))))
         obtain rfl := some1 h
         have ap : Stp [] (Lg.O0 A) w m e := (su_ j z)
         exact At.res (.inl z) z (.tmp z .nil) ⟨z, (se_ ap z z)⟩
        ·refine WC.condF' z G (sk (At.inBlock (th (sq (rg (wY (ya z) z (nl (th (rt ?_)))))))))
         obtain rfl := some1 h
         have aq : Stp [] (Lg.O0 A) w m e := (su_ j z)
         exact At.res (.inl z) z (.tmp z .nil) ⟨z, (se_ aq z z)⟩
theorem c_hist_Total {A : Nat → Prop} {v0_3 : Value} {v0_5 : Value} {a0 : api_Hist} {w : World} (hs0_3 : Sl Rep.u w A v0_3 a0.Pos.Counts) (hs0_5 : Sl Rep.u w A v0_5 a0.Neg.Counts) {r0 : UInt64} {r1 : Bool} (h : hist_Total a0 = some (r0, r1)) : Rets Try.prog 53 [ag (hl a0 v0_3 v0_5)] w (fun v w' => v = tp [vu r0, vB r1] ∧ Ext w w') := by
 unfold hist_Total at h
 refine Rets.enter Try.func53 z z ?_
 have ah : Sl Rep.u w (imm (Lg.O0 A)) v0_3 a0.Pos.Counts := (Sl.start hs0_3)
 have ai : Sl Rep.u w (imm (Lg.O0 A)) v0_5 a0.Neg.Counts := (Sl.start hs0_5)
 refine (show WC _ _ _ _ [(0, ag (hl a0 v0_3 v0_5))] _ from ?_)
 refine sq (rg ?_)
 have aX := h
 obtain ⟨aj, ak, al, rfl⟩ := ah.shape
 have h := aX
 have aY := h
 obtain ⟨am, an, ao, rfl⟩ := ai.shape
 have h := aY
 refine WL.box (O := (Lg.O0 A)) 11 (hl a0 (vl aj ak al) (vl am an ao)) z z z ?_
 intro bD ap bu j aq
 refine wY (ya (v := vu 0) z) z (wY (ya z) z (nl (th (sq (rg (wY (yf fo31_1 z) z (wY (yl ty26 z z (aq.cell 1 _ z)) z (wY (ya z) z (wY (ya (v := vu 0) z) z ?_)))))))))
 refine nl (th (sq (sq (rg (wY (yL ty31 z z (aq.cells 0 (hl a0 (vl aj ak al) (vl am an ao)) z) z) z ?_)))))
 have aZ := ah.i j z z
 have a1 := ai.i j z z
 obtain ⟨bi, a2, h⟩ := bnd h
 refine WL.call (vals := [ag (hl a0 (vl aj ak al) (vl am an ao))]) kok51 z z (c_hist_sides (A := imm ap) (a0 := a0) aZ a1 a2) ?_
 rintro bw I ⟨d, rfl, a3, f31, bj⟩
 obtain ⟨M, ar, au, P⟩ := adoptE ap (fun k => 1) a3
 have a4 := Rows'.adoptI (O := ap) f31 (fun _ hk => hk) (fun _ _ => Nat.le_refl _) ar au
 refine wY (ym z) z (nl (th ?_))
 obtain ⟨bk, h, a5⟩ := bnd h
 refine WC.join (σ := (UInt64 × UInt64 × Own)) (fun x w' => (x.1, x.2.1) = bk ∧ Stp [12] M I x.2.2 w') (fun x => [(4, vu x.1), (5, vu x.2.1)]) ?_ ?_
 ·refine WC.block ?_
  obtain ⟨aQ, h, a6⟩ := flow1 h
  obtain ⟨aR, h⟩ := loop_some h
  refine WC.joinB 0 (σ := (UInt64 × UInt64 × Own)) (fun x w' => aQ = .go (x.1, x.2.1) ∧ Stp [12] M I x.2.2 w') (fun x => [(4, vu x.1), (5, vu x.2.1)]) ?_ ?_
  ·refine WC.loop (σ := (UInt64 × UInt64 × Int × Own)) (fun x k w' => loopN k (hist_Total_lp1 bi) (x.1, x.2.1, x.2.2.1) = some aQ ∧ Stp [12] M I x.2.2.2 w') (fun x => [(4, vu x.1), (5, vu x.2.1), (14, Value.agg (List.toArray d)), (15, vi x.2.2.1)]) (a0.Zero, 0, 0, M) aR (.cons z (.cons z (.cons z (.cons z .nil)))) ⟨h, (sr_ _ _ _)⟩ ?_
   rintro ⟨o, m, e, av⟩ aR a7 ⟨h, l⟩
   obtain ⟨bl, bE, rfl, h, ax⟩ := rnd1 h
   unfold hist_Total_lp1 at h
   try dsimp only at h l
   refine (show WC _ _ _ _ [(4, vu o), (5, vu m), (14, Value.agg (List.toArray d)), (15, vi e)] _ from ?_)
   refine sq (rg (wY (Y.lss_i z z) z (nl (th (sq ?_)))))
   rcases cnd h with ⟨J, h⟩ | ⟨J, h⟩
   ·refine WC.condT' z J (sk (th (sq (WC.block (sq (rg ?_))))))
    have a8 := Rows'.i a4 l z z
    obtain ⟨n, ay, h⟩ := bnd h
    obtain ⟨bx, p, aH⟩ := arrAt (R := rep_api_Side) (w := a7) (A := imm av) (cells := d) a8 ay
    obtain ⟨_, _, rfl, rfl, ⟨bm, rfl, a9⟩⟩ := aH
    replace p : _ = [vi n.Offset, bm] := p
    refine wY (Y.indexArrAg ty92 ty29 z z p ay bj) z (WL.alloc (O := av) 12 [vi 0, sn] ty29 z z ?_)
    intro bG bn bz Q ba
    have az := a9.i Q z z
    have bb := h
    obtain ⟨S, T, U, rfl⟩ := az.shape
    have h := bb
    refine WL.store (v := ag [vi n.Offset, (vl S T U)]) (cells' := [vi n.Offset, (vl S T U)]) ty29 z z ba z (le_ z) z z ?_
    intro K W bc
    refine nl (th (sq (rg (wY (yf fo29_1 z) z (wY (yl ty27 z z (bc.cell 1 _ z)) z ?_)))))
    have aA := az.i W z z
    refine wY (Y.len ty27 z aA) z (wY (ym z) z (nl (th ?_)))
    obtain ⟨bo, h, bd⟩ := bnd h
    refine WC.join (σ := (UInt64 × UInt64)) (fun x w' => (x.1, x.2) = bo ∧ K = w') (fun x => [(4, vu x.1), (5, vu x.2), (14, Value.agg (List.toArray d)), (15, vi e)]) ?_ ?_
    ·refine WC.block ?_
     obtain ⟨aS, h, bf⟩ := flow1 h
     obtain ⟨aT, h⟩ := loop_some h
     refine WC.joinB 2 (σ := (UInt64 × UInt64)) (fun x w' => aS = .go (x.1, x.2) ∧ K = w') (fun x => [(4, vu x.1), (5, vu x.2), (14, Value.agg (List.toArray d)), (15, vi e)]) ?_ ?_
     ·refine WC.loop (σ := (UInt64 × UInt64 × Int)) (fun x k w' => loopN k (hist_Total_lp2 n) (x.1, x.2.1, x.2.2) = some aS ∧ K = w') (fun x => [(4, vu x.1), (5, vu x.2.1), (14, Value.agg (List.toArray d)), (15, vi e), (19, (vl S T U)), (20, vi (n.Counts.length : Int)), (21, vi x.2.2)]) (o, m, 0) aT (.cons z (.cons z (.cons z (.cons z (.cons z (.cons z (.cons z .nil))))))) ⟨h, z⟩ ?_
      rintro ⟨X, D, aU⟩ aT _ ⟨h, rfl⟩
      obtain ⟨bp, bA, rfl, h, Z⟩ := rnd1 h
      unfold hist_Total_lp2 at h
      try dsimp only at h
      refine (show WC _ _ _ _ [(4, vu X), (5, vu D), (14, Value.agg (List.toArray d)), (15, vi e), (19, (vl S T U)), (20, vi (n.Counts.length : Int)), (21, vi aU)] _ from ?_)
      refine sq (rg (wY (Y.lss_i z z) z (nl (th (sq ?_)))))
      rcases cnd h with ⟨q, h⟩ | ⟨q, h⟩
      ·refine WC.condT' z q (sk (th (sq (WC.block (sq (rg ?_))))))
       obtain ⟨bg, aI, h⟩ := bnd h
       obtain ⟨bB, bq, br, bt, aJ, aK, aL, r, aC, aM⟩ := Sl.at2 aA aI
       obtain rfl := aC
       replace r : CellsAt _ _ _ [vu bg] := r
       have aD := CAt.imm r aM
       refine wY (Y.indexAddr ty27 ty26 z aJ z aK aL) z (wY (yl ty26 z z aD.at_) z (wY (ya z) z (nl (th (sq (rg (wY (ya (v := vu 0) z) z (nl (th ?_)))))))))
       refine sq (rg (wY (ym z) z (wY (ym z) z (wY (Y.add64 (c := 0) x64_56 (by decide) z z z) z (wY (ym z) z (wY (yx z z) z (wY (yx z z) z ?_)))))))
       obtain ⟨aE, ae, h⟩ := lt1 h
       refine WL.yE (ya z) (congrArg vu ae.symm) z ?_
       obtain ⟨bh, E, h⟩ := lt1 h
       refine WL.yE (ya z) (congrArg vu E.symm) z (nl (th (rg (wY (ym z) z (wY (ym z) z (wY (Y.or_u z z) z ?_))))))
       obtain ⟨af, L, h⟩ := lt1 h
       refine WL.yE (ya z) (congrArg vu L.symm) z (nl (At.inBlock (th (rg (wY (Y.add_i z z) z (wY (ym z) z (nl ?_)))))))
       exact At.round (aE, af, w64 (aU + 1)) bp (Nat.lt_succ_self _) ⟨next1 h Z, z⟩ (.cons z (.cons z (.cons z (.cons z (.cons z (.cons z (.cons z .nil)))))))
      ·refine WC.condF' z q (WC.exit (At.thenX (At.loopX ?_)))
       exact At.hitB (σ := (UInt64 × UInt64)) (X, D) ⟨brk1 h Z, z⟩ (.cons z (.cons z (.cons z (.cons z .nil))))
     ·rintro ⟨aa, F⟩ _ ⟨rfl, rfl⟩
      replace h := flowK_go bf
      try dsimp only at h
      refine (show At _ _ _ [(4, vu aa), (5, vu F), (14, Value.agg (List.toArray d)), (15, vi e)] _ from ?_)
      refine At.inBlockHit ?_
      exact At.join (σ := (UInt64 × UInt64)) (aa, F) ⟨some1 h, z⟩ (.cons z (.cons z (.cons z (.cons z .nil))))
    ·rintro ⟨ab, G⟩ _ ⟨rfl, rfl⟩
     replace h := bd
     try dsimp only at h
     refine (show At _ _ _ [(4, vu ab), (5, vu G), (14, Value.agg (List.toArray d)), (15, vi e)] _ from ?_)
     refine At.inBlock (th (rg (wY (Y.add_i z z) z (wY (ym z) z (nl ?_)))))
     exact At.round (ab, G, w64 (e + 1), bn) bl (Nat.lt_succ_self _) ⟨next1 h ax, (tr_ (su_ l z) (tr_ (su_ Q z) (su_ W z)))⟩ (.cons z (.cons z (.cons z (.cons z .nil))))
   ·refine WC.condF' z J (WC.exit (At.thenX (At.loopX ?_)))
    exact At.hitB (σ := (UInt64 × UInt64 × Own)) (o, m, av) ⟨brk1 h ax, (su_ l z)⟩ (.cons z (.cons z .nil))
  ·rintro ⟨ac, H, bs⟩ bC ⟨rfl, ad⟩
   replace h := flowK_go a6
   try dsimp only at h ad
   refine (show At _ _ _ [(4, vu ac), (5, vu H)] _ from ?_)
   refine At.inBlockHit ?_
   exact At.join (σ := (UInt64 × UInt64 × Own)) (ac, H, bs) ⟨some1 h, (su_ ad z)⟩ (.cons z (.cons z .nil))
 ·rintro ⟨aN, aF, aW⟩ aG ⟨rfl, t⟩
  replace h := a5
  try dsimp only at h t
  refine (show At _ _ _ [(4, vu aN), (5, vu aF)] _ from ?_)
  refine th (sq (sq (rg (wY (ym z) z (wY (Y.neq_u (b := 0) z z) z (nl (th ?_)))))))
  rcases cnd h with ⟨C, h⟩ | ⟨C, h⟩
  ·refine WC.condT' z C (sq (rg (wY (ya (v := vu 0) z) z (wY (ya z) z (nl (th (rt (At.thenR ?_))))))))
   obtain ⟨rfl, rfl⟩ := tup2 h
   have aO : Stp [12] (Lg.O0 A) w aW aG := (tr_ (su_ j z) (tr_ (su_ P z) (su_ t z)))
   exact At.res (.inl z) z (.tmp z (.tmp z .nil)) ⟨z, (se_ aO z z)⟩
  ·refine WC.condF' z C (sk (th (sq (rg (wY (ym z) z (wY (ya z) z (wY (ya z) z (nl (th ?_)))))))))
   refine rt ?_
   obtain ⟨rfl, rfl⟩ := tup2 h
   have aP : Stp [12] (Lg.O0 A) w aW aG := (tr_ (su_ j z) (tr_ (su_ P z) (su_ t z)))
   exact At.res (.inl z) z (.tmp z (.tmp z .nil)) ⟨z, (se_ aP z z)⟩
theorem c_hist_Check {A : Nat → Prop} {v0_3 : Value} {v0_5 : Value} {a0 : api_Hist} {w : World} (hs0_3 : Sl Rep.u w A v0_3 a0.Pos.Counts) (hs0_5 : Sl Rep.u w A v0_5 a0.Neg.Counts) {r0 : Int} (h : hist_Check a0 = some r0) : Rets Try.prog 24 [ag (hl a0 v0_3 v0_5)] w (fun v w' => v = vi r0 ∧ Ext w w') := by
 unfold hist_Check at h
 refine Rets.enter Try.func24 z z ?_
 have ac : Sl Rep.u w (imm (Lg.O0 A)) v0_3 a0.Pos.Counts := (Sl.start hs0_3)
 have ad : Sl Rep.u w (imm (Lg.O0 A)) v0_5 a0.Neg.Counts := (Sl.start hs0_5)
 refine (show WC _ _ _ _ [(0, ag (hl a0 v0_3 v0_5))] _ from ?_)
 refine sq (rg ?_)
 have aF := h
 obtain ⟨C, D, E, rfl⟩ := ac.shape
 have h := aF
 have aG := h
 obtain ⟨F, G, H, rfl⟩ := ad.shape
 have h := aG
 refine WL.box (O := (Lg.O0 A)) 11 (hl a0 (vl C D E) (vl F G H)) z z z ?_
 intro m T ae d o
 refine wY (ya z) z (nl (th (sq (sq (rg (wY (yf fo31_0 z) z (wY (yl ty3 z z (o.cell 0 _ z)) z (wY (Y.lss_i z z) z (wY (ym z) z ?_)))))))))
 refine WL.cut 4 (σ := Unit) (fun _ w' => ae = w') (fun _ => [(1, pt m 0), (15, vB ((decide (a0.Scale < (-10))) || (decide (20 < a0.Scale))))]) ?_ ?_
 ·refine WL.part 11 z (fun J => ?_) (fun J => ?_)
  ·refine WL.gS z z z z (WL.gS z z z z (WL.gS z z z z (wY (Y.pick (b := true) z z) z (WL.ren (v' := vB ((decide (a0.Scale < (-10))) || (decide (20 < a0.Scale)))) 15 z (congrArg vB (orT J)) ?_))))
   exact nl (At.join () z (.cons z (.cons z .nil)))
  ·refine ug z z (wY (yf fo31_0 z) z (ug z z (wY (yl ty3 z z (o.cell 0 _ z)) z (ug z z (wY (Y.gtr_i z z) z (wY (Y.pick (b := false) z z) z (WL.ren (v' := vB ((decide (a0.Scale < (-10))) || (decide (20 < a0.Scale)))) 15 z (congrArg vB (orF J)) ?_)))))))
   exact nl (At.join () z (.cons z (.cons z .nil)))
 ·rintro _ _ rfl
  refine (show WL _ _ _ _ _ [(1, pt m 0), (15, vB ((decide (a0.Scale < (-10))) || (decide (20 < a0.Scale))))] _ from ?_)
  refine nl (th ?_)
  rcases cnd h with ⟨K, h⟩ | ⟨K, h⟩
  ·refine WC.condT' z K (sq (rg (wY (ya z) z (nl (th (rt (At.thenR ?_)))))))
   obtain rfl := some1 h
   have aH : Stp [] (Lg.O0 A) w T ae := (su_ d z)
   exact At.res (.inl z) z (.tmp z .nil) ⟨z, (se_ aH z z)⟩
  ·refine WC.condF' z K (sk (th (sq (sq (rg (wY (yL ty31 z z (o.cells 0 (hl a0 (vl C D E) (vl F G H)) z) z) z ?_))))))
   have af := ac.i d z z
   have ah := ad.i d z z
   obtain ⟨a5, aI, h⟩ := bnd h
   refine WL.call (vals := [ag (hl a0 (vl C D E) (vl F G H))]) kok51 z z (c_hist_sides (A := imm T) (a0 := a0) af ah aI) ?_
   rintro bi L ⟨M, rfl, aJ, a6, a7⟩
   obtain ⟨U, ai, aj, e⟩ := adoptE T (fun k => 1) aJ
   have aK := Rows'.adoptI (O := T) a6 (fun _ hk => hk) (fun _ _ => Nat.le_refl _) ai aj
   refine wY (ym z) z (nl (th ?_))
   obtain ⟨a8, h, ak⟩ := flow1 h
   refine WC.join (σ := Own) (fun x w' => a8 = .go () ∧ Stp [12] U L x w') (fun x => [(1, pt m 0)]) ?_ ?_
   ·refine WC.block ?_
    obtain ⟨aA, h, al⟩ := flow1 h
    obtain ⟨aC, h⟩ := loop_some h
    refine WC.joinB 0 (σ := Own) (fun x w' => aA = .go () ∧ Stp [12] U L x w') (fun x => [(1, pt m 0)]) ?_ ?_
    ·refine WC.loop (σ := (Int × Own)) (fun x k w' => loopN k (hist_Check_lp1 a5) x.1 = some aA ∧ Stp [12] U L x.2 w') (fun x => [(1, pt m 0), (17, Value.agg (List.toArray M)), (18, vi x.1)]) (0, U) aC (.cons z (.cons z (.cons z .nil))) ⟨h, (sr_ _ _ _)⟩ ?_
     rintro ⟨aD, am⟩ aC aL ⟨h, j⟩
     obtain ⟨a9, br, rfl, h, P⟩ := rnd1 h
     unfold hist_Check_lp1 at h
     try dsimp only at h j
     refine (show WC _ _ _ _ [(1, pt m 0), (17, Value.agg (List.toArray M)), (18, vi aD)] _ from ?_)
     refine sq (rg (wY (Y.lss_i z z) z (nl (th (sq ?_)))))
     rcases cnd h with ⟨Q, h⟩ | ⟨Q, h⟩
     ·refine WC.condT' z Q (sk (th (sq (WC.block (sq (rg ?_))))))
      have aM := Rows'.i aK j z z
      obtain ⟨n, an, h⟩ := bnd h
      obtain ⟨bj, p, aq⟩ := arrAt (R := rep_api_Side) (w := aL) (A := imm am) (cells := M) aM an
      obtain ⟨_, _, rfl, rfl, ⟨ba, rfl, aN⟩⟩ := aq
      replace p : _ = [vi n.Offset, ba] := p
      refine wY (Y.indexArrAg ty92 ty29 z z p an a7) z (WL.alloc (O := am) 12 [vi 0, sn] ty29 z z ?_)
      intro bs bb bk q aO
      have ao := aN.i q z z
      have aP := h
      obtain ⟨W, X, Z, rfl⟩ := ao.shape
      have h := aP
      refine WL.store (v := ag [vi n.Offset, (vl W X Z)]) (cells' := [vi n.Offset, (vl W X Z)]) ty29 z z aO z (le_ z) z z ?_
      intro bl r aQ
      refine nl (th (sq (rg (wY (yL ty29 z z (aQ.cells 0 [vi n.Offset, (vl W X Z)] z) z) z ?_))))
      have aR := ao.i r z z
      obtain ⟨bt, aS, h⟩ := bnd h
      refine WL.call (vals := [ag [vi n.Offset, (vl W X Z)]]) kok52 z z (c_hist_check (A := fun _ => True) (a0 := n) (Sl.all aR) aS) ?_
      rintro bm aT ⟨rfl, aU⟩
      obtain ⟨aE, bc, bd, aa⟩ := adoptE bb (fun k => 1) aU
      refine wY (ya z) z (nl (th (sq (rg (wY (ym z) z (wY (Y.neq_i z z) z (nl (th ?_))))))))
      rcases cnd h with ⟨S, h⟩ | ⟨S, h⟩
      ·refine WC.condT' z S (sq (rg (wY (ym z) z (wY (ya z) z (nl (th (rt (At.inBlockR (At.thenR ?_)))))))))
       refine At.loopR ?_
       have h := outr1 h P al
       refine At.joinBR (At.inBlockR ?_)
       have h := outs1 h ak
       refine At.joinR (At.thenR ?_)
       obtain rfl := some1 h
       have aW : Stp [12] (Lg.O0 A) w aE aT := (tr_ (su_ d z) (tr_ (su_ e z) (tr_ (su_ j z) (tr_ (su_ q z) (tr_ (su_ r z) (su_ aa z))))))
       exact At.res (.inl z) z (.tmp z .nil) ⟨z, (se_ aW z z)⟩
      ·refine WC.condF' z S (sk (At.inBlock (th (rg (wY (Y.add_i z z) z (wY (ym z) z (nl ?_)))))))
       exact At.round (w64 (aD + 1), aE) a9 (Nat.lt_succ_self _) ⟨next1 h P, (tr_ (su_ j z) (tr_ (su_ q z) (tr_ (su_ r z) (su_ aa z))))⟩ (.cons z (.cons z (.cons z .nil)))
     ·refine WC.condF' z Q (WC.exit (At.thenX (At.loopX ?_)))
      exact At.hitB (σ := Own) am ⟨brk1 h P, (su_ j z)⟩ (.cons z .nil)
    ·rintro bf bn ⟨rfl, ar⟩
     replace h := flowK_go al
     refine (show At _ _ _ [(1, pt m 0)] _ from ?_)
     refine At.inBlockHit ?_
     exact At.join (σ := Own) bf ⟨go2 h, (su_ ar z)⟩ (.cons z .nil)
   ·rintro bg bo ⟨rfl, l⟩
    replace h := flowK_go ak
    refine (show At _ _ _ [(1, pt m 0)] _ from ?_)
    refine th (sq (sq (rg ?_)))
    have aY := (o.st e z).st l z
    refine wY (yL ty31 z z (aY.cells 0 (hl a0 (vl C D E) (vl F G H)) z) z) z ?_
    have a1 := (af.i e z z).i l z z
    have au := (ah.i e z z).i l z z
    obtain ⟨⟨bp, bq⟩, av, h⟩ := bnd h
    refine WL.call (vals := [ag (hl a0 (vl C D E) (vl F G H))]) kok53 z z (c_hist_Total (A := fun _ => True) (a0 := a0) (Sl.all a1) (Sl.all au) av) ?_
    rintro bh ab ⟨rfl, ax⟩
    obtain ⟨ap, a3, a4, I⟩ := adoptE bg (fun k => 1) ax
    refine wY (ym z) z (wY (yx z z) z (wY (yx z z) z (wY (ya z) z (wY (ya z) z (nl (th (sq (rg (wY (ym z) z ?_)))))))))
    refine wY (Y.not z) z (nl (th ?_))
    rcases cnd h with ⟨t, h⟩ | ⟨t, h⟩
    ·refine WC.condT' z t (sq (rg (wY (ya z) z (nl (th (rt (At.thenR ?_)))))))
     obtain rfl := some1 h
     have ay : Stp [12] (Lg.O0 A) w ap ab := (tr_ (su_ d z) (tr_ (su_ e z) (tr_ (su_ l z) (su_ I z))))
     exact At.res (.inl z) z (.tmp z .nil) ⟨z, (se_ ay z z)⟩
    ·refine WC.condF' z t (sk (th (sq (rg (wY (ya z) z (nl (th (rt ?_))))))))
     obtain rfl := some1 h
     have az : Stp [12] (Lg.O0 A) w ap ab := (tr_ (su_ d z) (tr_ (su_ e z) (tr_ (su_ l z) (su_ I z))))
     exact At.res (.inl z) z (.tmp z .nil) ⟨z, (se_ az z z)⟩
theorem c_label_small {a0 : UInt8} {w : World} {r0 : Bool} (h : label_small a0 = some r0) : Rets Try.prog 97 [vb a0] w (fun v w' => v = vB r0 ∧ Ext w w') := by
 unfold label_small at h
 refine Rets.enter Try.func97 z z ?_
 refine (show WC _ _ _ _ [(0, vb a0)] _ from ?_)
 refine sq (rg (wY (ya z) z (nl (th (sq (rg (wY (ym z) z (wY (Y.geq_b (b := 97) z z) z (wY (ym z) z ?_)))))))))
 refine WL.cut 3 (σ := Unit) (fun _ w' => w = w') (fun _ => [(8, vB ((decide (97 ≤ a0)) && (decide (a0 ≤ 122))))]) ?_ ?_
 ·refine WL.part 5 z (fun d => ?_) (fun d => ?_)
  ·refine ug z z (wY (ym z) z (ug z z (wY (Y.leq_b (b := 122) z z) z (wY (Y.pick (b := true) z z) z (WL.ren (v' := vB ((decide (97 ≤ a0)) && (decide (a0 ≤ 122)))) 8 z (congrArg vB (andT d)) ?_)))))
   exact nl (At.join () z (.cons z .nil))
  ·refine WL.gS z z z z (WL.gS z z z z (wY (Y.pick (b := false) z z) z (WL.ren (v' := vB ((decide (97 ≤ a0)) && (decide (a0 ≤ 122)))) 8 z (congrArg vB (andF d)) ?_)))
   exact nl (At.join () z (.cons z .nil))
 ·rintro _ _ rfl
  refine (show WL _ _ _ _ _ [(8, vB ((decide (97 ≤ a0)) && (decide (a0 ≤ 122))))] _ from ?_)
  obtain ⟨l, e, h⟩ := lt1 h
  refine WL.yE (ya z) (congrArg vB e.symm) z (nl (th (rt ?_)))
  obtain rfl := some1 h
  have j : Stp [] (Lg.O0 (fun _ => False)) w (Lg.O0 (fun _ => False)) w := (sr_ _ _ _)
  exact At.res (.inl z) z (.tmp z .nil) ⟨z, (se_ j z z)⟩
theorem c_label_isName {a0 : List UInt8} {w : World} {r0 : Bool} (h : label_isName a0 = some r0) : Rets Try.prog 72 [vs a0] w (fun v w' => v = vB r0 ∧ Ext w w') := by
 unfold label_isName at h
 refine Rets.enter Try.func72 z z ?_
 refine (show WC _ _ _ _ [(0, vs a0)] _ from ?_)
 refine sq (rg (wY (ya z) z (nl (th (sq (sq (rg (wY (ym z) z (wY (Y.eql_s (b := []) z z) z ?_)))))))))
 refine wY (ym z) z ?_
 refine WL.cut 4 (σ := Unit) (fun _ w' => w = w') (fun _ => [(0, vs a0), (11, vB ((decide (a0 = [])) || (decide (32 < (a0.length : Int)))))]) ?_ ?_
 ·refine WL.part 7 z (fun q => ?_) (fun q => ?_)
  ·refine WL.gS z z z z (WL.gS z z z z (WL.gS z z z z (wY (Y.pick (b := true) z z) z (WL.ren (v' := vB ((decide (a0 = [])) || (decide (32 < (a0.length : Int))))) 11 z (congrArg vB (orT q)) ?_))))
   exact nl (At.join () z (.cons z (.cons z .nil)))
  ·refine ug z z (wY (ym z) z (ug z z (wY (Y.len_s ty9 z) z (ug z z (wY (Y.gtr_i z z) z (wY (Y.pick (b := false) z z) z (WL.ren (v' := vB ((decide (a0 = [])) || (decide (32 < (a0.length : Int))))) 11 z (congrArg vB (orF q)) ?_)))))))
   exact nl (At.join () z (.cons z (.cons z .nil)))
 ·rintro _ _ rfl
  refine (show WL _ _ _ _ _ [(0, vs a0), (11, vB ((decide (a0 = [])) || (decide (32 < (a0.length : Int)))))] _ from ?_)
  refine wY (ym z) z ?_
  obtain ⟨ay, h, ad⟩ := bnd h
  refine WL.cut 5 (σ := (Bool × Own)) (fun x w' => x.1 = ay ∧ Stp [] (Lg.O0 (fun _ => False)) w x.2 w') (fun x => [(0, vs a0), (17, vB x.1)]) ?_ ?_
  ·rcases cnd h with ⟨r, h⟩ | ⟨r, h⟩
   ·refine WL.ren 12 z (congrArg vB r) (WL.gS z z z z (WL.gS z z z z (WL.gS z z z z (WL.gS z z z z (wY (Y.pick (b := true) z z) z ?_)))))
    exact nl (At.join (σ := (Bool × Own)) (true, (Lg.O0 (fun _ => False))) ⟨some1 h, (sr_ _ _ _)⟩ (.cons z (.cons z .nil)))
   ·refine WL.ren 12 z (congrArg vB r) (ug z z (wY (ym z) z (ug z z ?_)))
    obtain ⟨az, ae, h⟩ := bnd h
    refine wY (Y.index_s ty9 z z ae) z (ug z z ?_)
    obtain ⟨aA, af, h⟩ := bnd h
    refine WL.call (vals := [vb az]) kok97 z z (c_label_small af) ?_
    rintro aM aN ⟨rfl, ah⟩
    obtain ⟨aC, aD, aE, S⟩ := adoptE (Lg.O0 (fun _ => False)) (fun k => 1) ah
    refine ug z z (wY (Y.not z) z (wY (Y.pick (b := false) z z) z ?_))
    exact nl (At.join (σ := (Bool × Own)) ((!aA), aC) ⟨some1 h, (su_ S z)⟩ (.cons z (.cons z .nil)))
  ·rintro ⟨aF, X⟩ ai ⟨rfl, n⟩
   replace h := ad
   try dsimp only at h n
   refine (show WL _ _ _ _ _ [(0, vs a0), (17, vB aF)] _ from ?_)
   refine nl (th ?_)
   rcases cnd h with ⟨t, h⟩ | ⟨t, h⟩
   ·refine WC.condT' z t (sq (rg (wY (ya z) z (nl (th (rt (At.thenR ?_)))))))
    obtain rfl := some1 h
    have aj : Stp [] (Lg.O0 (fun _ => False)) w X ai := (su_ n z)
    exact At.res (.inl z) z (.tmp z .nil) ⟨z, (se_ aj z z)⟩
   ·refine WC.condF' z t (sk (th (sq (sq (rg (wY (ym z) z (WL.s2b (O := X) ty9 ty45 ty5 z z ?_)))))))
    intro j L M J P
    refine wY (Y.len ty45 z P) z (wY (ym z) z (nl (th (WC.block ?_))))
    obtain ⟨Z, h, Q⟩ := flow1 h
    obtain ⟨aa, h⟩ := loop_some h
    refine WC.joinB 0 (σ := Own) (fun x w' => Z = .go () ∧ Stp [] L M x w') (fun x => []) ?_ ?_
    ·refine WC.loop (σ := (Int × Own)) (fun x k w' => loopN k (label_isName_lp1 a0) x.1 = some Z ∧ Stp [] L M x.2 w') (fun x => [(19, j), (20, vi (a0.length : Int)), (21, vi x.1)]) (0, L) aa (.cons z (.cons z (.cons z .nil))) ⟨h, (sr_ _ _ _)⟩ ?_
     rintro ⟨l, ab⟩ aa aO ⟨h, m⟩
     obtain ⟨aG, aR, rfl, h, C⟩ := rnd1 h
     unfold label_isName_lp1 at h
     try dsimp only at h m
     refine (show WC _ _ _ _ [(19, j), (20, vi (a0.length : Int)), (21, vi l)] _ from ?_)
     refine sq (rg (wY (Y.lss_i z z) z (nl (th (sq ?_)))))
     rcases cnd h with ⟨D, h⟩ | ⟨D, h⟩
     ·refine WC.condT' z D (sk (th (sq (WC.block (sq (rg ?_))))))
      obtain ⟨d, ak, h⟩ := bnd h
      have al := P.f m z
      obtain ⟨aS, aK, aL, aP, am, an, ao, E, T, ap⟩ := Sl.at2 al ak
      obtain rfl := T
      replace E : CellsAt _ _ _ [vb d] := E
      have U := CAt.frs E ap
      refine wY (Y.indexAddr ty45 ty5 z am z an ao) z (wY (yl ty5 z z U.at_) z (wY (ya z) z (nl (th (sq (rg (wY (ym z) z ?_)))))))
      obtain ⟨e, aq, h⟩ := bnd h
      refine WL.call (vals := [vb d]) kok97 z z (c_label_small aq) ?_
      rintro aQ o ⟨rfl, ar⟩
      obtain ⟨ac, aH, aI, K⟩ := adoptE ab (fun k => 1) ar
      refine wY (Y.not z) z (wY (ym z) z ?_)
      refine WL.cut 7 (σ := Unit) (fun _ w' => o = w') (fun _ => [(4, vb d), (19, j), (20, vi (a0.length : Int)), (21, vi l), (35, vB ((!e) && ((decide (d < 48)) || (decide (57 < d)))))]) ?_ ?_
      ·refine WL.part 28 z (fun F => ?_) (fun F => ?_)
       ·refine ug z z (wY (ym z) z (ug z z (wY (Y.lss_b (b := 48) z z) z (ug z z (wY (ym z) z ?_)))))
        refine WL.cut 3 (σ := Unit) (fun _ w' => o = w') (fun _ => [(4, vb d), (19, j), (20, vi (a0.length : Int)), (21, vi l), (28, vB true), (29, vb d), (30, vB (decide (d < 48))), (31, vB (decide (d < 48))), (34, vB ((decide (d < 48)) || (decide (57 < d))))]) ?_ ?_
        ·refine WL.part 31 z (fun p => ?_) (fun p => ?_)
         ·refine WL.gS z z z z (WL.gS z z z z (ug z z (wY (Y.pick (b := true) z z) z (WL.ren (v' := vB ((decide (d < 48)) || (decide (57 < d)))) 34 z (congrArg vB (orT p)) (WL.ren 31 z (congrArg vB p.symm) ?_)))))
          exact nl (At.join () z (.cons z (.cons z (.cons z (.cons z (.cons z (.cons z (.cons z (.cons z (.cons z .nil))))))))))
         ·refine ug z z (wY (ym z) z (ug z z (wY (Y.gtr_b (b := 57) z z) z (ug z z (wY (Y.pick (b := false) z z) z (WL.ren (v' := vB ((decide (d < 48)) || (decide (57 < d)))) 34 z (congrArg vB (orF p)) (WL.ren 31 z (congrArg vB p.symm) ?_)))))))
          exact nl (At.join () z (.cons z (.cons z (.cons z (.cons z (.cons z (.cons z (.cons z (.cons z (.cons z .nil))))))))))
        ·rintro _ _ rfl
         refine (show WL _ _ _ _ _ [(4, vb d), (19, j), (20, vi (a0.length : Int)), (21, vi l), (28, vB true), (29, vb d), (30, vB (decide (d < 48))), (31, vB (decide (d < 48))), (34, vB ((decide (d < 48)) || (decide (57 < d))))] _ from ?_)
         refine wY (Y.pick (b := true) z z) z (WL.ren (v' := vB ((!e) && ((decide (d < 48)) || (decide (57 < d))))) 35 z (congrArg vB (andT F)) ?_)
         exact nl (At.join () z (.cons z (.cons z (.cons z (.cons z (.cons z .nil))))))
       ·refine WL.gS z z z z (WL.gS z z z z (WL.gS z z z z (WL.gS z z z z (WL.gS z z z z (WL.gS z z z z (wY (Y.pick (b := false) z z) z (WL.ren (v' := vB ((!e) && ((decide (d < 48)) || (decide (57 < d))))) 35 z (congrArg vB (andF F)) ?_)))))))
        exact nl (At.join () z (.cons z (.cons z (.cons z (.cons z (.cons z .nil))))))
      ·rintro _ _ rfl
       refine (show WL _ _ _ _ _ [(4, vb d), (19, j), (20, vi (a0.length : Int)), (21, vi l), (35, vB ((!e) && ((decide (d < 48)) || (decide (57 < d)))))] _ from ?_)
       refine wY (ym z) z ?_
       refine WL.cut 3 (σ := Unit) (fun _ w' => o = w') (fun _ => [(4, vb d), (19, j), (20, vi (a0.length : Int)), (21, vi l), (39, vB (((!e) && ((decide (d < 48)) || (decide (57 < d)))) && (!decide (d = 95))))]) ?_ ?_
       ·refine WL.part 36 z (fun G => ?_) (fun G => ?_)
        ·refine ug z z (wY (ym z) z (ug z z (wY (Y.neq_b (b := 95) z z) z (wY (Y.pick (b := true) z z) z (WL.ren (v' := vB (((!e) && ((decide (d < 48)) || (decide (57 < d)))) && (!decide (d = 95)))) 39 z (congrArg vB (andT G)) ?_)))))
         exact nl (At.join () z (.cons z (.cons z (.cons z (.cons z (.cons z .nil))))))
        ·refine WL.gS z z z z (WL.gS z z z z (wY (Y.pick (b := false) z z) z (WL.ren (v' := vB (((!e) && ((decide (d < 48)) || (decide (57 < d)))) && (!decide (d = 95)))) 39 z (congrArg vB (andF G)) ?_)))
         exact nl (At.join () z (.cons z (.cons z (.cons z (.cons z (.cons z .nil))))))
       ·rintro _ _ rfl
        refine (show WL _ _ _ _ _ [(4, vb d), (19, j), (20, vi (a0.length : Int)), (21, vi l), (39, vB (((!e) && ((decide (d < 48)) || (decide (57 < d)))) && (!decide (d = 95))))] _ from ?_)
        refine wY (ym z) z ?_
        refine WL.cut 3 (σ := Unit) (fun _ w' => o = w') (fun _ => [(19, j), (20, vi (a0.length : Int)), (21, vi l), (43, vB ((((!e) && ((decide (d < 48)) || (decide (57 < d)))) && (!decide (d = 95))) && (!decide (d = 46))))]) ?_ ?_
        ·refine WL.part 40 z (fun H => ?_) (fun H => ?_)
         ·refine ug z z (wY (ym z) z (ug z z (wY (Y.neq_b (b := 46) z z) z (wY (Y.pick (b := true) z z) z (WL.ren (v' := vB ((((!e) && ((decide (d < 48)) || (decide (57 < d)))) && (!decide (d = 95))) && (!decide (d = 46)))) 43 z (congrArg vB (andT H)) ?_)))))
          exact nl (At.join () z (.cons z (.cons z (.cons z (.cons z .nil)))))
         ·refine WL.gS z z z z (WL.gS z z z z (wY (Y.pick (b := false) z z) z (WL.ren (v' := vB ((((!e) && ((decide (d < 48)) || (decide (57 < d)))) && (!decide (d = 95))) && (!decide (d = 46)))) 43 z (congrArg vB (andF H)) ?_)))
          exact nl (At.join () z (.cons z (.cons z (.cons z (.cons z .nil)))))
        ·rintro _ _ rfl
         refine (show WL _ _ _ _ _ [(19, j), (20, vi (a0.length : Int)), (21, vi l), (43, vB ((((!e) && ((decide (d < 48)) || (decide (57 < d)))) && (!decide (d = 95))) && (!decide (d = 46))))] _ from ?_)
         refine nl (th ?_)
         rcases cnd h with ⟨I, h⟩ | ⟨I, h⟩
         ·refine WC.condT' z I (sq (rg (wY (ya z) z (nl (th (rt (At.inBlockR (At.thenR (At.loopR ?_)))))))))
          have h := outr1 h C Q
          refine At.joinBR (At.inBlockR (At.thenR ?_))
          obtain rfl := some1 h
          have au : Stp [] (Lg.O0 (fun _ => False)) w ac o := (tr_ (su_ n z) (tr_ (su_ J z) (tr_ (su_ m z) (su_ K z))))
          exact At.res (.inl z) z (.tmp z .nil) ⟨z, (se_ au z z)⟩
         ·refine WC.condF' z I (sk (At.inBlock (th (rg (wY (Y.add_i z z) z (wY (ym z) z (nl ?_)))))))
          exact At.round (w64 (l + 1), ac) aG (Nat.lt_succ_self _) ⟨next1 h C, (tr_ (su_ m z) (su_ K z))⟩ (.cons z (.cons z (.cons z .nil)))
     ·refine WC.condF' z D (WC.exit (At.thenX (At.loopX ?_)))
      exact At.hitB (σ := Own) ab ⟨brk1 h C, (su_ m z)⟩ .nil
    ·rintro aJ av ⟨rfl, W⟩
     replace h := flowK_go Q
     refine (show At _ _ _ [] _ from ?_)
     refine At.inBlockHit (th (sq (rg (wY (ya z) z (nl (th (rt ?_)))))))
     obtain rfl := some1 h
     have ax : Stp [] (Lg.O0 (fun _ => False)) w aJ av := (tr_ (su_ n z) (tr_ (su_ J z) (su_ W z)))
     exact At.res (.inl z) z (.tmp z .nil) ⟨z, (se_ ax z z)⟩
theorem c_label_isValue {a0 : List UInt8} {w : World} {r0 : Bool} (h : label_isValue a0 = some r0) : Rets Try.prog 73 [vs a0] w (fun v w' => v = vB r0 ∧ Ext w w') := by
 unfold label_isValue at h
 refine Rets.enter Try.func73 z z ?_
 refine (show WC _ _ _ _ [(0, vs a0)] _ from ?_)
 refine sq (rg (wY (ya z) z (nl (th (sq (sq (rg (wY (ym z) z (wY (Y.eql_s (b := []) z z) z ?_)))))))))
 refine wY (ym z) z ?_
 refine WL.cut 4 (σ := Unit) (fun _ w' => w = w') (fun _ => [(0, vs a0), (11, vB ((decide (a0 = [])) || (decide (32 < (a0.length : Int)))))]) ?_ ?_
 ·refine WL.part 7 z (fun l => ?_) (fun l => ?_)
  ·refine WL.gS z z z z (WL.gS z z z z (WL.gS z z z z (wY (Y.pick (b := true) z z) z (WL.ren (v' := vB ((decide (a0 = [])) || (decide (32 < (a0.length : Int))))) 11 z (congrArg vB (orT l)) ?_))))
   exact nl (At.join () z (.cons z (.cons z .nil)))
  ·refine ug z z (wY (ym z) z (ug z z (wY (Y.len_s ty9 z) z (ug z z (wY (Y.gtr_i z z) z (wY (Y.pick (b := false) z z) z (WL.ren (v' := vB ((decide (a0 = [])) || (decide (32 < (a0.length : Int))))) 11 z (congrArg vB (orF l)) ?_)))))))
   exact nl (At.join () z (.cons z (.cons z .nil)))
 ·rintro _ _ rfl
  refine (show WL _ _ _ _ _ [(0, vs a0), (11, vB ((decide (a0 = [])) || (decide (32 < (a0.length : Int)))))] _ from ?_)
  refine nl (th ?_)
  rcases cnd h with ⟨m, h⟩ | ⟨m, h⟩
  ·refine WC.condT' z m (sq (rg (wY (ya z) z (nl (th (rt (At.thenR ?_)))))))
   obtain rfl := some1 h
   have P : Stp [] (Lg.O0 (fun _ => False)) w (Lg.O0 (fun _ => False)) w := (sr_ _ _ _)
   exact At.res (.inl z) z (.tmp z .nil) ⟨z, (se_ P z z)⟩
  ·refine WC.condF' z m (sk (th (sq (sq (rg (wY (ym z) z (WL.s2b (O := (Lg.O0 (fun _ => False))) ty9 ty45 ty5 z z ?_)))))))
   intro e K d E F
   refine wY (Y.len ty45 z F) z (wY (ym z) z (nl (th (WC.block ?_))))
   obtain ⟨L, h, G⟩ := flow1 h
   obtain ⟨M, h⟩ := loop_some h
   refine WC.joinB 0 (σ := Unit) (fun x w' => L = .go () ∧ d = w') (fun x => []) ?_ ?_
   ·refine WC.loop (σ := Int) (fun x k w' => loopN k (label_isValue_lp1 a0) x = some L ∧ d = w') (fun x => [(13, e), (14, vi (a0.length : Int)), (15, vi x)]) 0 M (.cons z (.cons z (.cons z .nil))) ⟨h, z⟩ ?_
    rintro j M _ ⟨h, rfl⟩
    obtain ⟨ah, ax, rfl, h, n⟩ := rnd1 h
    unfold label_isValue_lp1 at h
    try dsimp only at h
    refine (show WC _ _ _ _ [(13, e), (14, vi (a0.length : Int)), (15, vi j)] _ from ?_)
    refine sq (rg (wY (Y.lss_i z z) z (nl (th (sq ?_)))))
    rcases cnd h with ⟨o, h⟩ | ⟨o, h⟩
    ·refine WC.condT' z o (sk (th (sq (WC.block (sq (rg ?_))))))
     obtain ⟨ai, Q, h⟩ := bnd h
     obtain ⟨ay, ar, au, av, S, T, U, p, I, W⟩ := Sl.at2 F Q
     obtain rfl := I
     replace p : CellsAt _ _ _ [vb ai] := p
     have J := CAt.frs p W
     refine wY (Y.indexAddr ty45 ty5 z S z T U) z (wY (yl ty5 z z J.at_) z (wY (ya z) z (nl (th ?_))))
     obtain ⟨aj, h, H⟩ := flow1 h
     refine WC.join (σ := Unit) (fun x w' => aj = .go () ∧ d = w') (fun x => [(13, e), (14, vi (a0.length : Int)), (15, vi j)]) ?_ ?_
     ·refine WC.block (sq ?_)
      obtain ⟨ak, h, X⟩ := bnd h
      refine WC.join (σ := Bool) (fun x w' => x = ak ∧ d = w') (fun x => [(13, e), (14, vi (a0.length : Int)), (15, vi j), (19, vB x)]) ?_ ?_
      ·refine sq (rg (wY (ym z) z (wY (Y.lss_b (b := 33) z z) z ?_)))
       obtain ⟨al, Z, h⟩ := lt1 h
       refine WL.yE (ya z) (congrArg vB Z.symm) z (nl (th ?_))
       rcases cnd h with ⟨q, h⟩ | ⟨q, h⟩
       ·refine WC.condT' z q (sk ?_)
        exact At.join (σ := Bool) al ⟨some1 h, z⟩ (.cons z (.cons z (.cons z (.cons z .nil))))
       ·refine WC.condF' z q (sq (rg (wY (ym z) z (wY (Y.gtr_b (b := 126) z z) z ?_))))
        obtain ⟨am, aa, h⟩ := lt1 h
        refine WL.yE (ya z) (congrArg vB aa.symm) z (nl (th ?_))
        rcases cnd h with ⟨r, h⟩ | ⟨r, h⟩
        ·refine WC.condT' z r (sk ?_)
         exact At.join (σ := Bool) am ⟨some1 h, z⟩ (.cons z (.cons z (.cons z (.cons z .nil))))
        ·refine WC.condF' z r (sq (rg (wY (ym z) z (wY (Y.eql_b (b := 61) z z) z ?_))))
         obtain ⟨an, ab, h⟩ := lt1 h
         refine WL.yE (ya z) (congrArg vB ab.symm) z (nl (th ?_))
         rcases cnd h with ⟨t, h⟩ | ⟨t, h⟩
         ·refine WC.condT' z t (sk ?_)
          exact At.join (σ := Bool) an ⟨some1 h, z⟩ (.cons z (.cons z (.cons z (.cons z .nil))))
         ·refine WC.condF' z t (sq (rg (wY (ym z) z (wY (Y.eql_b (b := 59) z z) z ?_))))
          obtain ⟨ao, ac, h⟩ := lt1 h
          refine WL.yE (ya z) (congrArg vB ac.symm) z (nl (th ?_))
          rcases cnd h with ⟨C, h⟩ | ⟨C, h⟩
          ·refine WC.condT' z C (sk ?_)
           exact At.join (σ := Bool) ao ⟨some1 h, z⟩ (.cons z (.cons z (.cons z (.cons z .nil))))
          ·refine WC.condF' z C (rg (wY (ym z) z (wY (Y.eql_b (b := 44) z z) z ?_)))
           obtain ⟨ap, ad, h⟩ := lt1 h
           refine WL.yE (ya z) (congrArg vB ad.symm) z (nl ?_)
           exact At.join (σ := Bool) ap ⟨some1 h, z⟩ (.cons z (.cons z (.cons z (.cons z .nil))))
      ·rintro aq _ ⟨rfl, rfl⟩
       replace h := X
       try dsimp only at h
       refine (show At _ _ _ [(13, e), (14, vi (a0.length : Int)), (15, vi j), (19, vB aq)] _ from ?_)
       refine th ?_
       rcases cnd h with ⟨D, h⟩ | ⟨D, h⟩
       ·refine WC.condT' z D (sq (rg (wY (ya z) z (nl (th (rt (At.inBlockR ?_)))))))
        have h := outs1 h H
        refine At.joinR (At.inBlockR (At.thenR (At.loopR ?_)))
        have h := outr1 h n G
        refine At.joinBR (At.inBlockR (At.thenR ?_))
        obtain rfl := some1 h
        have ae : Stp [] (Lg.O0 (fun _ => False)) w K d := (su_ E z)
        exact At.res (.inl z) z (.tmp z .nil) ⟨z, (se_ ae z z)⟩
       ·refine WC.condF' z D (sk (At.inBlock ?_))
        exact At.join (σ := Unit) () ⟨go2 h, z⟩ (.cons z (.cons z (.cons z .nil)))
     ·rintro _ _ ⟨rfl, rfl⟩
      replace h := flowK_go H
      refine (show At _ _ _ [(13, e), (14, vi (a0.length : Int)), (15, vi j)] _ from ?_)
      refine At.inBlock (th (rg (wY (Y.add_i z z) z (wY (ym z) z (nl ?_)))))
      exact At.round (w64 (j + 1)) ah (Nat.lt_succ_self _) ⟨next1 h n, z⟩ (.cons z (.cons z (.cons z .nil)))
    ·refine WC.condF' z o (WC.exit (At.thenX (At.loopX ?_)))
     exact At.hitB (σ := Unit) () ⟨brk1 h n, z⟩ .nil
   ·rintro _ _ ⟨rfl, rfl⟩
    replace h := flowK_go G
    refine (show At _ _ _ [] _ from ?_)
    refine At.inBlockHit (th (sq (rg (wY (ya z) z (nl (th (rt ?_)))))))
    obtain rfl := some1 h
    have af : Stp [] (Lg.O0 (fun _ => False)) w K d := (su_ E z)
    exact At.res (.inl z) z (.tmp z .nil) ⟨z, (se_ af z z)⟩
theorem c_label_Check {A : Nat → Prop} {a0 : List UInt8} {a1 : List api_Pair} {v1 : Value} {w : World} (hs1 : Sl rep_api_Pair w A v1 a1) {r0 : Int} (h : label_Check a0 a1 = some r0) : Rets Try.prog 37 [vs a0, v1] w (fun v w' => v = vi r0 ∧ Ext w w') := by
 unfold label_Check at h
 refine Rets.enter Try.func37 z z ?_
 have aZ : Sl rep_api_Pair w (imm (Lg.O0 A)) v1 a1 := (Sl.start hs1)
 refine (show WC _ _ _ _ [(0, vs a0), (1, v1)] _ from ?_)
 refine sq (rg (wY (ya z) z (nl (th (sq (sq (rg (wY (ym z) z ?_))))))))
 obtain ⟨ch, a2, h⟩ := bnd h
 refine WL.call (vals := [vs a0]) kok72 z z (c_label_isName a2) ?_
 rintro b6 H ⟨rfl, a3⟩
 obtain ⟨Q, bH, bI, l⟩ := adoptE (Lg.O0 A) (fun k => 1) a3
 refine wY (Y.not z) z (nl (th ?_))
 rcases cnd h with ⟨U, h⟩ | ⟨U, h⟩
 ·refine WC.condT' z U (sq (rg (wY (ya z) z (nl (th (rt (At.thenR ?_)))))))
  obtain rfl := some1 h
  have a4 : Stp [] (Lg.O0 A) w Q H := (su_ l z)
  exact At.res (.inl z) z (.tmp z .nil) ⟨z, (se_ a4 z z)⟩
 ·refine WC.condF' z U (sk (th (sq (sq (rg (wY (ym z) z ?_))))))
  have W := aZ.i l z z
  refine wY (Y.len ty25 z W) z (wY (Y.gtr_i z z) z (nl (th ?_)))
  rcases cnd h with ⟨X, h⟩ | ⟨X, h⟩
  ·refine WC.condT' z X (sq (rg (wY (ya z) z (nl (th (rt (At.thenR ?_)))))))
   obtain rfl := some1 h
   have a5 : Stp [] (Lg.O0 A) w Q H := (su_ l z)
   exact At.res (.inl z) z (.tmp z .nil) ⟨z, (se_ a5 z z)⟩
  ·refine WC.condF' z X (sk (th (sq (sq (rg (wY (ym z) z (wY (Y.len ty25 z W) z (wY (ym z) z (nl ?_)))))))))
   refine th (WC.block ?_)
   obtain ⟨aU, h, Z⟩ := flow1 h
   obtain ⟨aW, h⟩ := loop_some h
   refine WC.joinB 0 (σ := Own) (fun x w' => aU = .go () ∧ Stp [11] Q H x w') (fun x => []) ?_ ?_
   ·refine WC.loop (σ := (Int × Own)) (fun x k w' => loopN k (label_Check_lp1 a1) x.1 = some aU ∧ Stp [11] Q H x.2 w') (fun x => [(1, v1), (13, v1), (14, vi (a1.length : Int)), (15, vi x.1)]) (0, Q) aW (.cons z (.cons z (.cons z (.cons z .nil)))) ⟨h, (sr_ _ _ _)⟩ ?_
    rintro ⟨t, aX⟩ aW b7 ⟨h, m⟩
    obtain ⟨bJ, ci, rfl, h, I⟩ := rnd1 h
    unfold label_Check_lp1 at h
    try dsimp only at h m
    refine (show WC _ _ _ _ [(1, v1), (13, v1), (14, vi (a1.length : Int)), (15, vi t)] _ from ?_)
    refine sq (rg (wY (Y.lss_i z z) z (nl (th (sq ?_)))))
    rcases cnd h with ⟨aa, h⟩ | ⟨aa, h⟩
    ·refine WC.condT' z aa (sk (th (sq (WC.block (sq (rg (wY (ym z) z ?_)))))))
     obtain ⟨p, a6, h⟩ := bnd h
     have aj := W.i m z z
     obtain ⟨cj, bZ, b0, b8, a7, a8, a9, ab, av, ba⟩ := Sl.at2 aj a6
     obtain ⟨_, _, rfl, rfl, rfl⟩ := av
     replace ab : CellsAt _ _ _ [vs p.Key, vs p.Val] := ab
     have ax := CAt.imm ab ba
     refine wY (Y.indexAddr ty25 ty65 z a7 z a8 a9) z (wY (yL ty65 z z ax.at_ z) z (WL.alloc (O := aX) 11 [vs [], vs []] ty65 z z ?_))
     intro e bK b9 q bb
     refine wY (ya z) z (WL.store (v := ag [vs p.Key, vs p.Val]) (cells' := [vs p.Key, vs p.Val]) ty65 z z bb z (le_ z) z z ?_)
     intro ca r ac
     refine nl (th (sq (sq (rg (wY (yf fo65_0 z) z (wY (yl ty9 z z (ac.cell 0 _ z)) z ?_))))))
     obtain ⟨ck, bc, h⟩ := bnd h
     refine WL.call (vals := [vs p.Key]) kok72 z z (c_label_isName bc) ?_
     rintro cb bd ⟨rfl, bf⟩
     obtain ⟨ak, bL, bM, n⟩ := adoptE bK (fun k => 1) bf
     refine wY (Y.not z) z (wY (ym z) z ?_)
     obtain ⟨bO, h, bg⟩ := bnd h
     refine WL.cut 5 (σ := (Bool × Own)) (fun x w' => x.1 = bO ∧ Stp [] ak bd x.2 w') (fun x => [(1, v1), (5, vi t), (6, pt e 0), (13, v1), (14, vi (a1.length : Int)), (15, vi t), (29, vB x.1)]) ?_ ?_
     ·rcases cnd h with ⟨ad, h⟩ | ⟨ad, h⟩
      ·refine WL.ren 24 z (congrArg vB ad) (WL.gS z z z z (WL.gS z z z z (WL.gS z z z z (WL.gS z z z z (wY (Y.pick (b := true) z z) z ?_)))))
       exact nl (At.join (σ := (Bool × Own)) (true, ak) ⟨some1 h, (sr_ _ _ _)⟩ (.cons z (.cons z (.cons z (.cons z (.cons z (.cons z (.cons z .nil))))))))
      ·refine WL.ren 24 z (congrArg vB ad) (ug z z (wY (yf fo65_1 z) z (ug z z ?_)))
       have bh := ac.st n z
       refine wY (yl ty9 z z (bh.cell 1 _ z)) z (ug z z ?_)
       obtain ⟨bP, bi, h⟩ := bnd h
       refine WL.call (vals := [vs p.Val]) kok73 z z (c_label_isValue bi) ?_
       rintro cc cd ⟨rfl, bj⟩
       obtain ⟨bQ, bR, bS, ay⟩ := adoptE ak (fun k => 1) bj
       refine ug z z (wY (Y.not z) z (wY (Y.pick (b := false) z z) z ?_))
       exact nl (At.join (σ := (Bool × Own)) ((!bP), bQ) ⟨some1 h, (su_ ay z)⟩ (.cons z (.cons z (.cons z (.cons z (.cons z (.cons z (.cons z .nil))))))))
     ·rintro ⟨bT, F⟩ C ⟨rfl, o⟩
      replace h := bg
      try dsimp only at h o
      refine (show WL _ _ _ _ _ [(1, v1), (5, vi t), (6, pt e 0), (13, v1), (14, vi (a1.length : Int)), (15, vi t), (29, vB bT)] _ from ?_)
      refine nl (th ?_)
      rcases cnd h with ⟨ae, h⟩ | ⟨ae, h⟩
      ·refine WC.condT' z ae (sq (rg (wY (ya z) z (nl (th (rt (At.thenR (At.inBlockR (At.thenR ?_)))))))))
       refine At.loopR ?_
       have h := outr1 h I Z
       refine At.joinBR (At.inBlockR (At.thenR ?_))
       obtain rfl := some1 h
       have bk : Stp [11] (Lg.O0 A) w F C := (tr_ (su_ l z) (tr_ (su_ m z) (tr_ (su_ q z) (tr_ (su_ r z) (tr_ (su_ n z) (su_ o z))))))
       exact At.res (.inl z) z (.tmp z .nil) ⟨z, (se_ bk z z)⟩
      ·refine WC.condF' z ae (sk (th (sq (rg (wY (ym z) z (wY (ym z) z ?_))))))
       obtain ⟨al, bl, h⟩ := bnd h
       have bp := (((aj.i q z z).i r z z).i n z z).i o z z
       obtain ⟨G, bq, am⟩ := Sl.slice (ρ := [(30, v1), (31, vi t)]) (x := (.tmp 30)) (lo := none) (hi := (some (.tmp 31))) ty25 ty65 rfl rfl rfl bp bl
       refine wY (Y.sub (.cons z (.cons z .nil)) (bq _ _)) z (wY (Y.mkfunc (fv := []) (cv := [pt e 0]) z z) z ?_)
       obtain ⟨br, h, az⟩ := bnd h
       refine WL.callJ (vals := [G, Value.func (.func 75) (List.toArray []) (List.toArray [pt e 0])]) (σ := (Bool × Own)) (fun x w' => x.1 = br ∧ Stp [] F C x.2 w') (fun x => vB x.1) kok74 z z ?_ ?_
       ·refine Rets.enter Try.func74 z z ?_
        refine (show WC _ _ _ _ [(0, G), (1, Value.func (.func 75) (List.toArray []) (List.toArray [pt e 0]))] _ from ?_)
        refine sq (rg (wY (ya z) z (nl (th (sq (rg (wY (ym z) z (wY (ym z) z ?_))))))))
        obtain ⟨bs, h, aA⟩ := bnd h
        refine WL.callJ (vals := [G, Value.func (.func 75) (List.toArray []) (List.toArray [pt e 0])]) (σ := (Int × Own)) (fun x w' => x.1 = bs ∧ Stp [] F C x.2 w') (fun x => vi x.1) kok98 z z ?_ ?_
        ·refine Rets.enter Try.func98 z z ?_
         refine (show WC _ _ _ _ [(0, G), (1, Value.func (.func 75) (List.toArray []) (List.toArray [pt e 0]))] _ from ?_)
         refine sq (rg (wY (ya z) z (nl (th (sq (sq (rg (wY (ym z) z (wY (Y.len ty25 z am) z ?_)))))))))
         refine wY (ym z) z (nl (th (WC.block ?_)))
         obtain ⟨an, h, ai⟩ := flow1 h
         obtain ⟨ao, h⟩ := loop_some h
         refine WC.joinB 0 (σ := Own) (fun x w' => an = .go () ∧ Stp [] F C x w') (fun x => []) ?_ ?_
         ·refine WC.loop (σ := (Int × Own)) (fun x k w' => loopN k (label_Check_lp2 p al) x.1 = some an ∧ Stp [] F C x.2 w') (fun x => [(0, G), (1, Value.func (.func 75) (List.toArray []) (List.toArray [pt e 0])), (7, vi (al.length : Int)), (8, vi x.1)]) (0, F) ao (.cons z (.cons z (.cons z (.cons z .nil)))) ⟨h, (sr_ _ _ _)⟩ ?_
          rintro ⟨af, ah⟩ ao aC ⟨h, d⟩
          obtain ⟨bt, ce, rfl, h, J⟩ := rnd1 h
          unfold label_Check_lp2 at h
          try dsimp only at h d
          refine (show WC _ _ _ _ [(0, G), (1, Value.func (.func 75) (List.toArray []) (List.toArray [pt e 0])), (7, vi (al.length : Int)), (8, vi af)] _ from ?_)
          refine sq (rg (wY (Y.lss_i z z) z (nl (th (sq ?_)))))
          rcases cnd h with ⟨K, h⟩ | ⟨K, h⟩
          ·refine WC.condT' z K (sk (th (sq (WC.block (sq (rg (wY (ym z) z (wY (ya z) z (nl ?_)))))))))
           refine th (sq (rg (wY (ym z) z (wY (ym z) z (wY (ym z) z ?_)))))
           obtain ⟨j, aD, h⟩ := bnd h
           have aE := am.i d z z
           obtain ⟨cf, bU, bW, b1, aF, aG, aH, L, ap, aI⟩ := Sl.at2 aE aD
           obtain ⟨_, _, rfl, rfl, rfl⟩ := ap
           replace L : CellsAt _ _ _ [vs j.Key, vs j.Val] := L
           have aq := CAt.imm L aI
           refine wY (Y.indexAddr ty25 ty65 z aF z aG aH) z (wY (yL ty65 z z aq.at_ z) z ?_)
           obtain ⟨bu, h, aJ⟩ := bnd h
           refine WL.callV (fv := []) (cv := [pt e 0]) (vals := [ag [vs j.Key, vs j.Val]]) (σ := (Bool × Own)) (fun x w' => x.1 = bu ∧ Stp [] ah aC x.2 w') (fun x => vB x.1) kok75 z z z ?_ ?_
           ·refine Rets.enter Try.func75 z z ?_
            refine (show WC _ _ _ _ [(0, ag [vs j.Key, vs j.Val]), (1, pt e 0)] _ from ?_)
            refine sq (rg (WL.box (O := ah) 12 [vs j.Key, vs j.Val] z z z ?_))
            intro cg bw b2 S aK
            refine wY (ya z) z (nl (th (sq (rg (wY (yf fo65_0 z) z (wY (yl ty9 z z (aK.cell 0 _ z)) z (wY (yf fo65_0 z) z ?_)))))))
            have aO := (((ac.st n z).st o z).st d z).st S z
            refine wY (yl ty9 z z (aO.cell 0 _ z)) z (wY (Y.eql_s z z) z ?_)
            obtain ⟨bx, aP, h⟩ := lt1 h
            refine WL.yE (ya z) (congrArg vB aP.symm) z (nl (th (rt ?_)))
            exact At.res (.inl z) z (.tmp z .nil) ⟨(bx, bw), ⟨some1 h, (su_ S z)⟩, z⟩
           ·rintro ⟨bz, ar⟩ b3 ⟨rfl, D⟩
            replace h := aJ
            try dsimp only at h D
            refine (show WL _ _ _ _ _ ((16, vB bz) :: _) _ from ?_)
            refine nl (th ?_)
            rcases cnd h with ⟨M, h⟩ | ⟨M, h⟩
            ·refine WC.condT' z M (sq (rg (wY (ym z) z (wY (ya z) z (nl (th (rt (At.inBlockR (At.thenR ?_)))))))))
             refine At.loopR ?_
             have h := outr1 h J ai
             refine At.joinBR (At.inBlockR (At.thenR ?_))
             exact At.res (.inl z) z (.tmp z .nil) ⟨(af, ar), ⟨some1 h, (tr_ (su_ d z) (su_ D z))⟩, z⟩
            ·refine WC.condF' z M (sk (At.inBlock (th (rg (wY (Y.add_i z z) z (wY (ym z) z (nl ?_)))))))
             exact At.round (w64 (af + 1), ar) bt (Nat.lt_succ_self _) ⟨next1 h J, (tr_ (su_ d z) (su_ D z))⟩ (.cons z (.cons z (.cons z (.cons z .nil))))
          ·refine WC.condF' z K (WC.exit (At.thenX (At.loopX ?_)))
           exact At.hitB (σ := Own) ah ⟨brk1 h J, (su_ d z)⟩ .nil
         ·rintro bA b4 ⟨rfl, au⟩
          replace h := flowK_go ai
          refine (show At _ _ _ [] _ from ?_)
          refine At.inBlockHit (th (sq (rg (wY (ya z) z (nl (th (rt ?_)))))))
          exact At.res (.inl z) z (.tmp z .nil) ⟨((-1), bA), ⟨some1 h, (su_ au z)⟩, z⟩
        ·rintro ⟨bB, bC⟩ b5 ⟨rfl, T⟩
         replace h := aA
         try dsimp only at h T
         refine (show WL _ _ _ _ _ ((7, vi bB) :: _) _ from ?_)
         refine wY (Y.geq_i z z) z ?_
         obtain ⟨bD, aQ, h⟩ := lt1 h
         refine WL.yE (ya z) (congrArg vB aQ.symm) z (nl (th (rt ?_)))
         exact At.res (.inl z) z (.tmp z .nil) ⟨(bD, bC), ⟨some1 h, (su_ T z)⟩, z⟩
       ·rintro ⟨bX, aY⟩ bE ⟨rfl, E⟩
        replace h := az
        try dsimp only at h E
        refine (show WL _ _ _ _ _ ((34, vB bX) :: _) _ from ?_)
        refine nl (th ?_)
        rcases cnd h with ⟨P, h⟩ | ⟨P, h⟩
        ·refine WC.condT' z P (sq (rg (wY (ya z) z (nl (th (rt (At.inBlockR (At.thenR (At.loopR ?_)))))))))
         have h := outr1 h I Z
         refine At.joinBR (At.inBlockR (At.thenR ?_))
         obtain rfl := some1 h
         have aR : Stp [11] (Lg.O0 A) w aY bE := (tr_ (su_ l z) (tr_ (su_ m z) (tr_ (su_ q z) (tr_ (su_ r z) (tr_ (su_ n z) (tr_ (su_ o z) (su_ E z)))))))
         exact At.res (.inl z) z (.tmp z .nil) ⟨z, (se_ aR z z)⟩
        ·refine WC.condF' z P (sk (At.inBlock (th (rg (wY (Y.add_i z z) z (wY (ym z) z (nl ?_)))))))
         exact At.round (w64 (t + 1), aY) bJ (Nat.lt_succ_self _) ⟨next1 h I, (tr_ (su_ m z) (tr_ (su_ q z) (tr_ (su_ r z) (tr_ (su_ n z) (tr_ (su_ o z) (su_ E z))))))⟩ (.cons z (.cons z (.cons z (.cons z .nil))))
    ·refine WC.condF' z aa (WC.exit (At.thenX (At.loopX ?_)))
     exact At.hitB (σ := Own) aX ⟨brk1 h I, (su_ m z)⟩ .nil
   ·rintro bY bG ⟨rfl, aS⟩
    replace h := flowK_go Z
    refine (show At _ _ _ [] _ from ?_)
    refine At.inBlockHit (th (sq (rg (wY (ya z) z (nl (th (rt ?_)))))))
    obtain rfl := some1 h
    have aT : Stp [11] (Lg.O0 A) w bY bG := (tr_ (su_ l z) (su_ aS z))
    exact At.res (.inl z) z (.tmp z .nil) ⟨z, (se_ aT z z)⟩
theorem c_point_kinds {A : Nat → Prop} {v0_1 : Value} {v0_13 : Value} {v0_15 : Value} {a0 : api_Point} {w : World} (hs0_1 : Sl rep_api_Pair w A v0_1 a0.Attrs) (hs0_13 : Sl Rep.u w A v0_13 a0.Hist.Pos.Counts) (hs0_15 : Sl Rep.u w A v0_15 a0.Hist.Neg.Counts) {r0 : Bool} (h : point_kinds a0 = some r0) : Rets Try.prog 38 [ag (cp a0 v0_1 v0_13 v0_15)] w (fun v w' => v = vB r0 ∧ Ext w w') := by
 unfold point_kinds at h
 refine Rets.enter Try.func38 z z ?_
 have C : Sl rep_api_Pair w (imm (Lg.O0 A)) v0_1 a0.Attrs := (Sl.start hs0_1)
 have D : Sl Rep.u w (imm (Lg.O0 A)) v0_13 a0.Hist.Pos.Counts := (Sl.start hs0_13)
 have E : Sl Rep.u w (imm (Lg.O0 A)) v0_15 a0.Hist.Neg.Counts := (Sl.start hs0_15)
 refine (show WC _ _ _ _ [(0, ag (cp a0 v0_1 v0_13 v0_15))] _ from ?_)
 refine sq (rg ?_)
 have F := h
 obtain ⟨X, Z, aa, rfl⟩ := C.shape
 have h := F
 have G := h
 obtain ⟨ab, ac, ad, rfl⟩ := D.shape
 have h := G
 have H := h
 obtain ⟨ae, af, ah, rfl⟩ := E.shape
 have h := H
 refine WL.box (O := (Lg.O0 A)) 11 (cp a0 (vl X Z aa) (vl ab ac ad) (vl ae af ah)) z z z ?_
 intro t r d e j
 refine wY (ya z) z (nl (th (sq (sq (rg (wY (yf fo33_2 z) z (wY (yl ty3 z z (j.cell 2 _ z)) z (nl (th ?_)))))))))
 refine WC.block (sq (rg (wY (Y.eql_i z z) z ?_)))
 obtain ⟨t31, I, h⟩ := lt1 h
 refine WL.yE (ya z) (congrArg vB I.symm) z (nl (th ?_))
 rcases cnd h with ⟨l, h⟩ | ⟨l, h⟩
 ·refine WC.condT' z l (sq (rg (wY (yf fo33_3 z) z (wY (yl ty3 z z (j.cell 3 _ z)) z (wY (Y.eql_i z z) z ?_)))))
  obtain ⟨ao, J, h⟩ := lt1 h
  refine WL.yE (ya z) (congrArg vB J.symm) z (nl (th (rt (At.inBlockR (At.thenR ?_)))))
  obtain rfl := some1 h
  have K : Stp [] (Lg.O0 A) w r d := (su_ e z)
  exact At.res (.inl z) z (.tmp z .nil) ⟨z, (se_ K z z)⟩
 ·refine WC.condF' z l (sq ?_)
  obtain ⟨ai, h, L⟩ := bnd h
  refine WC.join (σ := Bool) (fun x w' => x = ai ∧ d = w') (fun x => [(1, pt t 0), (10, vB x)]) ?_ ?_
  ·refine sq (rg (wY (Y.eql_i z z) z ?_))
   obtain ⟨aj, M, h⟩ := lt1 h
   refine WL.yE (ya z) (congrArg vB M.symm) z (nl (th ?_))
   rcases cnd h with ⟨m, h⟩ | ⟨m, h⟩
   ·refine WC.condT' z m (sk ?_)
    exact At.join (σ := Bool) aj ⟨some1 h, z⟩ (.cons z (.cons z .nil))
   ·refine WC.condF' z m (sq (rg (wY (Y.eql_i z z) z ?_)))
    obtain ⟨ak, P, h⟩ := lt1 h
    refine WL.yE (ya z) (congrArg vB P.symm) z (nl (th ?_))
    rcases cnd h with ⟨n, h⟩ | ⟨n, h⟩
    ·refine WC.condT' z n (sk ?_)
     exact At.join (σ := Bool) ak ⟨some1 h, z⟩ (.cons z (.cons z .nil))
    ·refine WC.condF' z n (sq (rg (wY (Y.eql_i z z) z ?_)))
     obtain ⟨al, Q, h⟩ := lt1 h
     refine WL.yE (ya z) (congrArg vB Q.symm) z (nl (th ?_))
     rcases cnd h with ⟨o, h⟩ | ⟨o, h⟩
     ·refine WC.condT' z o (sk ?_)
      exact At.join (σ := Bool) al ⟨some1 h, z⟩ (.cons z (.cons z .nil))
     ·refine WC.condF' z o (rg (wY (Y.eql_i z z) z ?_))
      obtain ⟨am, S, h⟩ := lt1 h
      refine WL.yE (ya z) (congrArg vB S.symm) z (nl ?_)
      exact At.join (σ := Bool) am ⟨some1 h, z⟩ (.cons z (.cons z .nil))
  ·rintro an _ ⟨rfl, rfl⟩
   replace h := L
   try dsimp only at h
   refine (show At _ _ _ [(1, pt t 0), (10, vB an)] _ from ?_)
   refine th ?_
   rcases cnd h with ⟨p, h⟩ | ⟨p, h⟩
   ·refine WC.condT' z p (sq (rg (wY (yf fo33_3 z) z (wY (yl ty3 z z (j.cell 3 _ z)) z (wY (Y.eql_i z z) z (wY (ym z) z ?_))))))
    refine WL.cut 4 (σ := Unit) (fun _ w' => d = w') (fun _ => [(22, vB ((decide (a0.Temp = 1)) || (decide (a0.Temp = 2))))]) ?_ ?_
    ·refine WL.part 18 z (fun q => ?_) (fun q => ?_)
     ·refine WL.gS z z z z (WL.gS z z z z (WL.gS z z z z (wY (Y.pick (b := true) z z) z (WL.ren (v' := vB ((decide (a0.Temp = 1)) || (decide (a0.Temp = 2)))) 22 z (congrArg vB (orT q)) ?_))))
      exact nl (At.join () z (.cons z .nil))
     ·refine ug z z (wY (yf fo33_3 z) z (ug z z (wY (yl ty3 z z (j.cell 3 _ z)) z (ug z z (wY (Y.eql_i z z) z (wY (Y.pick (b := false) z z) z (WL.ren (v' := vB ((decide (a0.Temp = 1)) || (decide (a0.Temp = 2)))) 22 z (congrArg vB (orF q)) ?_)))))))
      exact nl (At.join () z (.cons z .nil))
    ·rintro _ _ rfl
     refine (show WL _ _ _ _ _ [(22, vB ((decide (a0.Temp = 1)) || (decide (a0.Temp = 2))))] _ from ?_)
     obtain ⟨ap, T, h⟩ := lt1 h
     refine WL.yE (ya z) (congrArg vB T.symm) z (nl (th (rt (At.inBlockR (At.thenR ?_)))))
     obtain rfl := some1 h
     have U : Stp [] (Lg.O0 A) w r d := (su_ e z)
     exact At.res (.inl z) z (.tmp z .nil) ⟨z, (se_ U z z)⟩
   ·refine WC.condF' z p (sk (At.inBlock (th (sq (rg (wY (ya z) z (nl (th (rt ?_)))))))))
    obtain rfl := some1 h
    have W : Stp [] (Lg.O0 A) w r d := (su_ e z)
    exact At.res (.inl z) z (.tmp z .nil) ⟨z, (se_ W z z)⟩
theorem c_point_sum {A : Nat → Prop} {v0_1 : Value} {v0_13 : Value} {v0_15 : Value} {a0 : api_Point} {w : World} (hs0_1 : Sl rep_api_Pair w A v0_1 a0.Attrs) (hs0_13 : Sl Rep.u w A v0_13 a0.Hist.Pos.Counts) (hs0_15 : Sl Rep.u w A v0_15 a0.Hist.Neg.Counts) {r0 : Bool} (h : point_sum a0 = some r0) : Rets Try.prog 39 [ag (cp a0 v0_1 v0_13 v0_15)] w (fun v w' => v = vB r0 ∧ Ext w w') := by
 unfold point_sum at h
 refine Rets.enter Try.func39 z z ?_
 have m : Sl rep_api_Pair w (imm (Lg.O0 A)) v0_1 a0.Attrs := (Sl.start hs0_1)
 have n : Sl Rep.u w (imm (Lg.O0 A)) v0_13 a0.Hist.Pos.Counts := (Sl.start hs0_13)
 have o : Sl Rep.u w (imm (Lg.O0 A)) v0_15 a0.Hist.Neg.Counts := (Sl.start hs0_15)
 refine (show WC _ _ _ _ [(0, ag (cp a0 v0_1 v0_13 v0_15))] _ from ?_)
 refine sq (rg ?_)
 have p := h
 obtain ⟨D, E, F, rfl⟩ := m.shape
 have h := p
 have q := h
 obtain ⟨G, H, I, rfl⟩ := n.shape
 have h := q
 have r := h
 obtain ⟨J, K, L, rfl⟩ := o.shape
 have h := r
 refine WL.box (O := (Lg.O0 A)) 11 (cp a0 (vl D E F) (vl G H I) (vl J K L)) z z z ?_
 intro P M e l j
 refine wY (ya z) z (nl (th (sq (rg (wY (yf fo33_2 z) z (wY (yl ty3 z z (j.cell 2 _ z)) z (wY (Y.eql_i z z) z (wY (ym z) z ?_))))))))
 refine WL.cut 4 (σ := Unit) (fun _ w' => e = w') (fun _ => [(10, vB ((decide (a0.Kind = 1)) || (decide (a0.Kind = 2))))]) ?_ ?_
 ·refine WL.part 6 z (fun d => ?_) (fun d => ?_)
  ·refine WL.gS z z z z (WL.gS z z z z (WL.gS z z z z (wY (Y.pick (b := true) z z) z (WL.ren (v' := vB ((decide (a0.Kind = 1)) || (decide (a0.Kind = 2)))) 10 z (congrArg vB (orT d)) ?_))))
   exact nl (At.join () z (.cons z .nil))
  ·refine ug z z (wY (yf fo33_2 z) z (ug z z (wY (yl ty3 z z (j.cell 2 _ z)) z (ug z z (wY (Y.eql_i z z) z (wY (Y.pick (b := false) z z) z (WL.ren (v' := vB ((decide (a0.Kind = 1)) || (decide (a0.Kind = 2)))) 10 z (congrArg vB (orF d)) ?_)))))))
   exact nl (At.join () z (.cons z .nil))
 ·rintro _ _ rfl
  refine (show WL _ _ _ _ _ [(10, vB ((decide (a0.Kind = 1)) || (decide (a0.Kind = 2))))] _ from ?_)
  obtain ⟨Q, t, h⟩ := lt1 h
  refine WL.yE (ya z) (congrArg vB t.symm) z (nl (th (rt ?_)))
  obtain rfl := some1 h
  have C : Stp [] (Lg.O0 A) w M e := (su_ l z)
  exact At.res (.inl z) z (.tmp z .nil) ⟨z, (se_ C z z)⟩
theorem c_point_times {A : Nat → Prop} {v0_1 : Value} {v0_13 : Value} {v0_15 : Value} {a0 : api_Point} {w : World} (hs0_1 : Sl rep_api_Pair w A v0_1 a0.Attrs) (hs0_13 : Sl Rep.u w A v0_13 a0.Hist.Pos.Counts) (hs0_15 : Sl Rep.u w A v0_15 a0.Hist.Neg.Counts) {r0 : Bool} (h : point_times a0 = some r0) : Rets Try.prog 40 [ag (cp a0 v0_1 v0_13 v0_15)] w (fun v w' => v = vB r0 ∧ Ext w w') := by
 unfold point_times at h
 refine Rets.enter Try.func40 z z ?_
 have q : Sl rep_api_Pair w (imm (Lg.O0 A)) v0_1 a0.Attrs := (Sl.start hs0_1)
 have r : Sl Rep.u w (imm (Lg.O0 A)) v0_13 a0.Hist.Pos.Counts := (Sl.start hs0_13)
 have t : Sl Rep.u w (imm (Lg.O0 A)) v0_15 a0.Hist.Neg.Counts := (Sl.start hs0_15)
 refine (show WC _ _ _ _ [(0, ag (cp a0 v0_1 v0_13 v0_15))] _ from ?_)
 refine sq (rg ?_)
 have C := h
 obtain ⟨K, L, M, rfl⟩ := q.shape
 have h := C
 have D := h
 obtain ⟨P, Q, S, rfl⟩ := r.shape
 have h := D
 have E := h
 obtain ⟨T, U, W, rfl⟩ := t.shape
 have h := E
 refine WL.box (O := (Lg.O0 A)) 11 (cp a0 (vl K L M) (vl P Q S) (vl T U W)) z z z ?_
 intro p o e j d
 refine wY (ya z) z (nl (th (sq (sq (rg (wY (yf fo33_5 z) z (wY (yl ty3 z z (d.cell 5 _ z)) z (wY (Y.lss_i z z) z (wY (ym z) z ?_)))))))))
 refine WL.cut 4 (σ := Unit) (fun _ w' => e = w') (fun _ => [(1, pt p 0), (10, vB ((decide (a0.Start < 0)) || (decide (4503599627370496 < a0.Time))))]) ?_ ?_
 ·refine WL.part 6 z (fun l => ?_) (fun l => ?_)
  ·refine WL.gS z z z z (WL.gS z z z z (WL.gS z z z z (wY (Y.pick (b := true) z z) z (WL.ren (v' := vB ((decide (a0.Start < 0)) || (decide (4503599627370496 < a0.Time)))) 10 z (congrArg vB (orT l)) ?_))))
   exact nl (At.join () z (.cons z (.cons z .nil)))
  ·refine ug z z (wY (yf fo33_6 z) z (ug z z (wY (yl ty3 z z (d.cell 6 _ z)) z (ug z z (wY (Y.gtr_i z z) z (wY (Y.pick (b := false) z z) z (WL.ren (v' := vB ((decide (a0.Start < 0)) || (decide (4503599627370496 < a0.Time)))) 10 z (congrArg vB (orF l)) ?_)))))))
   exact nl (At.join () z (.cons z (.cons z .nil)))
 ·rintro _ _ rfl
  refine (show WL _ _ _ _ _ [(1, pt p 0), (10, vB ((decide (a0.Start < 0)) || (decide (4503599627370496 < a0.Time))))] _ from ?_)
  refine nl (th ?_)
  rcases cnd h with ⟨m, h⟩ | ⟨m, h⟩
  ·refine WC.condT' z m (sq (rg (wY (ya z) z (nl (th (rt (At.thenR ?_)))))))
   obtain rfl := some1 h
   have F : Stp [] (Lg.O0 A) w o e := (su_ j z)
   exact At.res (.inl z) z (.tmp z .nil) ⟨z, (se_ F z z)⟩
  ·refine WC.condF' z m (sk (th (sq (sq (rg (wY (yf fo33_2 z) z (wY (yl ty3 z z (d.cell 2 _ z)) z (wY (Y.eql_i z z) z (nl ?_)))))))))
   refine th ?_
   rcases cnd h with ⟨n, h⟩ | ⟨n, h⟩
   ·refine WC.condT' z n (sq (rg (wY (yf fo33_5 z) z (wY (yl ty3 z z (d.cell 5 _ z)) z (wY (yf fo33_6 z) z (wY (yl ty3 z z (d.cell 6 _ z)) z (wY (Y.eql_i z z) z ?_)))))))
    obtain ⟨X, G, h⟩ := lt1 h
    refine WL.yE (ya z) (congrArg vB G.symm) z (nl (th (rt (At.thenR ?_))))
    obtain rfl := some1 h
    have H : Stp [] (Lg.O0 A) w o e := (su_ j z)
    exact At.res (.inl z) z (.tmp z .nil) ⟨z, (se_ H z z)⟩
   ·refine WC.condF' z n (sk (th (sq (rg (wY (yf fo33_5 z) z (wY (yl ty3 z z (d.cell 5 _ z)) z (wY (yf fo33_6 z) z (wY (yl ty3 z z (d.cell 6 _ z)) z (wY (Y.lss_i z z) z ?_)))))))))
    obtain ⟨Z, I, h⟩ := lt1 h
    refine WL.yE (ya z) (congrArg vB I.symm) z (nl (th (rt ?_)))
    obtain rfl := some1 h
    have J : Stp [] (Lg.O0 A) w o e := (su_ j z)
    exact At.res (.inl z) z (.tmp z .nil) ⟨z, (se_ J z z)⟩
theorem c_point_bare {A : Nat → Prop} {v0_3 : Value} {v0_5 : Value} {a0 : api_Hist} {w : World} (hs0_3 : Sl Rep.u w A v0_3 a0.Pos.Counts) (hs0_5 : Sl Rep.u w A v0_5 a0.Neg.Counts) {r0 : Bool} (h : point_bare a0 = some r0) : Rets Try.prog 76 [ag (hl a0 v0_3 v0_5)] w (fun v w' => v = vB r0 ∧ Ext w w') := by
 unfold point_bare at h
 refine Rets.enter Try.func76 z z ?_
 have q : Sl Rep.u w (imm (Lg.O0 A)) v0_3 a0.Pos.Counts := (Sl.start hs0_3)
 have r : Sl Rep.u w (imm (Lg.O0 A)) v0_5 a0.Neg.Counts := (Sl.start hs0_5)
 refine (show WC _ _ _ _ [(0, ag (hl a0 v0_3 v0_5))] _ from ?_)
 refine sq (rg ?_)
 have t := h
 obtain ⟨H, I, J, rfl⟩ := q.shape
 have h := t
 have C := h
 obtain ⟨K, L, M, rfl⟩ := r.shape
 have h := C
 refine WL.box (O := (Lg.O0 A)) 11 (hl a0 (vl H I J) (vl K L M)) z z z ?_
 intro j P e l d
 refine wY (ya z) z (nl (th (sq (rg (wY (yf fo31_0 z) z (wY (yl ty3 z z (d.cell 0 _ z)) z (wY (Y.eql_i z z) z (wY (ym z) z ?_))))))))
 refine WL.cut 4 (σ := Unit) (fun _ w' => e = w') (fun _ => [(1, pt j 0), (10, vB ((decide (a0.Scale = 0)) && (decide (a0.Zero = 0))))]) ?_ ?_
 ·refine WL.part 6 z (fun m => ?_) (fun m => ?_)
  ·refine ug z z (wY (yf fo31_1 z) z (ug z z (wY (yl ty26 z z (d.cell 1 _ z)) z (ug z z (wY (Y.eql_u (b := 0) z z) z (wY (Y.pick (b := true) z z) z (WL.ren (v' := vB ((decide (a0.Scale = 0)) && (decide (a0.Zero = 0)))) 10 z (congrArg vB (andT m)) ?_)))))))
   exact nl (At.join () z (.cons z (.cons z .nil)))
  ·refine WL.gS z z z z (WL.gS z z z z (WL.gS z z z z (wY (Y.pick (b := false) z z) z (WL.ren (v' := vB ((decide (a0.Scale = 0)) && (decide (a0.Zero = 0)))) 10 z (congrArg vB (andF m)) ?_))))
   exact nl (At.join () z (.cons z (.cons z .nil)))
 ·rintro _ _ rfl
  refine (show WL _ _ _ _ _ [(1, pt j 0), (10, vB ((decide (a0.Scale = 0)) && (decide (a0.Zero = 0))))] _ from ?_)
  refine wY (ym z) z ?_
  refine WL.cut 5 (σ := Unit) (fun _ w' => e = w') (fun _ => [(1, pt j 0), (16, vB (((decide (a0.Scale = 0)) && (decide (a0.Zero = 0))) && (decide (a0.Pos.Offset = 0))))]) ?_ ?_
  ·refine WL.part 11 z (fun n => ?_) (fun n => ?_)
   ·refine ug z z (wY (yf fo31_2 z) z (ug z z (wY (yf fo29_0 z) z (ug z z (wY (yl ty3 z z (d.cell 2 _ z)) z (ug z z (wY (Y.eql_i z z) z (wY (Y.pick (b := true) z z) z (WL.ren (v' := vB (((decide (a0.Scale = 0)) && (decide (a0.Zero = 0))) && (decide (a0.Pos.Offset = 0)))) 16 z (congrArg vB (andT n)) ?_)))))))))
    exact nl (At.join () z (.cons z (.cons z .nil)))
   ·refine WL.gS z z z z (WL.gS z z z z (WL.gS z z z z (WL.gS z z z z (wY (Y.pick (b := false) z z) z (WL.ren (v' := vB (((decide (a0.Scale = 0)) && (decide (a0.Zero = 0))) && (decide (a0.Pos.Offset = 0)))) 16 z (congrArg vB (andF n)) ?_)))))
    exact nl (At.join () z (.cons z (.cons z .nil)))
  ·rintro _ _ rfl
   refine (show WL _ _ _ _ _ [(1, pt j 0), (16, vB (((decide (a0.Scale = 0)) && (decide (a0.Zero = 0))) && (decide (a0.Pos.Offset = 0))))] _ from ?_)
   refine wY (ym z) z ?_
   refine WL.cut 5 (σ := Unit) (fun _ w' => e = w') (fun _ => [(1, pt j 0), (22, vB ((((decide (a0.Scale = 0)) && (decide (a0.Zero = 0))) && (decide (a0.Pos.Offset = 0))) && (decide (a0.Neg.Offset = 0))))]) ?_ ?_
   ·refine WL.part 17 z (fun o => ?_) (fun o => ?_)
    ·refine ug z z (wY (yf fo31_3 z) z (ug z z (wY (yf fo29_0 z) z (ug z z (wY (yl ty3 z z (d.cell 4 _ z)) z (ug z z (wY (Y.eql_i z z) z (wY (Y.pick (b := true) z z) z (WL.ren (v' := vB ((((decide (a0.Scale = 0)) && (decide (a0.Zero = 0))) && (decide (a0.Pos.Offset = 0))) && (decide (a0.Neg.Offset = 0)))) 22 z (congrArg vB (andT o)) ?_)))))))))
     exact nl (At.join () z (.cons z (.cons z .nil)))
    ·refine WL.gS z z z z (WL.gS z z z z (WL.gS z z z z (WL.gS z z z z (wY (Y.pick (b := false) z z) z (WL.ren (v' := vB ((((decide (a0.Scale = 0)) && (decide (a0.Zero = 0))) && (decide (a0.Pos.Offset = 0))) && (decide (a0.Neg.Offset = 0)))) 22 z (congrArg vB (andF o)) ?_)))))
     exact nl (At.join () z (.cons z (.cons z .nil)))
   ·rintro _ _ rfl
    refine (show WL _ _ _ _ _ [(1, pt j 0), (22, vB ((((decide (a0.Scale = 0)) && (decide (a0.Zero = 0))) && (decide (a0.Pos.Offset = 0))) && (decide (a0.Neg.Offset = 0))))] _ from ?_)
    refine wY (ym z) z ?_
    refine WL.cut 11 (σ := Unit) (fun _ w' => e = w') (fun _ => [(34, vB (((((decide (a0.Scale = 0)) && (decide (a0.Zero = 0))) && (decide (a0.Pos.Offset = 0))) && (decide (a0.Neg.Offset = 0))) && (decide (w64 ((a0.Pos.Counts.length : Int) + (a0.Neg.Counts.length : Int)) = 0))))]) ?_ ?_
    ·refine WL.part 23 z (fun p => ?_) (fun p => ?_)
     ·refine ug z z (wY (yf fo31_2 z) z (ug z z (wY (yf fo29_1 z) z (ug z z (wY (yl ty27 z z (d.cell 3 _ z)) z (ug z z ?_))))))
      have D := q.i l z z
      refine wY (Y.len ty27 z D) z (ug z z (wY (yf fo31_3 z) z (ug z z (wY (yf fo29_1 z) z (ug z z (wY (yl ty27 z z (d.cell 5 _ z)) z (ug z z ?_)))))))
      have E := r.i l z z
      refine wY (Y.len ty27 z E) z (ug z z (wY (Y.add_i z z) z (ug z z (wY (Y.eql_i z z) z (wY (Y.pick (b := true) z z) z (WL.ren (v' := vB (((((decide (a0.Scale = 0)) && (decide (a0.Zero = 0))) && (decide (a0.Pos.Offset = 0))) && (decide (a0.Neg.Offset = 0))) && (decide (w64 ((a0.Pos.Counts.length : Int) + (a0.Neg.Counts.length : Int)) = 0)))) 34 z (congrArg vB (andT p)) ?_))))))
      exact nl (At.join () z (.cons z .nil))
     ·refine WL.gS z z z z (WL.gS z z z z (WL.gS z z z z (WL.gS z z z z (WL.gS z z z z (WL.gS z z z z (WL.gS z z z z (WL.gS z z z z (WL.gS z z z z (WL.gS z z z z ?_)))))))))
      refine wY (Y.pick (b := false) z z) z (WL.ren (v' := vB (((((decide (a0.Scale = 0)) && (decide (a0.Zero = 0))) && (decide (a0.Pos.Offset = 0))) && (decide (a0.Neg.Offset = 0))) && (decide (w64 ((a0.Pos.Counts.length : Int) + (a0.Neg.Counts.length : Int)) = 0)))) 34 z (congrArg vB (andF p)) ?_)
      exact nl (At.join () z (.cons z .nil))
    ·rintro _ _ rfl
     refine (show WL _ _ _ _ _ [(34, vB (((((decide (a0.Scale = 0)) && (decide (a0.Zero = 0))) && (decide (a0.Pos.Offset = 0))) && (decide (a0.Neg.Offset = 0))) && (decide (w64 ((a0.Pos.Counts.length : Int) + (a0.Neg.Counts.length : Int)) = 0))))] _ from ?_)
     obtain ⟨Q, F, h⟩ := lt1 h
     refine WL.yE (ya z) (congrArg vB F.symm) z (nl (th (rt ?_)))
     obtain rfl := some1 h
     have G : Stp [] (Lg.O0 A) w P e := (su_ l z)
     exact At.res (.inl z) z (.tmp z .nil) ⟨z, (se_ G z z)⟩
theorem c_point_own {A : Nat → Prop} {v0_1 : Value} {v0_13 : Value} {v0_15 : Value} {a0 : api_Point} {w : World} (hs0_1 : Sl rep_api_Pair w A v0_1 a0.Attrs) (hs0_13 : Sl Rep.u w A v0_13 a0.Hist.Pos.Counts) (hs0_15 : Sl Rep.u w A v0_15 a0.Hist.Neg.Counts) {r0 : Bool} (h : point_own a0 = some r0) : Rets Try.prog 41 [ag (cp a0 v0_1 v0_13 v0_15)] w (fun v w' => v = vB r0 ∧ Ext w w') := by
 unfold point_own at h
 refine Rets.enter Try.func41 z z ?_
 have ah : Sl rep_api_Pair w (imm (Lg.O0 A)) v0_1 a0.Attrs := (Sl.start hs0_1)
 have U : Sl Rep.u w (imm (Lg.O0 A)) v0_13 a0.Hist.Pos.Counts := (Sl.start hs0_13)
 have W : Sl Rep.u w (imm (Lg.O0 A)) v0_15 a0.Hist.Neg.Counts := (Sl.start hs0_15)
 refine (show WC _ _ _ _ [(0, ag (cp a0 v0_1 v0_13 v0_15))] _ from ?_)
 refine sq (rg ?_)
 have ai := h
 obtain ⟨aI, aJ, aK, rfl⟩ := ah.shape
 have h := ai
 have aj := h
 obtain ⟨X, Z, aa, rfl⟩ := U.shape
 have h := aj
 have ak := h
 obtain ⟨ab, ac, ad, rfl⟩ := W.shape
 have h := ak
 refine WL.box (O := (Lg.O0 A)) 11 (cp a0 (vl aI aJ aK) (vl X Z aa) (vl ab ac ad)) z z z ?_
 intro m o e d l
 refine wY (ya z) z (nl (th (sq (rg (wY (yf fo33_2 z) z (wY (yl ty3 z z (l.cell 2 _ z)) z (wY (Y.eql_i z z) z (wY (ym z) z ?_))))))))
 refine WL.cut 4 (σ := Unit) (fun _ w' => e = w') (fun _ => [(1, pt m 0), (11, vB ((decide (a0.Kind = 2)) || (decide (a0.Kind = 3))))]) ?_ ?_
 ·refine WL.part 7 z (fun q => ?_) (fun q => ?_)
  ·refine WL.gS z z z z (WL.gS z z z z (WL.gS z z z z (wY (Y.pick (b := true) z z) z (WL.ren (v' := vB ((decide (a0.Kind = 2)) || (decide (a0.Kind = 3)))) 11 z (congrArg vB (orT q)) ?_))))
   exact nl (At.join () z (.cons z (.cons z .nil)))
  ·refine ug z z (wY (yf fo33_2 z) z (ug z z (wY (yl ty3 z z (l.cell 2 _ z)) z (ug z z (wY (Y.eql_i z z) z (wY (Y.pick (b := false) z z) z (WL.ren (v' := vB ((decide (a0.Kind = 2)) || (decide (a0.Kind = 3)))) 11 z (congrArg vB (orF q)) ?_)))))))
   exact nl (At.join () z (.cons z (.cons z .nil)))
 ·rintro _ _ rfl
  refine (show WL _ _ _ _ _ [(1, pt m 0), (11, vB ((decide (a0.Kind = 2)) || (decide (a0.Kind = 3))))] _ from ?_)
  refine wY (ym z) z ?_
  refine WL.cut 4 (σ := Unit) (fun _ w' => e = w') (fun _ => [(1, pt m 0), (16, vB (((decide (a0.Kind = 2)) || (decide (a0.Kind = 3))) || (decide (a0.Kind = 5))))]) ?_ ?_
  ·refine WL.part 12 z (fun r => ?_) (fun r => ?_)
   ·refine WL.gS z z z z (WL.gS z z z z (WL.gS z z z z (wY (Y.pick (b := true) z z) z (WL.ren (v' := vB (((decide (a0.Kind = 2)) || (decide (a0.Kind = 3))) || (decide (a0.Kind = 5)))) 16 z (congrArg vB (orT r)) ?_))))
    exact nl (At.join () z (.cons z (.cons z .nil)))
   ·refine ug z z (wY (yf fo33_2 z) z (ug z z (wY (yl ty3 z z (l.cell 2 _ z)) z (ug z z (wY (Y.eql_i z z) z (wY (Y.pick (b := false) z z) z (WL.ren (v' := vB (((decide (a0.Kind = 2)) || (decide (a0.Kind = 3))) || (decide (a0.Kind = 5)))) 16 z (congrArg vB (orF r)) ?_)))))))
    exact nl (At.join () z (.cons z (.cons z .nil)))
  ·rintro _ _ rfl
   refine (show WL _ _ _ _ _ [(1, pt m 0), (16, vB (((decide (a0.Kind = 2)) || (decide (a0.Kind = 3))) || (decide (a0.Kind = 5))))] _ from ?_)
   obtain ⟨j, t, h⟩ := lt1 h
   refine WL.yE (ya z) (congrArg vB t.symm) z (nl (th (sq (WC.block (sq (sq (rg (wY (yf fo33_2 z) z (wY (yl ty3 z z (l.cell 2 _ z)) z ?_)))))))))
   refine wY (Y.neq_i z z) z (wY (ym z) z ?_)
   refine WL.cut 4 (σ := Unit) (fun _ w' => e = w') (fun _ => [(1, pt m 0), (3, vB j), (25, vB ((!decide (a0.Kind = 1)) && (!decide (a0.Int_ = 0))))]) ?_ ?_
   ·refine WL.part 21 z (fun C => ?_) (fun C => ?_)
    ·refine ug z z (wY (yf fo33_7 z) z (ug z z (wY (yl ty3 z z (l.cell 7 _ z)) z (ug z z (wY (Y.neq_i z z) z (wY (Y.pick (b := true) z z) z (WL.ren (v' := vB ((!decide (a0.Kind = 1)) && (!decide (a0.Int_ = 0)))) 25 z (congrArg vB (andT C)) ?_)))))))
     exact nl (At.join () z (.cons z (.cons z (.cons z .nil))))
    ·refine WL.gS z z z z (WL.gS z z z z (WL.gS z z z z (wY (Y.pick (b := false) z z) z (WL.ren (v' := vB ((!decide (a0.Kind = 1)) && (!decide (a0.Int_ = 0)))) 25 z (congrArg vB (andF C)) ?_))))
     exact nl (At.join () z (.cons z (.cons z (.cons z .nil))))
   ·rintro _ _ rfl
    refine (show WL _ _ _ _ _ [(1, pt m 0), (3, vB j), (25, vB ((!decide (a0.Kind = 1)) && (!decide (a0.Int_ = 0))))] _ from ?_)
    obtain ⟨aT, al, h⟩ := lt1 h
    refine WL.yE (ya z) (congrArg vB al.symm) z (nl (th ?_))
    rcases cnd h with ⟨D, h⟩ | ⟨D, h⟩
    ·refine WC.condT' z D (sk (th ?_))
     rcases cnd h with ⟨E, h⟩ | ⟨E, h⟩
     ·refine WC.condT' z E (sq (rg (wY (ya z) z (nl (th (rt (At.inBlockR (At.thenR ?_))))))))
      obtain rfl := some1 h
      have am : Stp [] (Lg.O0 A) w o e := (su_ d z)
      exact At.res (.inl z) z (.tmp z .nil) ⟨z, (se_ am z z)⟩
     ·refine WC.condF' z E (sk (At.inBlock (th (sq (rg (wY (ya z) z (nl (th (rt ?_)))))))))
      obtain rfl := some1 h
      have an : Stp [] (Lg.O0 A) w o e := (su_ d z)
      exact At.res (.inl z) z (.tmp z .nil) ⟨z, (se_ an z z)⟩
    ·refine WC.condF' z D (sq (rg (wY (ym z) z (wY (Y.not z) z (wY (ym z) z ?_)))))
     refine WL.cut 4 (σ := Unit) (fun _ w' => e = w') (fun _ => [(1, pt m 0), (32, vB ((!j) && (!decide (a0.Re = 0))))]) ?_ ?_
     ·refine WL.part 28 z (fun F => ?_) (fun F => ?_)
      ·refine ug z z (wY (yf fo33_8 z) z (ug z z (wY (yl ty26 z z (l.cell 8 _ z)) z (ug z z (wY (Y.neq_u (b := 0) z z) z (wY (Y.pick (b := true) z z) z (WL.ren (v' := vB ((!j) && (!decide (a0.Re = 0)))) 32 z (congrArg vB (andT F)) ?_)))))))
       exact nl (At.join () z (.cons z (.cons z .nil)))
      ·refine WL.gS z z z z (WL.gS z z z z (WL.gS z z z z (wY (Y.pick (b := false) z z) z (WL.ren (v' := vB ((!j) && (!decide (a0.Re = 0)))) 32 z (congrArg vB (andF F)) ?_))))
       exact nl (At.join () z (.cons z (.cons z .nil)))
     ·rintro _ _ rfl
      refine (show WL _ _ _ _ _ [(1, pt m 0), (32, vB ((!j) && (!decide (a0.Re = 0))))] _ from ?_)
      obtain ⟨aU, ao, h⟩ := lt1 h
      refine WL.yE (ya z) (congrArg vB ao.symm) z (nl (th ?_))
      rcases cnd h with ⟨G, h⟩ | ⟨G, h⟩
      ·refine WC.condT' z G (sk (th ?_))
       rcases cnd h with ⟨H, h⟩ | ⟨H, h⟩
       ·refine WC.condT' z H (sq (rg (wY (ya z) z (nl (th (rt (At.inBlockR (At.thenR ?_))))))))
        obtain rfl := some1 h
        have ap : Stp [] (Lg.O0 A) w o e := (su_ d z)
        exact At.res (.inl z) z (.tmp z .nil) ⟨z, (se_ ap z z)⟩
       ·refine WC.condF' z H (sk (At.inBlock (th (sq (rg (wY (ya z) z (nl (th (rt ?_)))))))))
        obtain rfl := some1 h
        have aq : Stp [] (Lg.O0 A) w o e := (su_ d z)
        exact At.res (.inl z) z (.tmp z .nil) ⟨z, (se_ aq z z)⟩
      ·refine WC.condF' z G (sq (rg (wY (yf fo33_2 z) z (wY (yl ty3 z z (l.cell 2 _ z)) z (wY (Y.neq_i z z) z (wY (ym z) z ?_))))))
       refine WL.cut 4 (σ := Unit) (fun _ w' => e = w') (fun _ => [(1, pt m 0), (40, vB ((!decide (a0.Kind = 5)) && (!decide (a0.Im = 0))))]) ?_ ?_
       ·refine WL.part 36 z (fun I => ?_) (fun I => ?_)
        ·refine ug z z (wY (yf fo33_9 z) z (ug z z (wY (yl ty26 z z (l.cell 9 _ z)) z (ug z z (wY (Y.neq_u (b := 0) z z) z (wY (Y.pick (b := true) z z) z (WL.ren (v' := vB ((!decide (a0.Kind = 5)) && (!decide (a0.Im = 0)))) 40 z (congrArg vB (andT I)) ?_)))))))
         exact nl (At.join () z (.cons z (.cons z .nil)))
        ·refine WL.gS z z z z (WL.gS z z z z (WL.gS z z z z (wY (Y.pick (b := false) z z) z (WL.ren (v' := vB ((!decide (a0.Kind = 5)) && (!decide (a0.Im = 0)))) 40 z (congrArg vB (andF I)) ?_))))
         exact nl (At.join () z (.cons z (.cons z .nil)))
       ·rintro _ _ rfl
        refine (show WL _ _ _ _ _ [(1, pt m 0), (40, vB ((!decide (a0.Kind = 5)) && (!decide (a0.Im = 0))))] _ from ?_)
        obtain ⟨aW, ar, h⟩ := lt1 h
        refine WL.yE (ya z) (congrArg vB ar.symm) z (nl (th ?_))
        rcases cnd h with ⟨J, h⟩ | ⟨J, h⟩
        ·refine WC.condT' z J (sk (th ?_))
         rcases cnd h with ⟨K, h⟩ | ⟨K, h⟩
         ·refine WC.condT' z K (sq (rg (wY (ya z) z (nl (th (rt (At.inBlockR (At.thenR ?_))))))))
          obtain rfl := some1 h
          have au : Stp [] (Lg.O0 A) w o e := (su_ d z)
          exact At.res (.inl z) z (.tmp z .nil) ⟨z, (se_ au z z)⟩
         ·refine WC.condF' z K (sk (At.inBlock (th (sq (rg (wY (ya z) z (nl (th (rt ?_)))))))))
          obtain rfl := some1 h
          have av : Stp [] (Lg.O0 A) w o e := (su_ d z)
          exact At.res (.inl z) z (.tmp z .nil) ⟨z, (se_ av z z)⟩
        ·refine WC.condF' z J (sq (rg (wY (yf fo33_2 z) z (wY (yl ty3 z z (l.cell 2 _ z)) z (wY (Y.neq_i z z) z (wY (ym z) z ?_))))))
         obtain ⟨aL, h, ax⟩ := bnd h
         refine WL.cut 5 (σ := (Bool × Own)) (fun x w' => x.1 = aL ∧ Stp [] o e x.2 w') (fun x => [(1, pt m 0), (49, vB x.1)]) ?_ ?_
         ·rcases cnd h with ⟨L, h⟩ | ⟨L, h⟩
          ·refine WL.ren 44 z (congrArg vB L) (ug z z (wY (yf fo33_10 z) z (ug z z (wY (yL ty31 z z (l.cells 10 (hl a0.Hist (vl X Z aa) (vl ab ac ad)) z) z) z (ug z z ?_)))))
           have ay := U.i d z z
           have az := W.i d z z
           obtain ⟨aM, aA, h⟩ := bnd h
           refine WL.call (vals := [ag (hl a0.Hist (vl X Z aa) (vl ab ac ad))]) kok76 z z (c_point_bare (A := fun _ => True) (a0 := a0.Hist) (Sl.all ay) (Sl.all az) aA) ?_
           rintro aR aS ⟨rfl, aC⟩
           obtain ⟨aN, aO, aP, af⟩ := adoptE o (fun k => 1) aC
           refine ug z z (wY (Y.not z) z (wY (Y.pick (b := true) z z) z ?_))
           exact nl (At.join (σ := (Bool × Own)) ((!aM), aN) ⟨some1 h, (su_ af z)⟩ (.cons z (.cons z .nil)))
          ·refine WL.ren 44 z (congrArg vB L) (WL.gS z z z z (WL.gS z z z z (WL.gS z z z z (WL.gS z z z z (wY (Y.pick (b := false) z z) z ?_)))))
           exact nl (At.join (σ := (Bool × Own)) (false, o) ⟨some1 h, (sr_ _ _ _)⟩ (.cons z (.cons z .nil)))
         ·rintro ⟨aQ, T⟩ p ⟨rfl, n⟩
          replace h := ax
          try dsimp only at h n
          refine (show WL _ _ _ _ _ [(1, pt m 0), (49, vB aQ)] _ from ?_)
          refine wY (ya z) z (nl (th ?_))
          rcases cnd h with ⟨M, h⟩ | ⟨M, h⟩
          ·refine WC.condT' z M (sk (th ?_))
           rcases cnd h with ⟨P, h⟩ | ⟨P, h⟩
           ·refine WC.condT' z P (sq (rg (wY (ya z) z (nl (th (rt (At.inBlockR (At.thenR ?_))))))))
            obtain rfl := some1 h
            have aD : Stp [] (Lg.O0 A) w T p := (tr_ (su_ d z) (su_ n z))
            exact At.res (.inl z) z (.tmp z .nil) ⟨z, (se_ aD z z)⟩
           ·refine WC.condF' z P (sk (At.inBlock (th (sq (rg (wY (ya z) z (nl (th (rt ?_)))))))))
            obtain rfl := some1 h
            have aE : Stp [] (Lg.O0 A) w T p := (tr_ (su_ d z) (su_ n z))
            exact At.res (.inl z) z (.tmp z .nil) ⟨z, (se_ aE z z)⟩
          ·refine WC.condF' z M (rg (wY (yf fo33_11 z) z ?_))
           have ae := l.st n z
           refine wY (yl ty3 z z (ae.cell 16 _ z)) z (wY (Y.lss_i z z) z (wY (ym z) z ?_))
           refine WL.cut 4 (σ := Unit) (fun _ w' => p = w') (fun _ => [(57, vB ((decide (a0.Flags < 0)) || (decide (31 < a0.Flags))))]) ?_ ?_
           ·refine WL.part 53 z (fun Q => ?_) (fun Q => ?_)
            ·refine WL.gS z z z z (WL.gS z z z z (WL.gS z z z z (wY (Y.pick (b := true) z z) z (WL.ren (v' := vB ((decide (a0.Flags < 0)) || (decide (31 < a0.Flags)))) 57 z (congrArg vB (orT Q)) ?_))))
             exact nl (At.join () z (.cons z .nil))
            ·refine ug z z (wY (yf fo33_11 z) z (ug z z (wY (yl ty3 z z (ae.cell 16 _ z)) z (ug z z (wY (Y.gtr_i z z) z (wY (Y.pick (b := false) z z) z (WL.ren (v' := vB ((decide (a0.Flags < 0)) || (decide (31 < a0.Flags)))) 57 z (congrArg vB (orF Q)) ?_)))))))
             exact nl (At.join () z (.cons z .nil))
           ·rintro _ _ rfl
            refine (show WL _ _ _ _ _ [(57, vB ((decide (a0.Flags < 0)) || (decide (31 < a0.Flags))))] _ from ?_)
            obtain ⟨aX, aF, h⟩ := lt1 h
            refine WL.yE (ya z) (congrArg vB aF.symm) z (nl (th ?_))
            rcases cnd h with ⟨S, h⟩ | ⟨S, h⟩
            ·refine WC.condT' z S (sq (rg (wY (ya z) z (nl (th (rt (At.inBlockR (At.thenR ?_))))))))
             obtain rfl := some1 h
             have aG : Stp [] (Lg.O0 A) w T p := (tr_ (su_ d z) (su_ n z))
             exact At.res (.inl z) z (.tmp z .nil) ⟨z, (se_ aG z z)⟩
            ·refine WC.condF' z S (sk (At.inBlock (th (sq (rg (wY (ya z) z (nl (th (rt ?_)))))))))
             obtain rfl := some1 h
             have aH : Stp [] (Lg.O0 A) w T p := (tr_ (su_ d z) (su_ n z))
             exact At.res (.inl z) z (.tmp z .nil) ⟨z, (se_ aH z z)⟩
theorem c_num_Finite {a0 : UInt64} {w : World} {r0 : Bool} (h : num_Finite a0 = some r0) : Rets Try.prog 42 [vu a0] w (fun v w' => v = vB r0 ∧ Ext w w') := by
 unfold num_Finite at h
 refine Rets.enter Try.func42 z z ?_
 refine (show WC _ _ _ _ [(0, vu a0)] _ from ?_)
 refine sq (rg (wY (ya z) z (nl (th (sq (rg (wY (ym z) z (wY (Y.and_u (b := 9218868437227405312) z z) z (wY (Y.neq_u (b := 9218868437227405312) z z) z ?_)))))))))
 obtain ⟨j, d, h⟩ := lt1 h
 refine WL.yE (ya z) (congrArg vB d.symm) z (nl (th (rt ?_)))
 obtain rfl := some1 h
 have e : Stp [] (Lg.O0 (fun _ => False)) w (Lg.O0 (fun _ => False)) w := (sr_ _ _ _)
 exact At.res (.inl z) z (.tmp z .nil) ⟨z, (se_ e z z)⟩
theorem c_num_of {a0 : UInt64} {w : World} : Rets Try.prog 77 [vu a0] w (fun v w' => v = .float .f64 a0.toNat ∧ Ext w w') := by
  refine Rets.enter Try.func77 z z ?_
  refine (show WC _ _ _ _ [(0, vu a0)] _ from ?_)
  refine sq (rg (wY (ya (v := .float .f64 0) z) z (nl (th ?_))))
  refine sq (rg ?_)
  refine wY (ym z) z (wY (Y.ffrom xfrom_99 z) z ?_)
  refine wY (ya z) z (nl (th (rt ?_)))
  exact At.res (.inl z) z (.tmp z .nil) ⟨z, Ext.refl w⟩
theorem c_num_Less {a0 : UInt64} {a1 : UInt64} {w : World} {r0 : Bool} (h : num_Less a0 a1 = some r0) : Rets Try.prog 43 [vu a0, vu a1] w (fun v w' => v = vB r0 ∧ Ext w w') := by
  unfold num_Less at h
  obtain rfl := some1 h
  refine Rets.enter Try.func43 z z ?_
  refine (show WC _ _ _ _ [(0, vu a0), (1, vu a1)] _ from ?_)
  refine sq (rg (wY (ya (v := .bool false) z) z (nl (th ?_))))
  refine sq (rg ?_)
  refine wY (ym z) z (WL.call (vals := [vu a0]) kok77 z z (c_num_of) ?_)
  rintro r t ⟨rfl, j⟩
  obtain ⟨p, hold1, n, d⟩ := adoptE (Lg.O0 (fun _ => False)) (fun k => 1) j
  refine wY (ym z) z (WL.call (vals := [vu a1]) kok77 z z (c_num_of) ?_)
  rintro C l ⟨rfl, m⟩
  obtain ⟨q, hold2, o, e⟩ := adoptE p (fun k => 1) m
  refine wY (Y.fless z z) z ?_
  refine wY (ya z) z (nl (th (rt ?_)))
  have hs : Stp [] (Lg.O0 (fun _ => False)) w q l := (tr_ (su_ d z) (su_ e z))
  exact At.res (.inl z) z (.tmp z .nil) ⟨z, se_ hs z z⟩
theorem c_point_Check {A : Nat → Prop} {v0_1 : Value} {v0_13 : Value} {v0_15 : Value} {a0 : api_Point} {w : World} (hs0_1 : Sl rep_api_Pair w A v0_1 a0.Attrs) (hs0_13 : Sl Rep.u w A v0_13 a0.Hist.Pos.Counts) (hs0_15 : Sl Rep.u w A v0_15 a0.Hist.Neg.Counts) {r0 : Int} (h : point_Check a0 = some r0) : Rets Try.prog 19 [ag (cp a0 v0_1 v0_13 v0_15)] w (fun v w' => v = vi r0 ∧ Ext w w') := by
 unfold point_Check at h
 refine Rets.enter Try.func19 z z ?_
 have aA : Sl rep_api_Pair w (imm (Lg.O0 A)) v0_1 a0.Attrs := (Sl.start hs0_1)
 have aC : Sl Rep.u w (imm (Lg.O0 A)) v0_13 a0.Hist.Pos.Counts := (Sl.start hs0_13)
 have aD : Sl Rep.u w (imm (Lg.O0 A)) v0_15 a0.Hist.Neg.Counts := (Sl.start hs0_15)
 refine (show WC _ _ _ _ [(0, ag (cp a0 v0_1 v0_13 v0_15))] _ from ?_)
 refine sq (rg ?_)
 have bo := h
 obtain ⟨G, H, I, rfl⟩ := aA.shape
 have h := bo
 have bp := h
 obtain ⟨r, t, C, rfl⟩ := aC.shape
 have h := bp
 have bq := h
 obtain ⟨D, E, F, rfl⟩ := aD.shape
 have h := bq
 refine WL.box (O := (Lg.O0 A)) 11 (cp a0 (vl G H I) (vl r t C) (vl D E F)) z z z ?_
 intro q ck cG j aj
 refine wY (ya z) z (nl (th (sq (sq (rg (wY (yf fo33_0 z) z (wY (yl ty9 z z (aj.cell 0 _ z)) z (wY (yf fo33_1 z) z (wY (yl ty25 z z (aj.cell 1 _ z)) z ?_)))))))))
 have aE := aA.i j z z
 obtain ⟨cS, br, h⟩ := bnd h
 refine WL.call (vals := [vs a0.Name, (vl G H I)]) kok37 z z (c_label_Check (A := fun _ => True) (Sl.all aE) br) ?_
 rintro cH bs ⟨rfl, bt⟩
 obtain ⟨bk, cl, cm, e⟩ := adoptE ck (fun k => 1) bt
 refine wY (ya z) z (nl (th (sq (rg (wY (ym z) z (wY (Y.neq_i z z) z (nl (th ?_))))))))
 rcases cnd h with ⟨ak, h⟩ | ⟨ak, h⟩
 ·refine WC.condT' z ak (sq (rg (wY (ym z) z (wY (ya z) z (nl (th (rt (At.thenR ?_))))))))
  obtain rfl := some1 h
  have bu : Stp [] (Lg.O0 A) w bk bs := (tr_ (su_ j z) (su_ e z))
  exact At.res (.inl z) z (.tmp z .nil) ⟨z, (se_ bu z z)⟩
 ·refine WC.condF' z ak (sk (th (sq (WC.block (sq (rg ?_))))))
  have al := aj.st e z
  refine wY (yL ty33 z z (al.cells 0 (cp a0 (vl G H I) (vl r t C) (vl D E F)) z) z) z ?_
  have M := aE.i e z z
  have P := (aC.i j z z).i e z z
  have Q := (aD.i j z z).i e z z
  obtain ⟨cT, bz, h⟩ := bnd h
  refine WL.call (vals := [ag (cp a0 (vl G H I) (vl r t C) (vl D E F))]) kok38 z z (c_point_kinds (A := fun _ => True) (a0 := a0) (Sl.all M) (Sl.all P) (Sl.all Q) bz) ?_
  rintro cI am ⟨rfl, bA⟩
  obtain ⟨ah, cn, co, d⟩ := adoptE bk (fun k => 1) bA
  refine wY (Y.not z) z ?_
  obtain ⟨cU, bB, h⟩ := lt1 h
  refine WL.yE (ya z) (congrArg vB bB.symm) z (nl (th ?_))
  rcases cnd h with ⟨an, h⟩ | ⟨an, h⟩
  ·refine WC.condT' z an (sq (rg (wY (ya z) z (nl (th (rt (At.inBlockR (At.thenR ?_))))))))
   obtain rfl := some1 h
   have bC : Stp [] (Lg.O0 A) w ah am := (tr_ (su_ j z) (tr_ (su_ e z) (su_ d z)))
   exact At.res (.inl z) z (.tmp z .nil) ⟨z, (se_ bC z z)⟩
  ·refine WC.condF' z an (sq ?_)
   obtain ⟨cq, h, bD⟩ := bnd h
   refine WC.join (σ := (Bool × Own)) (fun x w' => x.1 = cq ∧ Stp [] ah am x.2 w') (fun x => [(1, pt q 0), (16, vB x.1)]) ?_ ?_
   ·refine sq (rg (wY (yf fo33_4 z) z ?_))
    have ao := al.st d z
    refine wY (yl ty4 z z (ao.cell 4 _ z)) z (wY (ym z) z ?_)
    obtain ⟨cr, h, bE⟩ := bnd h
    refine WL.cut 4 (σ := (Bool × Own)) (fun x w' => x.1 = cr ∧ Stp [] ah am x.2 w') (fun x => [(1, pt q 0), (23, vB x.1)]) ?_ ?_
    ·rcases cnd h with ⟨ap, h⟩ | ⟨ap, h⟩
     ·refine WL.ren 19 z (congrArg vB ap) (ug z z (wY (yL ty33 z z (ao.cells 0 (cp a0 (vl G H I) (vl r t C) (vl D E F)) z) z) z (ug z z ?_)))
      have bG := M.i d z z
      have bH := P.i d z z
      have bI := Q.i d z z
      obtain ⟨cs, bJ, h⟩ := bnd h
      refine WL.call (vals := [ag (cp a0 (vl G H I) (vl r t C) (vl D E F))]) kok39 z z (c_point_sum (A := fun _ => True) (a0 := a0) (Sl.all bG) (Sl.all bH) (Sl.all bI) bJ) ?_
      rintro cJ cK ⟨rfl, bK⟩
      obtain ⟨ct, cu, cw, aK⟩ := adoptE ah (fun k => 1) bK
      refine ug z z (wY (Y.not z) z (wY (Y.pick (b := true) z z) z ?_))
      exact nl (At.join (σ := (Bool × Own)) ((!cs), ct) ⟨some1 h, (su_ aK z)⟩ (.cons z (.cons z .nil)))
     ·refine WL.ren 19 z (congrArg vB ap) (WL.gS z z z z (WL.gS z z z z (WL.gS z z z z (wY (Y.pick (b := false) z z) z ?_))))
      exact nl (At.join (σ := (Bool × Own)) (false, ah) ⟨some1 h, (sr_ _ _ _)⟩ (.cons z (.cons z .nil)))
    ·rintro ⟨bl, bm⟩ cL ⟨rfl, p⟩
     replace h := bE
     try dsimp only at h p
     refine (show WL _ _ _ _ _ [(1, pt q 0), (23, vB bl)] _ from ?_)
     refine wY (ya z) z (nl (th ?_))
     rcases cnd h with ⟨aq, h⟩ | ⟨aq, h⟩
     ·refine WC.condT' z aq (sk ?_)
      exact At.join (σ := (Bool × Own)) (bl, bm) ⟨some1 h, (su_ p z)⟩ (.cons z (.cons z .nil))
     ·refine WC.condF' z aq (rg ?_)
      have bL := ao.st p z
      refine wY (yL ty33 z z (bL.cells 0 (cp a0 (vl G H I) (vl r t C) (vl D E F)) z) z) z ?_
      have bO := (M.i d z z).i p z z
      have bQ := (P.i d z z).i p z z
      have bS := (Q.i d z z).i p z z
      obtain ⟨cV, bT, h⟩ := bnd h
      refine WL.call (vals := [ag (cp a0 (vl G H I) (vl r t C) (vl D E F))]) kok40 z z (c_point_times (A := fun _ => True) (a0 := a0) (Sl.all bO) (Sl.all bQ) (Sl.all bS) bT) ?_
      rintro cM cN ⟨rfl, bU⟩
      obtain ⟨bW, ca, cb, aF⟩ := adoptE bm (fun k => 1) bU
      refine wY (Y.not z) z ?_
      obtain ⟨bX, aL, h⟩ := lt1 h
      refine WL.yE (ya z) (congrArg vB aL.symm) z (nl ?_)
      exact At.join (σ := (Bool × Own)) (bX, bW) ⟨some1 h, (tr_ (su_ p z) (su_ aF z))⟩ (.cons z (.cons z .nil))
   ·rintro ⟨cx, bn⟩ bY ⟨rfl, l⟩
    replace h := bD
    try dsimp only at h l
    refine (show At _ _ _ [(1, pt q 0), (16, vB cx)] _ from ?_)
    refine th ?_
    rcases cnd h with ⟨S, h⟩ | ⟨S, h⟩
    ·refine WC.condT' z S (sq (rg (wY (ya z) z (nl (th (rt (At.inBlockR (At.thenR ?_))))))))
     obtain rfl := some1 h
     have aM : Stp [] (Lg.O0 A) w bn bY := (tr_ (su_ j z) (tr_ (su_ e z) (tr_ (su_ d z) (su_ l z))))
     exact At.res (.inl z) z (.tmp z .nil) ⟨z, (se_ aM z z)⟩
    ·refine WC.condF' z S (sq (rg ?_))
     have au := (al.st d z).st l z
     refine wY (yL ty33 z z (au.cells 0 (cp a0 (vl G H I) (vl r t C) (vl D E F)) z) z) z ?_
     have aP := (M.i d z z).i l z z
     have av := (P.i d z z).i l z z
     have ax := (Q.i d z z).i l z z
     obtain ⟨cO, aS, h⟩ := bnd h
     refine WL.call (vals := [ag (cp a0 (vl G H I) (vl r t C) (vl D E F))]) kok41 z z (c_point_own (A := fun _ => True) (a0 := a0) (Sl.all aP) (Sl.all av) (Sl.all ax) aS) ?_
     rintro cy T ⟨rfl, aT⟩
     obtain ⟨U, cc, cd, m⟩ := adoptE bn (fun k => 1) aT
     refine wY (Y.not z) z ?_
     obtain ⟨cP, aU, h⟩ := lt1 h
     refine WL.yE (ya z) (congrArg vB aU.symm) z (nl (th ?_))
     rcases cnd h with ⟨W, h⟩ | ⟨W, h⟩
     ·refine WC.condT' z W (sq (rg (wY (ya z) z (nl (th (rt (At.inBlockR (At.thenR ?_))))))))
      obtain rfl := some1 h
      have aW : Stp [] (Lg.O0 A) w U T := (tr_ (su_ j z) (tr_ (su_ e z) (tr_ (su_ d z) (tr_ (su_ l z) (su_ m z)))))
      exact At.res (.inl z) z (.tmp z .nil) ⟨z, (se_ aW z z)⟩
     ·refine WC.condF' z W (sq (rg (wY (yf fo33_4 z) z ?_)))
      have K := au.st m z
      refine wY (yl ty4 z z (K.cell 4 _ z)) z (wY (ym z) z ?_)
      refine WL.cut 4 (σ := Unit) (fun _ w' => T = w') (fun _ => [(1, pt q 0), (38, vB (a0.Mono && (decide (a0.Kind = 2))))]) ?_ ?_
      ·refine WL.part 34 z (fun X => ?_) (fun X => ?_)
       ·refine ug z z (wY (yf fo33_2 z) z (ug z z (wY (yl ty3 z z (K.cell 2 _ z)) z (ug z z (wY (Y.eql_i z z) z (wY (Y.pick (b := true) z z) z (WL.ren (v' := vB (a0.Mono && (decide (a0.Kind = 2)))) 38 z (congrArg vB (andT X)) ?_)))))))
        exact nl (At.join () z (.cons z (.cons z .nil)))
       ·refine WL.gS z z z z (WL.gS z z z z (WL.gS z z z z (wY (Y.pick (b := false) z z) z (WL.ren (v' := vB (a0.Mono && (decide (a0.Kind = 2)))) 38 z (congrArg vB (andF X)) ?_))))
        exact nl (At.join () z (.cons z (.cons z .nil)))
      ·rintro _ _ rfl
       refine (show WL _ _ _ _ _ [(1, pt q 0), (38, vB (a0.Mono && (decide (a0.Kind = 2))))] _ from ?_)
       refine wY (ym z) z ?_
       obtain ⟨bZ, h, aX⟩ := bnd h
       refine WL.cut 5 (σ := (Bool × Own)) (fun x w' => x.1 = bZ ∧ Stp [] U T x.2 w') (fun x => [(1, pt q 0), (44, vB x.1)]) ?_ ?_
       ·rcases cnd h with ⟨Z, h⟩ | ⟨Z, h⟩
        ·refine WL.ren 39 z (congrArg vB Z) (ug z z (wY (yf fo33_8 z) z (ug z z (wY (yl ty26 z z (K.cell 8 _ z)) z (ug z z ?_)))))
         obtain ⟨b0, aY, h⟩ := bnd h
         refine WL.call (vals := [vu a0.Re]) kok42 z z (c_num_Finite aY) ?_
         rintro cz cA ⟨rfl, aZ⟩
         obtain ⟨b1, ce, cf, aG⟩ := adoptE U (fun k => 1) aZ
         refine ug z z (wY (Y.not z) z (wY (Y.pick (b := true) z z) z ?_))
         exact nl (At.join (σ := (Bool × Own)) ((!b0), b1) ⟨some1 h, (su_ aG z)⟩ (.cons z (.cons z .nil)))
        ·refine WL.ren 39 z (congrArg vB Z) (WL.gS z z z z (WL.gS z z z z (WL.gS z z z z (WL.gS z z z z (wY (Y.pick (b := false) z z) z ?_)))))
         exact nl (At.join (σ := (Bool × Own)) (false, U) ⟨some1 h, (sr_ _ _ _)⟩ (.cons z (.cons z .nil)))
       ·rintro ⟨b2, J⟩ aa ⟨rfl, n⟩
        replace h := aX
        try dsimp only at h n
        refine (show WL _ _ _ _ _ [(1, pt q 0), (44, vB b2)] _ from ?_)
        refine wY (ya z) z (nl (th ?_))
        rcases cnd h with ⟨ab, h⟩ | ⟨ab, h⟩
        ·refine WC.condT' z ab (sq (rg (wY (ya z) z (nl (th (rt (At.inBlockR (At.thenR ?_))))))))
         obtain rfl := some1 h
         have a1 : Stp [] (Lg.O0 A) w J aa := (tr_ (su_ j z) (tr_ (su_ e z) (tr_ (su_ d z) (tr_ (su_ l z) (tr_ (su_ m z) (su_ n z))))))
         exact At.res (.inl z) z (.tmp z .nil) ⟨z, (se_ a1 z z)⟩
        ·refine WC.condF' z ab (sq (rg (wY (yf fo33_4 z) z ?_)))
         have L := K.st n z
         refine wY (yl ty4 z z (L.cell 4 _ z)) z (wY (ym z) z ?_)
         obtain ⟨b3, h, a2⟩ := bnd h
         refine WL.cut 9 (σ := (Bool × Own)) (fun x w' => x.1 = b3 ∧ Stp [] J aa x.2 w') (fun x => [(1, pt q 0), (57, vB x.1)]) ?_ ?_
         ·rcases cnd h with ⟨ac, h⟩ | ⟨ac, h⟩
          ·refine WL.ren 48 z (congrArg vB ac) (ug z z (wY (yf fo33_7 z) z (ug z z (wY (yl ty3 z z (L.cell 7 _ z)) z (ug z z (wY (Y.lss_i z z) z (ug z z (wY (ym z) z ?_))))))))
           obtain ⟨b4, h, a3⟩ := bnd h
           refine WL.cut 4 (σ := (Bool × Own)) (fun x w' => x.1 = b4 ∧ Stp [] J aa x.2 w') (fun x => [(1, pt q 0), (48, vB true), (56, vB x.1)]) ?_ ?_
           ·rcases cnd h with ⟨ad, h⟩ | ⟨ad, h⟩
            ·refine WL.ren 52 z (congrArg vB ad) (WL.gS z z z z (WL.gS z z z z (WL.gS z z z z (ug z z (wY (Y.pick (b := true) z z) z ?_)))))
             exact nl (At.join (σ := (Bool × Own)) (true, J) ⟨some1 h, (sr_ _ _ _)⟩ (.cons z (.cons z (.cons z .nil))))
            ·refine WL.ren 52 z (congrArg vB ad) (ug z z (wY (yf fo33_8 z) z (ug z z (wY (yl ty26 z z (L.cell 8 _ z)) z (ug z z ?_)))))
             obtain ⟨b5, a4, h⟩ := bnd h
             refine WL.call (vals := [vu a0.Re, vu 0]) kok43 z z (c_num_Less a4) ?_
             rintro cC cD ⟨rfl, a5⟩
             obtain ⟨b6, cg, ch, aH⟩ := adoptE J (fun k => 1) a5
             refine ug z z (wY (Y.pick (b := false) z z) z ?_)
             exact nl (At.join (σ := (Bool × Own)) (b5, b6) ⟨some1 h, (su_ aH z)⟩ (.cons z (.cons z (.cons z .nil))))
           ·rintro ⟨aI, b7⟩ cE ⟨rfl, ai⟩
            replace h := a3
            try dsimp only at h ai
            refine (show WL _ _ _ _ _ [(1, pt q 0), (48, vB true), (56, vB aI)] _ from ?_)
            refine wY (Y.pick (b := true) z z) z ?_
            exact nl (At.join (σ := (Bool × Own)) (aI, b7) ⟨some1 h, (su_ ai z)⟩ (.cons z (.cons z .nil)))
          ·refine WL.ren 48 z (congrArg vB ac) (WL.gS z z z z (WL.gS z z z z (WL.gS z z z z (WL.gS z z z z (WL.gS z z z z (WL.gS z z z z (WL.gS z z z z (WL.gS z z z z (wY (Y.pick (b := false) z z) z ?_)))))))))
           exact nl (At.join (σ := (Bool × Own)) (false, J) ⟨some1 h, (sr_ _ _ _)⟩ (.cons z (.cons z .nil)))
         ·rintro ⟨b8, ar⟩ ay ⟨rfl, o⟩
          replace h := a2
          try dsimp only at h o
          refine (show WL _ _ _ _ _ [(1, pt q 0), (57, vB b8)] _ from ?_)
          refine wY (ya z) z (nl (th ?_))
          rcases cnd h with ⟨ae, h⟩ | ⟨ae, h⟩
          ·refine WC.condT' z ae (sq (rg (wY (ya z) z (nl (th (rt (At.inBlockR (At.thenR ?_))))))))
           obtain rfl := some1 h
           have a6 : Stp [] (Lg.O0 A) w ar ay := (tr_ (su_ j z) (tr_ (su_ e z) (tr_ (su_ d z) (tr_ (su_ l z) (tr_ (su_ m z) (tr_ (su_ n z) (su_ o z)))))))
           exact At.res (.inl z) z (.tmp z .nil) ⟨z, (se_ a6 z z)⟩
          ·refine WC.condF' z ae (sq (rg (wY (yf fo33_2 z) z ?_)))
           have az := L.st o z
           refine wY (yl ty3 z z (az.cell 2 _ z)) z (wY (Y.eql_i z z) z ?_)
           obtain ⟨cQ, a7, h⟩ := lt1 h
           refine WL.yE (ya z) (congrArg vB a7.symm) z (nl (th ?_))
           rcases cnd h with ⟨af, h⟩ | ⟨af, h⟩
           ·refine WC.condT' z af (sq (rg (wY (yf fo33_10 z) z (wY (yL ty31 z z (az.cells 10 (hl a0.Hist (vl r t C) (vl D E F)) z) z) z ?_))))
            have ba := ((av.i m z z).i n z z).i o z z
            have bd := ((ax.i m z z).i n z z).i o z z
            obtain ⟨cR, bf, h⟩ := bnd h
            refine WL.call (vals := [ag (hl a0.Hist (vl r t C) (vl D E F))]) kok24 z z (c_hist_Check (A := fun _ => True) (a0 := a0.Hist) (Sl.all ba) (Sl.all bd) bf) ?_
            rintro cF bg ⟨rfl, bh⟩
            obtain ⟨b9, ci, cj, aJ⟩ := adoptE ar (fun k => 1) bh
            refine wY (ya z) z (nl (th (rt (At.inBlockR (At.thenR ?_)))))
            obtain rfl := some1 h
            have bi : Stp [] (Lg.O0 A) w b9 bg := (tr_ (su_ j z) (tr_ (su_ e z) (tr_ (su_ d z) (tr_ (su_ l z) (tr_ (su_ m z) (tr_ (su_ n z) (tr_ (su_ o z) (su_ aJ z))))))))
            exact At.res (.inl z) z (.tmp z .nil) ⟨z, (se_ bi z z)⟩
           ·refine WC.condF' z af (sk (At.inBlock (th (sq (rg (wY (ya z) z (nl (th (rt ?_)))))))))
            obtain rfl := some1 h
            have bj : Stp [] (Lg.O0 A) w ar ay := (tr_ (su_ j z) (tr_ (su_ e z) (tr_ (su_ d z) (tr_ (su_ l z) (tr_ (su_ m z) (tr_ (su_ n z) (su_ o z)))))))
            exact At.res (.inl z) z (.tmp z .nil) ⟨z, (se_ bj z z)⟩
end Go.Lg
