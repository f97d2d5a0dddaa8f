/- The walks of HistbitsRows and of what it calls, printed by gen.py. -/
import Derived.Test.YtdpokdaeekanjaaRkLgHbP
import Derived.Test.YtdpokdaeekanjaaProg
set_option linter.unusedVariables false
namespace Go.Lg
open Go Go.Proofs
set_option maxRecDepth 100000
set_option maxHeartbeats 4000000
theorem fmix : Try.prog.follows .mixedOrders = true := by kernel_rfl
theorem ty3 : TyOk Try.prog 3 (.int .i64) 1 8 (.int .i64 0) := tyOk Try.underlying3 (by kernel_rfl)
theorem ty5 : TyOk Try.prog 5 (.int .u8) 1 1 (.int .u8 0) := tyOk Try.underlying5 (by kernel_rfl)
theorem ty9 : TyOk Try.prog 9 .string 1 16 (.string ⟨#[]⟩) := tyOk Try.underlying9 (by kernel_rfl)
theorem ty22 : TyOk Try.prog 22 (.int .u64) 1 8 (.int .u64 0) := tyOk Try.underlying22 (by kernel_rfl)
theorem ty23 : TyOk Try.prog 23 (.slice 22) 1 24 (.slice none 0 0) := tyOk Try.underlying23 (by kernel_rfl)
theorem ty25 : TyOk Try.prog 25 (.struct #[(Field.mk "Offset" 3 0 false "" "" 0), (Field.mk "Counts" 23 1 false "" "" 8)]) 2 32 (.agg #[(.int .i64 0), (.slice none 0 0)]) := tyOk Try.underlying25 (by kernel_rfl)
theorem ty27 : TyOk Try.prog 27 (.struct #[(Field.mk "Scale" 3 0 false "" "" 0), (Field.mk "Zero" 22 1 false "" "" 8), (Field.mk "Pos" 25 2 false "" "" 16), (Field.mk "Neg" 25 4 false "" "" 48)]) 6 80 (.agg #[(.int .i64 0), (.int .u64 0), (.int .i64 0), (.slice none 0 0), (.int .i64 0), (.slice none 0 0)]) := tyOk Try.underlying27 (by kernel_rfl)
theorem ty32 : TyOk Try.prog 32 (.int .i64) 1 8 (.int .i64 0) := tyOk Try.underlying32 (by kernel_rfl)
theorem ty45 : TyOk Try.prog 45 (.slice 27) 1 24 (.slice none 0 0) := tyOk Try.underlying45 (by kernel_rfl)
theorem ty46 : TyOk Try.prog 46 (.pointer 86) 1 8 (.pointer none) := tyOk Try.underlying46 (by kernel_rfl)
theorem ty48 : TyOk Try.prog 48 (.pointer 88) 1 8 (.pointer none) := tyOk Try.underlying48 (by kernel_rfl)
theorem ty60 : TyOk Try.prog 60 (.slice 5) 1 24 (.slice none 0 0) := tyOk Try.underlying60 (by kernel_rfl)
theorem ty61 : TyOk Try.prog 61 (.pointer 107) 1 8 (.pointer none) := tyOk Try.underlying61 (by kernel_rfl)
theorem ty64 : TyOk Try.prog 64 (.slice 3) 1 24 (.slice none 0 0) := tyOk Try.underlying64 (by kernel_rfl)
theorem ty75 : TyOk Try.prog 75 (.array 2 25) 4 64 (.agg #[(.int .i64 0), (.slice none 0 0), (.int .i64 0), (.slice none 0 0)]) := tyOk Try.underlying75 (by kernel_rfl)
theorem ty82 : TyOk Try.prog 82 (.int .u64) 1 8 (.int .u64 0) := tyOk Try.underlying82 (by kernel_rfl)
theorem ty90 : TyOk Try.prog 90 (.struct #[(Field.mk "scale" 3 0 false "" "limnograph/histbits" 0), (Field.mk "posAt" 3 1 false "" "limnograph/histbits" 8), (Field.mk "posSize" 3 2 false "" "limnograph/histbits" 16), (Field.mk "negAt" 3 3 false "" "limnograph/histbits" 24), (Field.mk "negSize" 3 4 false "" "limnograph/histbits" 32)]) 5 40 (.agg #[(.int .i64 0), (.int .i64 0), (.int .i64 0), (.int .i64 0), (.int .i64 0)]) := tyOk Try.underlying90 (by kernel_rfl)
theorem ty95 : TyOk Try.prog 95 (.slice 25) 1 24 (.slice none 0 0) := tyOk Try.underlying95 (by kernel_rfl)
theorem ty107 : TyOk Try.prog 107 (.struct #[(Field.mk "b" 60 0 false "" "limnograph/bitio" 0), (Field.mk "n" 3 1 false "" "limnograph/bitio" 24), (Field.mk "at" 3 2 false "" "limnograph/bitio" 32)]) 3 40 (.agg #[(.slice none 0 0), (.int .i64 0), (.int .i64 0)]) := tyOk Try.underlying107 (by kernel_rfl)
theorem ty113 : TyOk Try.prog 113 (.func #[] #[22] .false) 1 8 .nilFunc := tyOk Try.underlying113 (by kernel_rfl)
theorem ty115 : TyOk Try.prog 115 (.pointer 117) 1 8 (.pointer none) := tyOk Try.underlying115 (by kernel_rfl)
theorem ty125 : TyOk Try.prog 125 (.array 4 3) 4 32 (.agg #[(.int .i64 0), (.int .i64 0), (.int .i64 0), (.int .i64 0)]) := tyOk Try.underlying125 (by kernel_rfl)
theorem fo25_0 : FieldOk Try.prog 25 0 0 := fieldOk Try.underlying25 rfl rfl (by kernel_rfl)
theorem fo25_1 : FieldOk Try.prog 25 1 1 := fieldOk Try.underlying25 rfl rfl (by kernel_rfl)
theorem fo27_0 : FieldOk Try.prog 27 0 0 := fieldOk Try.underlying27 rfl rfl (by kernel_rfl)
theorem fo27_1 : FieldOk Try.prog 27 1 1 := fieldOk Try.underlying27 rfl rfl (by kernel_rfl)
theorem fo27_2 : FieldOk Try.prog 27 2 2 := fieldOk Try.underlying27 rfl rfl (by kernel_rfl)
theorem fo27_3 : FieldOk Try.prog 27 3 4 := fieldOk Try.underlying27 rfl rfl (by kernel_rfl)
theorem fo86_0 : FieldOk Try.prog 86 0 0 := fieldOk Try.underlying86 rfl rfl (by kernel_rfl)
theorem fo86_1 : FieldOk Try.prog 86 1 1 := fieldOk Try.underlying86 rfl rfl (by kernel_rfl)
theorem fo88_0 : FieldOk Try.prog 88 0 0 := fieldOk Try.underlying88 rfl rfl (by kernel_rfl)
theorem fo88_1 : FieldOk Try.prog 88 1 1 := fieldOk Try.underlying88 rfl rfl (by kernel_rfl)
theorem fo107_0 : FieldOk Try.prog 107 0 0 := fieldOk Try.underlying107 rfl rfl (by kernel_rfl)
theorem fo107_1 : FieldOk Try.prog 107 1 1 := fieldOk Try.underlying107 rfl rfl (by kernel_rfl)
theorem fo107_2 : FieldOk Try.prog 107 2 2 := fieldOk Try.underlying107 rfl rfl (by kernel_rfl)
theorem fo117_0 : FieldOk Try.prog 117 0 0 := fieldOk Try.underlying117 rfl rfl (by kernel_rfl)
theorem fo117_1 : FieldOk Try.prog 117 1 1 := fieldOk Try.underlying117 rfl rfl (by kernel_rfl)
theorem agok90 : AgOk Try.prog 90 #[(Field.mk "scale" 3 0 false "" "limnograph/histbits" 0), (Field.mk "posAt" 3 1 false "" "limnograph/histbits" 8), (Field.mk "posSize" 3 2 false "" "limnograph/histbits" 16), (Field.mk "negAt" 3 3 false "" "limnograph/histbits" 24), (Field.mk "negSize" 3 4 false "" "limnograph/histbits" 32)] := ⟨Try.underlying90, by kernel_rfl, by kernel_rfl⟩
theorem x64_58 : X64 Try.prog 58 := x64 Try.func58 (by kernel_rfl) rfl (by kernel_rfl) (by kernel_rfl)
theorem kok16 : CallOk Try.prog 16 := callOk Try.func16 (by kernel_rfl) rfl
theorem kok17 : CallOk Try.prog 17 := callOk Try.func17 (by kernel_rfl) rfl
theorem kok18 : CallOk Try.prog 18 := callOk Try.func18 (by kernel_rfl) rfl
theorem kok19 : CallOk Try.prog 19 := callOk Try.func19 (by kernel_rfl) rfl
theorem kok20 : CallOk Try.prog 20 := callOk Try.func20 (by kernel_rfl) rfl
theorem kok22 : CallOk Try.prog 22 := callOk Try.func22 (by kernel_rfl) rfl
theorem kok27 : CallOk Try.prog 27 := callOk Try.func27 (by kernel_rfl) rfl
theorem kok30 : CallOk Try.prog 30 := callOk Try.func30 (by kernel_rfl) rfl
theorem kok31 : CallOk Try.prog 31 := callOk Try.func31 (by kernel_rfl) rfl
theorem kok32 : CallOk Try.prog 32 := callOk Try.func32 (by kernel_rfl) rfl
theorem kok33 : CallOk Try.prog 33 := callOk Try.func33 (by kernel_rfl) rfl
theorem kok34 : CallOk Try.prog 34 := callOk Try.func34 (by kernel_rfl) rfl
theorem kok35 : CallOk Try.prog 35 := callOk Try.func35 (by kernel_rfl) rfl
theorem kok36 : CallOk Try.prog 36 := callOk Try.func36 (by kernel_rfl) rfl
theorem kok45 : CallOk Try.prog 45 := callOk Try.func45 (by kernel_rfl) rfl
theorem kok47 : CallOk Try.prog 47 := callOk Try.func47 (by kernel_rfl) rfl
theorem kok50 : CallOk Try.prog 50 := callOk Try.func50 (by kernel_rfl) rfl
theorem kok51 : CallOk Try.prog 51 := callOk Try.func51 (by kernel_rfl) rfl
theorem kok52 : CallOk Try.prog 52 := callOk Try.func52 (by kernel_rfl) rfl
theorem kok53 : CallOk Try.prog 53 := callOk Try.func53 (by kernel_rfl) rfl
theorem kok54 : CallOk Try.prog 54 := callOk Try.func54 (by kernel_rfl) rfl
theorem kok55 : CallOk Try.prog 55 := callOk Try.func55 (by kernel_rfl) rfl
theorem kok56 : CallOk Try.prog 56 := callOk Try.func56 (by kernel_rfl) rfl
theorem kok57 : CallOk Try.prog 57 := callOk Try.func57 (by kernel_rfl) rfl
theorem kok59 : CallOk Try.prog 59 := callOk Try.func59 (by kernel_rfl) rfl
theorem kok60 : CallOk Try.prog 60 := callOk Try.func60 (by kernel_rfl) rfl
theorem kok61 : CallOk Try.prog 61 := callOk Try.func61 (by kernel_rfl) rfl
theorem kok65 : CallOk Try.prog 65 := callOk Try.func65 (by kernel_rfl) rfl
theorem kok66 : CallOk Try.prog 66 := callOk Try.func66 (by kernel_rfl) rfl
theorem kok67 : CallOk Try.prog 67 := callOk Try.func67 (by kernel_rfl) rfl
theorem kok68 : CallOk Try.prog 68 := callOk Try.func68 (by kernel_rfl) rfl
theorem kok69 : CallOk Try.prog 69 := callOk Try.func69 (by kernel_rfl) rfl
theorem kok70 : CallOk Try.prog 70 := callOk Try.func70 (by kernel_rfl) rfl
theorem kok75 : CallOk Try.prog 75 := callOk Try.func75 (by kernel_rfl) rfl
theorem kok77 : CallOk Try.prog 77 := callOk Try.func77 (by kernel_rfl) rfl
theorem kok81 : CallOk Try.prog 81 := callOk Try.func81 (by kernel_rfl) rfl
theorem kok82 : CallOk Try.prog 82 := callOk Try.func82 (by kernel_rfl) rfl
theorem kok83 : CallOk Try.prog 83 := callOk Try.func83 (by kernel_rfl) rfl
theorem kok84 : CallOk Try.prog 84 := callOk Try.func84 (by kernel_rfl) rfl
theorem kok85 : CallOk Try.prog 85 := callOk Try.func85 (by kernel_rfl) rfl
theorem kok86 : CallOk Try.prog 86 := callOk Try.func86 (by kernel_rfl) rfl
theorem kok87 : CallOk Try.prog 87 := callOk Try.func87 (by kernel_rfl) rfl
theorem kok88 : CallOk Try.prog 88 := callOk Try.func88 (by kernel_rfl) rfl
theorem kok89 : CallOk Try.prog 89 := callOk Try.func89 (by kernel_rfl) rfl
theorem kok90 : CallOk Try.prog 90 := callOk Try.func90 (by kernel_rfl) rfl
theorem kok91 : CallOk Try.prog 91 := callOk Try.func91 (by kernel_rfl) rfl
theorem kok92 : CallOk Try.prog 92 := callOk Try.func92 (by kernel_rfl) rfl
theorem kok94 : CallOk Try.prog 94 := callOk Try.func94 (by kernel_rfl) rfl
theorem kok95 : CallOk Try.prog 95 := callOk Try.func95 (by kernel_rfl) rfl
theorem kok96 : CallOk Try.prog 96 := callOk Try.func96 (by kernel_rfl) rfl
theorem kok97 : CallOk Try.prog 97 := callOk Try.func97 (by kernel_rfl) rfl
theorem kok103 : CallOk Try.prog 103 := callOk Try.func103 (by kernel_rfl) rfl
theorem kok104 : CallOk Try.prog 104 := callOk Try.func104 (by kernel_rfl) rfl
theorem kok105 : CallOk Try.prog 105 := callOk Try.func105 (by kernel_rfl) rfl
theorem kok106 : CallOk Try.prog 106 := callOk Try.func106 (by kernel_rfl) rfl
theorem kok107 : CallOk Try.prog 107 := callOk Try.func107 (by kernel_rfl) rfl
theorem kok108 : CallOk Try.prog 108 := callOk Try.func108 (by kernel_rfl) rfl
theorem kok109 : CallOk Try.prog 109 := callOk Try.func109 (by kernel_rfl) rfl
theorem kok110 : CallOk Try.prog 110 := callOk Try.func110 (by kernel_rfl) rfl
theorem kok111 : CallOk Try.prog 111 := callOk Try.func111 (by kernel_rfl) rfl
theorem kok112 : CallOk Try.prog 112 := callOk Try.func112 (by kernel_rfl) rfl
theorem kok113 : CallOk Try.prog 113 := callOk Try.func113 (by kernel_rfl) rfl
theorem c_ref08_Light {A : Nat → Prop} {v0_3 : Value} {v0_5 : Value} {a0 : api_Hist} {w : World} (hs0_3 : Sl Rep.u w A v0_3 a0.Pos.Counts) (hs0_5 : Sl Rep.u w A v0_5 a0.Neg.Counts) {r0 : Bool} (h : ref08_Light a0 = some r0) : Rets Try.prog 16 [Value.agg (List.toArray [vi a0.Scale, vu a0.Zero, vi a0.Pos.Offset, v0_3, vi a0.Neg.Offset, v0_5])] w (fun v w' => v = Value.bool r0 ∧ Ext w w') := by
 unfold ref08_Light at h
 refine Rets.enter Try.func16 rfl rfl ?_
 have hf11 : Sl Rep.u w (imm (Lg.O0 A)) v0_3 a0.Pos.Counts := (Sl.start hs0_3)
 have hf12 : Sl Rep.u w (imm (Lg.O0 A)) v0_5 a0.Neg.Counts := (Sl.start hs0_5)
 refine (show WC _ _ _ _ [(0, Value.agg (List.toArray [vi a0.Scale, vu a0.Zero, vi a0.Pos.Offset, v0_3, vi a0.Neg.Offset, v0_5]))] _ from ?_)
 refine WC.seq ?_
 refine WC.region ?_
 have hh16 := h
 obtain ⟨p13, m14, c15, rfl⟩ := hf11.shape
 have h := hh16
 have hh20 := h
 obtain ⟨p17, m18, c19, rfl⟩ := hf12.shape
 have h := hh20
 refine WL.box (O := (Lg.O0 A)) 11 [vi a0.Scale, vu a0.Zero, vi a0.Pos.Offset, (Value.slice p13 m14 c15), vi a0.Neg.Offset, (Value.slice p17 m18 c19)] rfl rfl rfl ?_
 intro p22 O23 wd24 hst25 hb21
 refine WL.y (Y.assign rfl) rfl ?_
 refine WL.nil ?_
 refine At.then ?_
 refine WC.seq ?_
 refine WC.region ?_
 refine WL.y (Y.fieldAddr fo27_2 rfl) rfl ?_
 refine WL.y (Y.fieldAddr fo25_1 rfl) rfl ?_
 refine WL.y (Y.loadSc ty23 rfl rfl (hb21.cell 3 _ rfl)) rfl ?_
 have hf26 := hf11.mono (imm_st hst25 rfl rfl)
 refine WL.y (Y.len ty23 rfl hf26) rfl ?_
 refine WL.y (Y.leq_i rfl rfl) rfl ?_
 refine WL.y (Y.move rfl) rfl ?_
 refine WL.cut 6 (σ := Unit) (fun _ w' => wd24 = w') (fun _ => [(14, Value.bool ((decide ((a0.Pos.Counts.length : Int) ≤ 300)) && (decide ((a0.Neg.Counts.length : Int) ≤ 300))))]) ?_ ?_
 ·refine WL.part 8 rfl (fun hE27 => ?_) (fun hE27 => ?_)
  ·refine WL.ung rfl rfl ?_
   refine WL.y (Y.fieldAddr fo27_3 rfl) rfl ?_
   refine WL.ung rfl rfl ?_
   refine WL.y (Y.fieldAddr fo25_1 rfl) rfl ?_
   refine WL.ung rfl rfl ?_
   refine WL.y (Y.loadSc ty23 rfl rfl (hb21.cell 5 _ rfl)) rfl ?_
   refine WL.ung rfl rfl ?_
   have hf28 := hf12.mono (imm_st hst25 rfl rfl)
   refine WL.y (Y.len ty23 rfl hf28) rfl ?_
   refine WL.ung rfl rfl ?_
   refine WL.y (Y.leq_i rfl rfl) rfl ?_
   refine WL.y (Y.pick (b := true) rfl rfl) rfl ?_
   refine WL.ren (v' := Value.bool ((decide ((a0.Pos.Counts.length : Int) ≤ 300)) && (decide ((a0.Neg.Counts.length : Int) ≤ 300)))) 14 rfl (congrArg Value.bool (andT hE27)) ?_
   exact WL.nil (At.join () rfl (.cons rfl .nil))
  ·refine WL.gS rfl rfl rfl rfl ?_
   refine WL.gS rfl rfl rfl rfl ?_
   refine WL.gS rfl rfl rfl rfl ?_
   refine WL.gS rfl rfl rfl rfl ?_
   refine WL.gS rfl rfl rfl rfl ?_
   refine WL.y (Y.pick (b := false) rfl rfl) rfl ?_
   refine WL.ren (v' := Value.bool ((decide ((a0.Pos.Counts.length : Int) ≤ 300)) && (decide ((a0.Neg.Counts.length : Int) ≤ 300)))) 14 rfl (congrArg Value.bool (andF hE27)) ?_
   exact WL.nil (At.join () rfl (.cons rfl .nil))
 ·rintro _ _ rfl
  refine (show WL _ _ _ _ _ [(14, Value.bool ((decide ((a0.Pos.Counts.length : Int) ≤ 300)) && (decide ((a0.Neg.Counts.length : Int) ≤ 300))))] _ from ?_)
  obtain ⟨t29, ht29, h⟩ := lt1 h
  refine WL.yE (Y.assign rfl) (congrArg Value.bool ht29.symm) rfl ?_
  refine WL.nil ?_
  refine At.then ?_
  refine WC.ret ?_
  obtain rfl := some1 h
  have hs30 : Stp [] (Lg.O0 A) w O23 wd24 := (Stp.up hst25 rfl)
  exact At.res (.inl rfl) rfl (.tmp rfl .nil) ⟨rfl, (Stp.ext hs30 rfl rfl)⟩
theorem c_ref08_sum {A : Nat → Prop} {a0 : UInt64} {a1 : List UInt64} {v1 : Value} {w : World} (hs1 : Sl Rep.u w A v1 a1) {r0 : UInt64} {r1 : Bool} (h : ref08_sum a0 a1 = some (r0, r1)) : Rets Try.prog 59 [vu a0, v1] w (fun v w' => v = Value.tuple (List.toArray [vu r0, Value.bool r1]) ∧ Ext w w') := by
 unfold ref08_sum at h
 refine Rets.enter Try.func59 rfl rfl ?_
 have hf11 : Sl Rep.u w (imm (Lg.O0 A)) v1 a1 := (Sl.start hs1)
 refine (show WC _ _ _ _ [(0, vu a0), (1, v1)] _ from ?_)
 refine WC.seq ?_
 refine WC.region ?_
 refine WL.y (Y.assign (v := vu 0) rfl) rfl ?_
 refine WL.y (Y.assign rfl) rfl ?_
 refine WL.nil ?_
 refine At.then ?_
 refine WC.seq ?_
 refine WC.seq ?_
 refine WC.region ?_
 refine WL.y (Y.assign rfl) rfl ?_
 refine WL.nil ?_
 refine At.then ?_
 refine WC.block ?_
 obtain ⟨p15, h, hk17⟩ := flow1 h
 obtain ⟨k16, h⟩ := loop_some h
 refine WC.joinB 0 (σ := UInt64) (fun x w' => p15 = .go x ∧ w = w') (fun x => [(0, vu x)]) ?_ ?_
 ·refine WC.loop (σ := (UInt64 × Int)) (fun x k w' => loopN k (ref08_sum_lp1 a1) (x.1, x.2) = some p15 ∧ w = w') (fun x => [(0, vu x.1), (1, v1), (6, vi x.2)]) (a0, 0) k16 (.cons rfl (.cons rfl (.cons rfl .nil))) ⟨h, rfl⟩ ?_
  rintro ⟨a12, i13⟩ k16 _ ⟨h, rfl⟩
  obtain ⟨j18, q19, rfl, h, hn20⟩ := rnd1 h
  unfold ref08_sum_lp1 at h
  try dsimp only at h
  refine (show WC _ _ _ _ [(0, vu a12), (1, v1), (6, vi i13)] _ from ?_)
  refine WC.seq ?_
  refine WC.seq ?_
  refine WC.region ?_
  refine WL.y (Y.move rfl) rfl ?_
  refine WL.y (Y.move rfl) rfl ?_
  refine WL.y (Y.len ty23 rfl hf11) rfl ?_
  refine WL.y (Y.lss_i rfl rfl) rfl ?_
  refine WL.nil ?_
  refine At.then ?_
  rcases cnd h with ⟨hc21, h⟩ | ⟨hc21, h⟩
  ·refine WC.condT' rfl hc21 ?_
   refine WC.skip ?_
   refine At.then ?_
   refine WC.seq ?_
   refine WC.block ?_
   refine WC.seq ?_
   refine WC.seq ?_
   refine WC.region ?_
   refine WL.y (Y.move rfl) rfl ?_
   refine WL.y (Y.move rfl) rfl ?_
   obtain ⟨e22, he22, h⟩ := bnd h
   obtain ⟨b23, off31, cap30, cs29, hv24, hi25, hl26, hc27, hok28, hA32⟩ := Sl.at2 hf11 he22
   obtain rfl := hok28
   replace hc27 : CellsAt _ _ _ [vu e22] := hc27
   have hca33 := CAt.imm hc27 hA32
   refine WL.y (Y.indexAddr ty23 ty22 rfl hv24 rfl hi25 hl26) rfl ?_
   refine WL.y (Y.loadSc ty22 rfl rfl hca33.at_) rfl ?_
   refine WL.y (Y.move rfl) rfl ?_
   refine WL.y (Y.sub_u (a := 18446744073709551615) rfl rfl) rfl ?_
   refine WL.y (Y.gtr_u rfl rfl) rfl ?_
   refine WL.nil ?_
   refine At.then ?_
   rcases cnd h with ⟨hc34, h⟩ | ⟨hc34, h⟩
   ·refine WC.condT' rfl hc34 ?_
    refine WC.seq ?_
    refine WC.region ?_
    refine WL.y (Y.assign (v := vu 0) rfl) rfl ?_
    refine WL.y (Y.assign rfl) rfl ?_
    refine WL.nil ?_
    refine At.then ?_
    refine WC.ret ?_
    refine At.thenR ?_
    refine At.inBlockR ?_
    refine At.thenR ?_
    refine At.loopR ?_
    have h := outr1 h hn20 hk17
    refine At.joinBR ?_
    refine At.inBlockR ?_
    refine At.thenR ?_
    obtain ⟨rfl, rfl⟩ := tup2 h
    have hs35 : Stp [] (Lg.O0 A) w (Lg.O0 A) w := (Stp.refl _ _ _)
    exact At.res (.inl rfl) rfl (.tmp rfl (.tmp rfl .nil)) ⟨rfl, (Stp.ext hs35 rfl rfl)⟩
   ·refine WC.condF' rfl hc34 ?_
    refine WC.skip ?_
    refine At.then ?_
    refine WC.region ?_
    refine WL.y (Y.move rfl) rfl ?_
    refine WL.y (Y.move rfl) rfl ?_
    refine WL.y (Y.move rfl) rfl ?_
    obtain ⟨e36, he36, h⟩ := bnd h
    obtain ⟨b37, off45, cap44, cs43, hv38, hi39, hl40, hc41, hok42, hA46⟩ := Sl.at2 hf11 he36
    obtain rfl := hok42
    replace hc41 : CellsAt _ _ _ [vu e36] := hc41
    have hca47 := CAt.imm hc41 hA46
    refine WL.y (Y.indexAddr ty23 ty22 rfl hv38 rfl hi39 hl40) rfl ?_
    refine WL.y (Y.loadSc ty22 rfl rfl hca47.at_) rfl ?_
    refine WL.y (Y.add_u rfl rfl) rfl ?_
    obtain ⟨a48, ha48, h⟩ := lt1 h
    refine WL.yE (Y.assign rfl) (congrArg vu ha48.symm) rfl ?_
    refine WL.nil ?_
    refine At.inBlock ?_
    refine At.then ?_
    refine WC.region ?_
    refine WL.y (Y.move rfl) rfl ?_
    refine WL.y (Y.add_i rfl rfl) rfl ?_
    obtain ⟨i49, hi49, h⟩ := lt1 h
    refine WL.yE (Y.assign rfl) (congrArg vi hi49.symm) rfl ?_
    refine WL.nil ?_
    exact At.round (a48, i49) j18 (Nat.lt_succ_self _) ⟨next1 h hn20, rfl⟩ (.cons rfl (.cons rfl (.cons rfl .nil)))
  ·refine WC.condF' rfl hc21 ?_
   refine WC.exit ?_
   refine At.thenX ?_
   refine At.loopX ?_
   exact At.hitB (σ := UInt64) a12 ⟨brk1 h hn20, rfl⟩ (.cons rfl .nil)
 ·rintro a14 _ ⟨rfl, rfl⟩
  replace h := flowK_go hk17
  try dsimp only at h
  refine (show At _ _ _ [(0, vu a14)] _ from ?_)
  refine At.inBlockHit ?_
  refine At.then ?_
  refine WC.seq ?_
  refine WC.region ?_
  refine WL.y (Y.move rfl) rfl ?_
  refine WL.y (Y.assign rfl) rfl ?_
  refine WL.y (Y.assign rfl) rfl ?_
  refine WL.nil ?_
  refine At.then ?_
  refine WC.ret ?_
  obtain ⟨rfl, rfl⟩ := tup2 h
  have hs50 : Stp [] (Lg.O0 A) w (Lg.O0 A) w := (Stp.refl _ _ _)
  exact At.res (.inl rfl) rfl (.tmp rfl (.tmp rfl .nil)) ⟨rfl, (Stp.ext hs50 rfl rfl)⟩
theorem c_ref08_Total {A : Nat → Prop} {v0_3 : Value} {v0_5 : Value} {a0 : api_Hist} {w : World} (hs0_3 : Sl Rep.u w A v0_3 a0.Pos.Counts) (hs0_5 : Sl Rep.u w A v0_5 a0.Neg.Counts) {r0 : UInt64} {r1 : Bool} (h : ref08_Total a0 = some (r0, r1)) : Rets Try.prog 18 [Value.agg (List.toArray [vi a0.Scale, vu a0.Zero, vi a0.Pos.Offset, v0_3, vi a0.Neg.Offset, v0_5])] w (fun v w' => v = Value.tuple (List.toArray [vu r0, Value.bool r1]) ∧ Ext w w') := by
 unfold ref08_Total at h
 refine Rets.enter Try.func18 rfl rfl ?_
 have hf11 : Sl Rep.u w (imm (Lg.O0 A)) v0_3 a0.Pos.Counts := (Sl.start hs0_3)
 have hf12 : Sl Rep.u w (imm (Lg.O0 A)) v0_5 a0.Neg.Counts := (Sl.start hs0_5)
 refine (show WC _ _ _ _ [(0, Value.agg (List.toArray [vi a0.Scale, vu a0.Zero, vi a0.Pos.Offset, v0_3, vi a0.Neg.Offset, v0_5]))] _ from ?_)
 refine WC.seq ?_
 refine WC.region ?_
 have hh16 := h
 obtain ⟨p13, m14, c15, rfl⟩ := hf11.shape
 have h := hh16
 have hh20 := h
 obtain ⟨p17, m18, c19, rfl⟩ := hf12.shape
 have h := hh20
 refine WL.box (O := (Lg.O0 A)) 11 [vi a0.Scale, vu a0.Zero, vi a0.Pos.Offset, (Value.slice p13 m14 c15), vi a0.Neg.Offset, (Value.slice p17 m18 c19)] rfl rfl rfl ?_
 intro p22 O23 wd24 hst25 hb21
 refine WL.y (Y.assign (v := vu 0) rfl) rfl ?_
 refine WL.y (Y.assign rfl) rfl ?_
 refine WL.nil ?_
 refine At.then ?_
 refine WC.seq ?_
 refine WC.region ?_
 refine WL.y (Y.fieldAddr fo27_1 rfl) rfl ?_
 refine WL.y (Y.loadSc ty22 rfl rfl (hb21.cell 1 _ rfl)) rfl ?_
 refine WL.y (Y.fieldAddr fo27_2 rfl) rfl ?_
 refine WL.y (Y.fieldAddr fo25_1 rfl) rfl ?_
 refine WL.y (Y.loadSc ty23 rfl rfl (hb21.cell 3 _ rfl)) rfl ?_
 have hf26 := hf11.mono (imm_st hst25 rfl rfl)
 obtain ⟨⟨r27, r28⟩, hp29, h⟩ := bnd h
 refine WL.call (vals := [vu a0.Zero, (Value.slice p13 m14 c15)]) kok59 rfl rfl (c_ref08_sum (A := fun _ => True) (Sl.all hf26) hp29) ?_
 rintro vr32 wd31 ⟨rfl, hm30⟩
 obtain ⟨O33, hold34, hnew35, hst36⟩ := adoptE O23 (fun k => 1) hm30
 refine WL.y (Y.move rfl) rfl ?_
 refine WL.y (Y.extract rfl rfl) rfl ?_
 refine WL.y (Y.extract rfl rfl) rfl ?_
 refine WL.y (Y.assign rfl) rfl ?_
 refine WL.y (Y.assign rfl) rfl ?_
 refine WL.nil ?_
 refine At.then ?_
 refine WC.seq ?_
 refine WC.seq ?_
 refine WC.region ?_
 refine WL.y (Y.move rfl) rfl ?_
 refine WL.y (Y.not rfl) rfl ?_
 refine WL.nil ?_
 refine At.then ?_
 rcases cnd h with ⟨hc37, h⟩ | ⟨hc37, h⟩
 ·refine WC.condT' rfl hc37 ?_
  refine WC.seq ?_
  refine WC.region ?_
  refine WL.y (Y.assign (v := vu 0) rfl) rfl ?_
  refine WL.y (Y.assign rfl) rfl ?_
  refine WL.nil ?_
  refine At.then ?_
  refine WC.ret ?_
  refine At.thenR ?_
  obtain ⟨rfl, rfl⟩ := tup2 h
  have hs38 : Stp [] (Lg.O0 A) w O33 wd31 := (Stp.trans (Stp.up hst25 rfl) (Stp.up hst36 rfl))
  exact At.res (.inl rfl) rfl (.tmp rfl (.tmp rfl .nil)) ⟨rfl, (Stp.ext hs38 rfl rfl)⟩
 ·refine WC.condF' rfl hc37 ?_
  refine WC.skip ?_
  refine At.then ?_
  refine WC.seq ?_
  refine WC.region ?_
  refine WL.y (Y.move rfl) rfl ?_
  refine WL.y (Y.fieldAddr fo27_3 rfl) rfl ?_
  refine WL.y (Y.fieldAddr fo25_1 rfl) rfl ?_
  have hf39 := hb21.st hst36 rfl
  refine WL.y (Y.loadSc ty23 rfl rfl (hf39.cell 5 _ rfl)) rfl ?_
  have hf40 := hf12.mono (imm_st hst25 rfl rfl)
  have hf41 := hf40.mono (imm_st hst36 rfl rfl)
  obtain ⟨⟨r42, r43⟩, hp44, h⟩ := bnd h
  refine WL.call (vals := [vu r27, (Value.slice p17 m18 c19)]) kok59 rfl rfl (c_ref08_sum (A := fun _ => True) (Sl.all hf41) hp44) ?_
  rintro vr47 wd46 ⟨rfl, hm45⟩
  obtain ⟨O48, hold49, hnew50, hst51⟩ := adoptE O33 (fun k => 1) hm45
  refine WL.y (Y.extract rfl rfl) rfl ?_
  refine WL.y (Y.extract rfl rfl) rfl ?_
  refine WL.y (Y.assign rfl) rfl ?_
  refine WL.y (Y.assign rfl) rfl ?_
  refine WL.nil ?_
  refine At.then ?_
  refine WC.ret ?_
  obtain ⟨rfl, rfl⟩ := tup2 h
  have hs52 : Stp [] (Lg.O0 A) w O48 wd46 := (Stp.trans (Stp.up hst25 rfl) (Stp.trans (Stp.up hst36 rfl) (Stp.up hst51 rfl)))
  exact At.res (.inl rfl) rfl (.tmp rfl (.tmp rfl .nil)) ⟨rfl, (Stp.ext hs52 rfl rfl)⟩
theorem c_ref08_side {A : Nat → Prop} {v0_1 : Value} {a0 : api_Side} {w : World} (hs0_1 : Sl Rep.u w A v0_1 a0.Counts) {r0 : Int} (h : ref08_side a0 = some r0) : Rets Try.prog 61 [Value.agg (List.toArray [vi a0.Offset, v0_1])] w (fun v w' => v = vi r0 ∧ Ext w w') := by
 unfold ref08_side at h
 refine Rets.enter Try.func61 rfl rfl ?_
 have hf11 : Sl Rep.u w (imm (Lg.O0 A)) v0_1 a0.Counts := (Sl.start hs0_1)
 refine (show WC _ _ _ _ [(0, Value.agg (List.toArray [vi a0.Offset, v0_1]))] _ from ?_)
 refine WC.seq ?_
 refine WC.region ?_
 have hh15 := h
 obtain ⟨p12, m13, c14, rfl⟩ := hf11.shape
 have h := hh15
 refine WL.box (O := (Lg.O0 A)) 11 [vi a0.Offset, (Value.slice p12 m13 c14)] rfl rfl rfl ?_
 intro p17 O18 wd19 hst20 hb16
 refine WL.y (Y.assign rfl) rfl ?_
 refine WL.nil ?_
 refine At.then ?_
 refine WC.seq ?_
 refine WC.region ?_
 refine WL.y (Y.fieldAddr fo25_1 rfl) rfl ?_
 refine WL.y (Y.loadSc ty23 rfl rfl (hb16.cell 1 _ rfl)) rfl ?_
 have hf21 := hf11.mono (imm_st hst20 rfl rfl)
 refine WL.y (Y.len ty23 rfl hf21) rfl ?_
 obtain ⟨nv22, hnv22, h⟩ := lt1 h
 refine WL.yE (Y.assign rfl) (congrArg vi hnv22.symm) rfl ?_
 refine WL.nil ?_
 refine At.then ?_
 refine WC.seq ?_
 refine WC.seq ?_
 refine WC.region ?_
 refine WL.y (Y.move rfl) rfl ?_
 refine WL.y (Y.gtr_i rfl rfl) rfl ?_
 refine WL.nil ?_
 refine At.then ?_
 rcases cnd h with ⟨hc23, h⟩ | ⟨hc23, h⟩
 ·refine WC.condT' rfl hc23 ?_
  refine WC.seq ?_
  refine WC.region ?_
  refine WL.y (Y.assign rfl) rfl ?_
  refine WL.nil ?_
  refine At.then ?_
  refine WC.ret ?_
  refine At.thenR ?_
  obtain rfl := some1 h
  have hs24 : Stp [] (Lg.O0 A) w O18 wd19 := (Stp.up hst20 rfl)
  exact At.res (.inl rfl) rfl (.tmp rfl .nil) ⟨rfl, (Stp.ext hs24 rfl rfl)⟩
 ·refine WC.condF' rfl hc23 ?_
  refine WC.skip ?_
  refine At.then ?_
  refine WC.seq ?_
  refine WC.seq ?_
  refine WC.region ?_
  refine WL.y (Y.move rfl) rfl ?_
  refine WL.y (Y.eql_i rfl rfl) rfl ?_
  refine WL.nil ?_
  refine At.then ?_
  rcases cnd h with ⟨hc25, h⟩ | ⟨hc25, h⟩
  ·refine WC.condT' rfl hc25 ?_
   refine WC.seq ?_
   refine WC.seq ?_
   refine WC.region ?_
   refine WL.y (Y.fieldAddr fo25_0 rfl) rfl ?_
   refine WL.y (Y.loadSc ty3 rfl rfl (hb16.cell 0 _ rfl)) rfl ?_
   refine WL.y (Y.neq_i rfl rfl) rfl ?_
   refine WL.nil ?_
   refine At.then ?_
   rcases cnd h with ⟨hc26, h⟩ | ⟨hc26, h⟩
   ·refine WC.condT' rfl hc26 ?_
    refine WC.seq ?_
    refine WC.region ?_
    refine WL.y (Y.assign rfl) rfl ?_
    refine WL.nil ?_
    refine At.then ?_
    refine WC.ret ?_
    refine At.thenR ?_
    refine At.thenR ?_
    obtain rfl := some1 h
    have hs27 : Stp [] (Lg.O0 A) w O18 wd19 := (Stp.up hst20 rfl)
    exact At.res (.inl rfl) rfl (.tmp rfl .nil) ⟨rfl, (Stp.ext hs27 rfl rfl)⟩
   ·refine WC.condF' rfl hc26 ?_
    refine WC.skip ?_
    refine At.then ?_
    refine WC.seq ?_
    refine WC.region ?_
    refine WL.y (Y.assign rfl) rfl ?_
    refine WL.nil ?_
    refine At.then ?_
    refine WC.ret ?_
    refine At.thenR ?_
    obtain rfl := some1 h
    have hs28 : Stp [] (Lg.O0 A) w O18 wd19 := (Stp.up hst20 rfl)
    exact At.res (.inl rfl) rfl (.tmp rfl .nil) ⟨rfl, (Stp.ext hs28 rfl rfl)⟩
  ·refine WC.condF' rfl hc25 ?_
   refine WC.skip ?_
   refine At.then ?_
   refine WC.seq ?_
   refine WC.seq ?_
   refine WC.region ?_
   refine WL.y (Y.fieldAddr fo25_1 rfl) rfl ?_
   refine WL.y (Y.loadSc ty23 rfl rfl (hb16.cell 1 _ rfl)) rfl ?_
   obtain ⟨e29, he29, h⟩ := bnd h
   obtain ⟨b30, off38, cap37, cs36, hv31, hi32, hl33, hc34, hok35, hA39⟩ := Sl.at2 hf21 he29
   obtain rfl := hok35
   replace hc34 : CellsAt _ _ _ [vu e29] := hc34
   have hca40 := CAt.imm hc34 hA39
   refine WL.y (Y.indexAddr ty23 ty22 rfl hv31 rfl hi32 hl33) rfl ?_
   refine WL.y (Y.loadSc ty22 rfl rfl hca40.at_) rfl ?_
   refine WL.y (Y.eql_u (b := 0) rfl rfl) rfl ?_
   refine WL.y (Y.move rfl) rfl ?_
   obtain ⟨p42, h, hk43⟩ := bnd h
   refine WL.cut 8 (σ := Bool) (fun x w' => x = p42 ∧ wd19 = w') (fun x => [(1, Value.pointer (some ⟨p17, 0, none⟩)), (3, vi nv22), (27, Value.bool x)]) ?_ ?_
   ·rcases cnd h with ⟨hE44, h⟩ | ⟨hE44, h⟩
    ·refine WL.ren 19 rfl (congrArg Value.bool hE44) ?_
     refine WL.gS rfl rfl rfl rfl ?_
     refine WL.gS rfl rfl rfl rfl ?_
     refine WL.gS rfl rfl rfl rfl ?_
     refine WL.gS rfl rfl rfl rfl ?_
     refine WL.gS rfl rfl rfl rfl ?_
     refine WL.gS rfl rfl rfl rfl ?_
     refine WL.gS rfl rfl rfl rfl ?_
     refine WL.y (Y.pick (b := true) rfl rfl) rfl ?_
     exact WL.nil (At.join (σ := Bool) true ⟨some1 h, rfl⟩ (.cons rfl (.cons rfl (.cons rfl .nil))))
    ·refine WL.ren 19 rfl (congrArg Value.bool hE44) ?_
     refine WL.ung rfl rfl ?_
     refine WL.y (Y.fieldAddr fo25_1 rfl) rfl ?_
     refine WL.ung rfl rfl ?_
     refine WL.y (Y.loadSc ty23 rfl rfl (hb16.cell 1 _ rfl)) rfl ?_
     refine WL.ung rfl rfl ?_
     refine WL.y (Y.move rfl) rfl ?_
     refine WL.ung rfl rfl ?_
     refine WL.y (Y.sub_i rfl rfl) rfl ?_
     refine WL.ung rfl rfl ?_
     obtain ⟨e45, he45, h⟩ := bnd h
     obtain ⟨b46, off54, cap53, cs52, hv47, hi48, hl49, hc50, hok51, hA55⟩ := Sl.at2 hf21 he45
     obtain rfl := hok51
     replace hc50 : CellsAt _ _ _ [vu e45] := hc50
     have hca56 := CAt.imm hc50 hA55
     refine WL.y (Y.indexAddr ty23 ty22 rfl hv47 rfl hi48 hl49) rfl ?_
     refine WL.ung rfl rfl ?_
     refine WL.y (Y.loadSc ty22 rfl rfl hca56.at_) rfl ?_
     refine WL.ung rfl rfl ?_
     refine WL.y (Y.eql_u (b := 0) rfl rfl) rfl ?_
     refine WL.y (Y.pick (b := false) rfl rfl) rfl ?_
     exact WL.nil (At.join (σ := Bool) (decide (e45 = 0)) ⟨some1 h, rfl⟩ (.cons rfl (.cons rfl (.cons rfl .nil))))
   ·rintro x41 _ ⟨rfl, rfl⟩
    replace h := hk43
    try dsimp only at h
    refine (show WL _ _ _ _ _ [(1, Value.pointer (some ⟨p17, 0, none⟩)), (3, vi nv22), (27, Value.bool x41)] _ from ?_)
    refine WL.nil ?_
    refine At.then ?_
    rcases cnd h with ⟨hc57, h⟩ | ⟨hc57, h⟩
    ·refine WC.condT' rfl hc57 ?_
     refine WC.seq ?_
     refine WC.region ?_
     refine WL.y (Y.assign rfl) rfl ?_
     refine WL.nil ?_
     refine At.then ?_
     refine WC.ret ?_
     refine At.thenR ?_
     obtain rfl := some1 h
     have hs58 : Stp [] (Lg.O0 A) w O18 wd19 := (Stp.up hst20 rfl)
     exact At.res (.inl rfl) rfl (.tmp rfl .nil) ⟨rfl, (Stp.ext hs58 rfl rfl)⟩
    ·refine WC.condF' rfl hc57 ?_
     refine WC.skip ?_
     refine At.then ?_
     refine WC.seq ?_
     refine WC.seq ?_
     refine WC.region ?_
     refine WL.y (Y.fieldAddr fo25_0 rfl) rfl ?_
     refine WL.y (Y.loadSc ty3 rfl rfl (hb16.cell 0 _ rfl)) rfl ?_
     refine WL.y (Y.lss_i rfl rfl) rfl ?_
     refine WL.y (Y.move rfl) rfl ?_
     refine WL.cut 4 (σ := Unit) (fun _ w' => wd19 = w') (fun _ => [(1, Value.pointer (some ⟨p17, 0, none⟩)), (3, vi nv22), (35, Value.bool ((decide (a0.Offset < (-1073741824))) || (decide (1073741824 < a0.Offset))))]) ?_ ?_
     ·refine WL.part 31 rfl (fun hE59 => ?_) (fun hE59 => ?_)
      ·refine WL.gS rfl rfl rfl rfl ?_
       refine WL.gS rfl rfl rfl rfl ?_
       refine WL.gS rfl rfl rfl rfl ?_
       refine WL.y (Y.pick (b := true) rfl rfl) rfl ?_
       refine WL.ren (v' := Value.bool ((decide (a0.Offset < (-1073741824))) || (decide (1073741824 < a0.Offset)))) 35 rfl (congrArg Value.bool (orT hE59)) ?_
       exact WL.nil (At.join () rfl (.cons rfl (.cons rfl (.cons rfl .nil))))
      ·refine WL.ung rfl rfl ?_
       refine WL.y (Y.fieldAddr fo25_0 rfl) rfl ?_
       refine WL.ung rfl rfl ?_
       refine WL.y (Y.loadSc ty3 rfl rfl (hb16.cell 0 _ rfl)) rfl ?_
       refine WL.ung rfl rfl ?_
       refine WL.y (Y.gtr_i rfl rfl) rfl ?_
       refine WL.y (Y.pick (b := false) rfl rfl) rfl ?_
       refine WL.ren (v' := Value.bool ((decide (a0.Offset < (-1073741824))) || (decide (1073741824 < a0.Offset)))) 35 rfl (congrArg Value.bool (orF hE59)) ?_
       exact WL.nil (At.join () rfl (.cons rfl (.cons rfl (.cons rfl .nil))))
     ·rintro _ _ rfl
      refine (show WL _ _ _ _ _ [(1, Value.pointer (some ⟨p17, 0, none⟩)), (3, vi nv22), (35, Value.bool ((decide (a0.Offset < (-1073741824))) || (decide (1073741824 < a0.Offset))))] _ from ?_)
      refine WL.y (Y.move rfl) rfl ?_
      refine WL.cut 7 (σ := Unit) (fun _ w' => wd19 = w') (fun _ => [(43, Value.bool (((decide (a0.Offset < (-1073741824))) || (decide (1073741824 < a0.Offset))) || (decide (1073741824 < w64 ((w64 (a0.Offset + nv22)) - 1)))))]) ?_ ?_
      ·refine WL.part 36 rfl (fun hE60 => ?_) (fun hE60 => ?_)
       ·refine WL.gS rfl rfl rfl rfl ?_
        refine WL.gS rfl rfl rfl rfl ?_
        refine WL.gS rfl rfl rfl rfl ?_
        refine WL.gS rfl rfl rfl rfl ?_
        refine WL.gS rfl rfl rfl rfl ?_
        refine WL.gS rfl rfl rfl rfl ?_
        refine WL.y (Y.pick (b := true) rfl rfl) rfl ?_
        refine WL.ren (v' := Value.bool (((decide (a0.Offset < (-1073741824))) || (decide (1073741824 < a0.Offset))) || (decide (1073741824 < w64 ((w64 (a0.Offset + nv22)) - 1))))) 43 rfl (congrArg Value.bool (orT hE60)) ?_
        exact WL.nil (At.join () rfl (.cons rfl .nil))
       ·refine WL.ung rfl rfl ?_
        refine WL.y (Y.fieldAddr fo25_0 rfl) rfl ?_
        refine WL.ung rfl rfl ?_
        refine WL.y (Y.loadSc ty3 rfl rfl (hb16.cell 0 _ rfl)) rfl ?_
        refine WL.ung rfl rfl ?_
        refine WL.y (Y.move rfl) rfl ?_
        refine WL.ung rfl rfl ?_
        refine WL.y (Y.add_i rfl rfl) rfl ?_
        refine WL.ung rfl rfl ?_
        refine WL.y (Y.sub_i rfl rfl) rfl ?_
        refine WL.ung rfl rfl ?_
        refine WL.y (Y.gtr_i rfl rfl) rfl ?_
        refine WL.y (Y.pick (b := false) rfl rfl) rfl ?_
        refine WL.ren (v' := Value.bool (((decide (a0.Offset < (-1073741824))) || (decide (1073741824 < a0.Offset))) || (decide (1073741824 < w64 ((w64 (a0.Offset + nv22)) - 1))))) 43 rfl (congrArg Value.bool (orF hE60)) ?_
        exact WL.nil (At.join () rfl (.cons rfl .nil))
      ·rintro _ _ rfl
       refine (show WL _ _ _ _ _ [(43, Value.bool (((decide (a0.Offset < (-1073741824))) || (decide (1073741824 < a0.Offset))) || (decide (1073741824 < w64 ((w64 (a0.Offset + nv22)) - 1)))))] _ from ?_)
       refine WL.nil ?_
       refine At.then ?_
       rcases cnd h with ⟨hc61, h⟩ | ⟨hc61, h⟩
       ·refine WC.condT' rfl hc61 ?_
        refine WC.seq ?_
        refine WC.region ?_
        refine WL.y (Y.assign rfl) rfl ?_
        refine WL.nil ?_
        refine At.then ?_
        refine WC.ret ?_
        refine At.thenR ?_
        obtain rfl := some1 h
        have hs62 : Stp [] (Lg.O0 A) w O18 wd19 := (Stp.up hst20 rfl)
        exact At.res (.inl rfl) rfl (.tmp rfl .nil) ⟨rfl, (Stp.ext hs62 rfl rfl)⟩
       ·refine WC.condF' rfl hc61 ?_
        refine WC.skip ?_
        refine At.then ?_
        refine WC.seq ?_
        refine WC.region ?_
        refine WL.y (Y.assign rfl) rfl ?_
        refine WL.nil ?_
        refine At.then ?_
        refine WC.ret ?_
        obtain rfl := some1 h
        have hs63 : Stp [] (Lg.O0 A) w O18 wd19 := (Stp.up hst20 rfl)
        exact At.res (.inl rfl) rfl (.tmp rfl .nil) ⟨rfl, (Stp.ext hs63 rfl rfl)⟩
theorem c_ref08_Check {A : Nat → Prop} {v0_3 : Value} {v0_5 : Value} {a0 : api_Hist} {w : World} (hs0_3 : Sl Rep.u w A v0_3 a0.Pos.Counts) (hs0_5 : Sl Rep.u w A v0_5 a0.Neg.Counts) {r0 : Int} (h : ref08_Check a0 = some r0) : Rets Try.prog 20 [Value.agg (List.toArray [vi a0.Scale, vu a0.Zero, vi a0.Pos.Offset, v0_3, vi a0.Neg.Offset, v0_5])] w (fun v w' => v = vi r0 ∧ Ext w w') := by
 unfold ref08_Check at h
 refine Rets.enter Try.func20 rfl rfl ?_
 have hf11 : Sl Rep.u w (imm (Lg.O0 A)) v0_3 a0.Pos.Counts := (Sl.start hs0_3)
 have hf12 : Sl Rep.u w (imm (Lg.O0 A)) v0_5 a0.Neg.Counts := (Sl.start hs0_5)
 refine (show WC _ _ _ _ [(0, Value.agg (List.toArray [vi a0.Scale, vu a0.Zero, vi a0.Pos.Offset, v0_3, vi a0.Neg.Offset, v0_5]))] _ from ?_)
 refine WC.seq ?_
 refine WC.region ?_
 have hh16 := h
 obtain ⟨p13, m14, c15, rfl⟩ := hf11.shape
 have h := hh16
 have hh20 := h
 obtain ⟨p17, m18, c19, rfl⟩ := hf12.shape
 have h := hh20
 refine WL.box (O := (Lg.O0 A)) 11 [vi a0.Scale, vu a0.Zero, vi a0.Pos.Offset, (Value.slice p13 m14 c15), vi a0.Neg.Offset, (Value.slice p17 m18 c19)] rfl rfl rfl ?_
 intro p22 O23 wd24 hst25 hb21
 refine WL.y (Y.assign rfl) rfl ?_
 refine WL.nil ?_
 refine At.then ?_
 refine WC.seq ?_
 refine WC.seq ?_
 refine WC.region ?_
 refine WL.y (Y.fieldAddr fo27_0 rfl) rfl ?_
 refine WL.y (Y.loadSc ty3 rfl rfl (hb21.cell 0 _ rfl)) rfl ?_
 refine WL.y (Y.lss_i rfl rfl) rfl ?_
 refine WL.y (Y.move rfl) rfl ?_
 refine WL.cut 4 (σ := Unit) (fun _ w' => wd24 = w') (fun _ => [(1, Value.pointer (some ⟨p22, 0, none⟩)), (14, Value.bool ((decide (a0.Scale < (-10))) || (decide (20 < a0.Scale))))]) ?_ ?_
 ·refine WL.part 10 rfl (fun hE26 => ?_) (fun hE26 => ?_)
  ·refine WL.gS rfl rfl rfl rfl ?_
   refine WL.gS rfl rfl rfl rfl ?_
   refine WL.gS rfl rfl rfl rfl ?_
   refine WL.y (Y.pick (b := true) rfl rfl) rfl ?_
   refine WL.ren (v' := Value.bool ((decide (a0.Scale < (-10))) || (decide (20 < a0.Scale)))) 14 rfl (congrArg Value.bool (orT hE26)) ?_
   exact WL.nil (At.join () rfl (.cons rfl (.cons rfl .nil)))
  ·refine WL.ung rfl rfl ?_
   refine WL.y (Y.fieldAddr fo27_0 rfl) rfl ?_
   refine WL.ung rfl rfl ?_
   refine WL.y (Y.loadSc ty3 rfl rfl (hb21.cell 0 _ rfl)) rfl ?_
   refine WL.ung rfl rfl ?_
   refine WL.y (Y.gtr_i rfl rfl) rfl ?_
   refine WL.y (Y.pick (b := false) rfl rfl) rfl ?_
   refine WL.ren (v' := Value.bool ((decide (a0.Scale < (-10))) || (decide (20 < a0.Scale)))) 14 rfl (congrArg Value.bool (orF hE26)) ?_
   exact WL.nil (At.join () rfl (.cons rfl (.cons rfl .nil)))
 ·rintro _ _ rfl
  refine (show WL _ _ _ _ _ [(1, Value.pointer (some ⟨p22, 0, none⟩)), (14, Value.bool ((decide (a0.Scale < (-10))) || (decide (20 < a0.Scale))))] _ from ?_)
  refine WL.nil ?_
  refine At.then ?_
  rcases cnd h with ⟨hc27, h⟩ | ⟨hc27, h⟩
  ·refine WC.condT' rfl hc27 ?_
   refine WC.seq ?_
   refine WC.region ?_
   refine WL.y (Y.assign rfl) rfl ?_
   refine WL.nil ?_
   refine At.then ?_
   refine WC.ret ?_
   refine At.thenR ?_
   obtain rfl := some1 h
   have hs28 : Stp [] (Lg.O0 A) w O23 wd24 := (Stp.up hst25 rfl)
   exact At.res (.inl rfl) rfl (.tmp rfl .nil) ⟨rfl, (Stp.ext hs28 rfl rfl)⟩
  ·refine WC.condF' rfl hc27 ?_
   refine WC.skip ?_
   refine At.then ?_
   refine WC.seq ?_
   refine WC.seq ?_
   refine WC.region ?_
   refine WL.y (Y.fieldAddr fo27_2 rfl) rfl ?_
   refine WL.y (Y.loadAg ty25 rfl rfl (hb21.cells 2 [vi a0.Pos.Offset, (Value.slice p13 m14 c15)] rfl) rfl) rfl ?_
   have hf29 := hf11.mono (imm_st hst25 rfl rfl)
   obtain ⟨r30, hp31, h⟩ := bnd h
   refine WL.call (vals := [Value.agg (List.toArray [vi a0.Pos.Offset, (Value.slice p13 m14 c15)])]) kok61 rfl rfl (c_ref08_side (A := fun _ => True) (a0 := a0.Pos) (Sl.all hf29) hp31) ?_
   rintro vr34 wd33 ⟨rfl, hm32⟩
   obtain ⟨O35, hold36, hnew37, hst38⟩ := adoptE O23 (fun k => 1) hm32
   refine WL.y (Y.assign rfl) rfl ?_
   refine WL.nil ?_
   refine At.then ?_
   refine WC.seq ?_
   refine WC.region ?_
   refine WL.y (Y.move rfl) rfl ?_
   refine WL.y (Y.neq_i rfl rfl) rfl ?_
   refine WL.nil ?_
   refine At.then ?_
   rcases cnd h with ⟨hc39, h⟩ | ⟨hc39, h⟩
   ·refine WC.condT' rfl hc39 ?_
    refine WC.seq ?_
    refine WC.region ?_
    refine WL.y (Y.move rfl) rfl ?_
    refine WL.y (Y.assign rfl) rfl ?_
    refine WL.nil ?_
    refine At.then ?_
    refine WC.ret ?_
    refine At.thenR ?_
    obtain rfl := some1 h
    have hs40 : Stp [] (Lg.O0 A) w O35 wd33 := (Stp.trans (Stp.up hst25 rfl) (Stp.up hst38 rfl))
    exact At.res (.inl rfl) rfl (.tmp rfl .nil) ⟨rfl, (Stp.ext hs40 rfl rfl)⟩
   ·refine WC.condF' rfl hc39 ?_
    refine WC.skip ?_
    refine At.then ?_
    refine WC.seq ?_
    refine WC.seq ?_
    refine WC.region ?_
    refine WL.y (Y.fieldAddr fo27_3 rfl) rfl ?_
    have hf41 := hb21.st hst38 rfl
    refine WL.y (Y.loadAg ty25 rfl rfl (hf41.cells 4 [vi a0.Neg.Offset, (Value.slice p17 m18 c19)] rfl) rfl) rfl ?_
    have hf42 := hf12.mono (imm_st hst25 rfl rfl)
    have hf43 := hf42.mono (imm_st hst38 rfl rfl)
    obtain ⟨r44, hp45, h⟩ := bnd h
    refine WL.call (vals := [Value.agg (List.toArray [vi a0.Neg.Offset, (Value.slice p17 m18 c19)])]) kok61 rfl rfl (c_ref08_side (A := fun _ => True) (a0 := a0.Neg) (Sl.all hf43) hp45) ?_
    rintro vr48 wd47 ⟨rfl, hm46⟩
    obtain ⟨O49, hold50, hnew51, hst52⟩ := adoptE O35 (fun k => 1) hm46
    refine WL.y (Y.assign rfl) rfl ?_
    refine WL.nil ?_
    refine At.then ?_
    refine WC.seq ?_
    refine WC.region ?_
    refine WL.y (Y.move rfl) rfl ?_
    refine WL.y (Y.neq_i rfl rfl) rfl ?_
    refine WL.nil ?_
    refine At.then ?_
    rcases cnd h with ⟨hc53, h⟩ | ⟨hc53, h⟩
    ·refine WC.condT' rfl hc53 ?_
     refine WC.seq ?_
     refine WC.region ?_
     refine WL.y (Y.move rfl) rfl ?_
     refine WL.y (Y.assign rfl) rfl ?_
     refine WL.nil ?_
     refine At.then ?_
     refine WC.ret ?_
     refine At.thenR ?_
     obtain rfl := some1 h
     have hs54 : Stp [] (Lg.O0 A) w O49 wd47 := (Stp.trans (Stp.up hst25 rfl) (Stp.trans (Stp.up hst38 rfl) (Stp.up hst52 rfl)))
     exact At.res (.inl rfl) rfl (.tmp rfl .nil) ⟨rfl, (Stp.ext hs54 rfl rfl)⟩
    ·refine WC.condF' rfl hc53 ?_
     refine WC.skip ?_
     refine At.then ?_
     refine WC.seq ?_
     refine WC.seq ?_
     refine WC.region ?_
     have hf55 := hf41.st hst52 rfl
     refine WL.y (Y.loadAg ty27 rfl rfl (hf55.cells 0 [vi a0.Scale, vu a0.Zero, vi a0.Pos.Offset, (Value.slice p13 m14 c15), vi a0.Neg.Offset, (Value.slice p17 m18 c19)] rfl) rfl) rfl ?_
     have hf56 := hf29.mono (imm_st hst38 rfl rfl)
     have hf57 := hf56.mono (imm_st hst52 rfl rfl)
     have hf58 := hf43.mono (imm_st hst52 rfl rfl)
     obtain ⟨⟨r59, r60⟩, hp61, h⟩ := bnd h
     refine WL.call (vals := [Value.agg (List.toArray [vi a0.Scale, vu a0.Zero, vi a0.Pos.Offset, (Value.slice p13 m14 c15), vi a0.Neg.Offset, (Value.slice p17 m18 c19)])]) kok18 rfl rfl (c_ref08_Total (A := fun _ => True) (a0 := a0) (Sl.all hf57) (Sl.all hf58) hp61) ?_
     rintro vr64 wd63 ⟨rfl, hm62⟩
     obtain ⟨O65, hold66, hnew67, hst68⟩ := adoptE O49 (fun k => 1) hm62
     refine WL.y (Y.move rfl) rfl ?_
     refine WL.y (Y.extract rfl rfl) rfl ?_
     refine WL.y (Y.extract rfl rfl) rfl ?_
     refine WL.y (Y.assign rfl) rfl ?_
     refine WL.y (Y.assign rfl) rfl ?_
     refine WL.nil ?_
     refine At.then ?_
     refine WC.seq ?_
     refine WC.region ?_
     refine WL.y (Y.move rfl) rfl ?_
     refine WL.y (Y.not rfl) rfl ?_
     refine WL.nil ?_
     refine At.then ?_
     rcases cnd h with ⟨hc69, h⟩ | ⟨hc69, h⟩
     ·refine WC.condT' rfl hc69 ?_
      refine WC.seq ?_
      refine WC.region ?_
      refine WL.y (Y.assign rfl) rfl ?_
      refine WL.nil ?_
      refine At.then ?_
      refine WC.ret ?_
      refine At.thenR ?_
      obtain rfl := some1 h
      have hs70 : Stp [] (Lg.O0 A) w O65 wd63 := (Stp.trans (Stp.up hst25 rfl) (Stp.trans (Stp.up hst38 rfl) (Stp.trans (Stp.up hst52 rfl) (Stp.up hst68 rfl))))
      exact At.res (.inl rfl) rfl (.tmp rfl .nil) ⟨rfl, (Stp.ext hs70 rfl rfl)⟩
     ·refine WC.condF' rfl hc69 ?_
      refine WC.skip ?_
      refine At.then ?_
      refine WC.seq ?_
      refine WC.region ?_
      refine WL.y (Y.assign rfl) rfl ?_
      refine WL.nil ?_
      refine At.then ?_
      refine WC.ret ?_
      obtain rfl := some1 h
      have hs71 : Stp [] (Lg.O0 A) w O65 wd63 := (Stp.trans (Stp.up hst25 rfl) (Stp.trans (Stp.up hst38 rfl) (Stp.trans (Stp.up hst52 rfl) (Stp.up hst68 rfl))))
      exact At.res (.inl rfl) rfl (.tmp rfl .nil) ⟨rfl, (Stp.ext hs71 rfl rfl)⟩
theorem c_ref08_SameSide {A : Nat → Prop} {v0_1 : Value} {a0 : api_Side} {v1_1 : Value} {a1 : api_Side} {w : World} (hs0_1 : Sl Rep.u w A v0_1 a0.Counts) (hs1_1 : Sl Rep.u w A v1_1 a1.Counts) {r0 : Bool} (h : ref08_SameSide a0 a1 = some r0) : Rets Try.prog 27 [Value.agg (List.toArray [vi a0.Offset, v0_1]), Value.agg (List.toArray [vi a1.Offset, v1_1])] w (fun v w' => v = Value.bool r0 ∧ Ext w w') := by
 unfold ref08_SameSide at h
 refine Rets.enter Try.func27 rfl rfl ?_
 have hf11 : Sl Rep.u w (imm (Lg.O0 A)) v0_1 a0.Counts := (Sl.start hs0_1)
 have hf12 : Sl Rep.u w (imm (Lg.O0 A)) v1_1 a1.Counts := (Sl.start hs1_1)
 refine (show WC _ _ _ _ [(0, Value.agg (List.toArray [vi a0.Offset, v0_1])), (1, Value.agg (List.toArray [vi a1.Offset, v1_1]))] _ from ?_)
 refine WC.seq ?_
 refine WC.region ?_
 have hh16 := h
 obtain ⟨p13, m14, c15, rfl⟩ := hf11.shape
 have h := hh16
 refine WL.box (O := (Lg.O0 A)) 11 [vi a0.Offset, (Value.slice p13 m14 c15)] rfl rfl rfl ?_
 intro p18 O19 wd20 hst21 hb17
 have hf22 := hf12.mono (imm_st hst21 rfl rfl)
 have hh26 := h
 obtain ⟨p23, m24, c25, rfl⟩ := hf22.shape
 have h := hh26
 refine WL.box (O := O19) 12 [vi a1.Offset, (Value.slice p23 m24 c25)] rfl rfl rfl ?_
 intro p28 O29 wd30 hst31 hb27
 refine WL.y (Y.assign rfl) rfl ?_
 refine WL.nil ?_
 refine At.then ?_
 refine WC.seq ?_
 refine WC.seq ?_
 refine WC.region ?_
 refine WL.y (Y.fieldAddr fo25_0 rfl) rfl ?_
 have hf32 := hb17.st hst31 rfl
 refine WL.y (Y.loadSc ty3 rfl rfl (hf32.cell 0 _ rfl)) rfl ?_
 refine WL.y (Y.fieldAddr fo25_0 rfl) rfl ?_
 refine WL.y (Y.loadSc ty3 rfl rfl (hb27.cell 0 _ rfl)) rfl ?_
 refine WL.y (Y.neq_i rfl rfl) rfl ?_
 refine WL.y (Y.move rfl) rfl ?_
 refine WL.cut 8 (σ := Unit) (fun _ w' => wd30 = w') (fun _ => [(2, Value.pointer (some ⟨p18, 0, none⟩)), (3, Value.pointer (some ⟨p28, 0, none⟩)), (19, Value.bool ((!decide (a0.Offset = a1.Offset)) || (!decide ((a0.Counts.length : Int) = (a1.Counts.length : Int)))))]) ?_ ?_
 ·refine WL.part 11 rfl (fun hE33 => ?_) (fun hE33 => ?_)
  ·refine WL.gS rfl rfl rfl rfl ?_
   refine WL.gS rfl rfl rfl rfl ?_
   refine WL.gS rfl rfl rfl rfl ?_
   refine WL.gS rfl rfl rfl rfl ?_
   refine WL.gS rfl rfl rfl rfl ?_
   refine WL.gS rfl rfl rfl rfl ?_
   refine WL.gS rfl rfl rfl rfl ?_
   refine WL.y (Y.pick (b := true) rfl rfl) rfl ?_
   refine WL.ren (v' := Value.bool ((!decide (a0.Offset = a1.Offset)) || (!decide ((a0.Counts.length : Int) = (a1.Counts.length : Int))))) 19 rfl (congrArg Value.bool (orT hE33)) ?_
   exact WL.nil (At.join () rfl (.cons rfl (.cons rfl (.cons rfl .nil))))
  ·refine WL.ung rfl rfl ?_
   refine WL.y (Y.fieldAddr fo25_1 rfl) rfl ?_
   refine WL.ung rfl rfl ?_
   refine WL.y (Y.loadSc ty23 rfl rfl (hf32.cell 1 _ rfl)) rfl ?_
   refine WL.ung rfl rfl ?_
   have hf34 := hf11.mono (imm_st hst21 rfl rfl)
   have hf35 := hf34.mono (imm_st hst31 rfl rfl)
   refine WL.y (Y.len ty23 rfl hf35) rfl ?_
   refine WL.ung rfl rfl ?_
   refine WL.y (Y.fieldAddr fo25_1 rfl) rfl ?_
   refine WL.ung rfl rfl ?_
   refine WL.y (Y.loadSc ty23 rfl rfl (hb27.cell 1 _ rfl)) rfl ?_
   refine WL.ung rfl rfl ?_
   have hf36 := hf22.mono (imm_st hst31 rfl rfl)
   refine WL.y (Y.len ty23 rfl hf36) rfl ?_
   refine WL.ung rfl rfl ?_
   refine WL.y (Y.neq_i rfl rfl) rfl ?_
   refine WL.y (Y.pick (b := false) rfl rfl) rfl ?_
   refine WL.ren (v' := Value.bool ((!decide (a0.Offset = a1.Offset)) || (!decide ((a0.Counts.length : Int) = (a1.Counts.length : Int))))) 19 rfl (congrArg Value.bool (orF hE33)) ?_
   exact WL.nil (At.join () rfl (.cons rfl (.cons rfl (.cons rfl .nil))))
 ·rintro _ _ rfl
  refine (show WL _ _ _ _ _ [(2, Value.pointer (some ⟨p18, 0, none⟩)), (3, Value.pointer (some ⟨p28, 0, none⟩)), (19, Value.bool ((!decide (a0.Offset = a1.Offset)) || (!decide ((a0.Counts.length : Int) = (a1.Counts.length : Int)))))] _ from ?_)
  refine WL.nil ?_
  refine At.then ?_
  rcases cnd h with ⟨hc37, h⟩ | ⟨hc37, h⟩
  ·refine WC.condT' rfl hc37 ?_
   refine WC.seq ?_
   refine WC.region ?_
   refine WL.y (Y.assign rfl) rfl ?_
   refine WL.nil ?_
   refine At.then ?_
   refine WC.ret ?_
   refine At.thenR ?_
   obtain rfl := some1 h
   have hs38 : Stp [] (Lg.O0 A) w O29 wd30 := (Stp.trans (Stp.up hst21 rfl) (Stp.up hst31 rfl))
   exact At.res (.inl rfl) rfl (.tmp rfl .nil) ⟨rfl, (Stp.ext hs38 rfl rfl)⟩
  ·refine WC.condF' rfl hc37 ?_
   refine WC.skip ?_
   refine At.then ?_
   refine WC.seq ?_
   refine WC.seq ?_
   refine WC.region ?_
   refine WL.y (Y.assign rfl) rfl ?_
   refine WL.nil ?_
   refine At.then ?_
   refine WC.block ?_
   obtain ⟨p46, h, hk48⟩ := flow1 h
   obtain ⟨k47, h⟩ := loop_some h
   refine WC.joinB 0 (σ := Own) (fun x w' => p46 = .go () ∧ Stp [] O29 wd30 x w') (fun x => []) ?_ ?_
   ·refine WC.loop (σ := (Int × Own)) (fun x k w' => loopN k (ref08_SameSide_lp1 a0 a1) x.1 = some p46 ∧ Stp [] O29 wd30 x.2 w') (fun x => [(2, Value.pointer (some ⟨p18, 0, none⟩)), (3, Value.pointer (some ⟨p28, 0, none⟩)), (5, vi x.1)]) (0, O29) k47 (.cons rfl (.cons rfl (.cons rfl .nil))) ⟨h, (Stp.refl _ _ _)⟩ ?_
    rintro ⟨i39, O40⟩ k47 wd41 ⟨h, hst42⟩
    obtain ⟨j49, q50, rfl, h, hn51⟩ := rnd1 h
    unfold ref08_SameSide_lp1 at h
    try dsimp only at h hst42
    refine (show WC _ _ _ _ [(2, Value.pointer (some ⟨p18, 0, none⟩)), (3, Value.pointer (some ⟨p28, 0, none⟩)), (5, vi i39)] _ from ?_)
    refine WC.seq ?_
    refine WC.seq ?_
    refine WC.region ?_
    refine WL.y (Y.move rfl) rfl ?_
    refine WL.y (Y.fieldAddr fo25_1 rfl) rfl ?_
    have hf52 := hf32.st hst42 rfl
    refine WL.y (Y.loadSc ty23 rfl rfl (hf52.cell 1 _ rfl)) rfl ?_
    have hf53 := hf11.mono (imm_st hst21 rfl rfl)
    have hf54 := hf53.mono (imm_st hst31 rfl rfl)
    have hf55 := hf54.mono (imm_st hst42 rfl rfl)
    refine WL.y (Y.len ty23 rfl hf55) rfl ?_
    refine WL.y (Y.lss_i rfl rfl) rfl ?_
    refine WL.nil ?_
    refine At.then ?_
    rcases cnd h with ⟨hc56, h⟩ | ⟨hc56, h⟩
    ·refine WC.condT' rfl hc56 ?_
     refine WC.skip ?_
     refine At.then ?_
     refine WC.seq ?_
     refine WC.block ?_
     refine WC.seq ?_
     refine WC.draw 10 O40 fmix (by kernel_rfl) ?_
     intro wd57 hst58
     refine WS.y (Y.fieldAddr fo25_1 rfl) rfl ?_
     have hf59 := hf52.st hst58 rfl
     refine WS.y (Y.loadSc ty23 rfl rfl (hf59.cell 1 _ rfl)) rfl ?_
     refine WS.y (Y.move rfl) rfl ?_
     obtain ⟨e60, he60, h⟩ := bnd h
     have hf69 := hf55.mono (imm_st hst58 rfl rfl)
     obtain ⟨b61, off70, cap68, cs67, hv62, hi63, hl64, hc65, hok66, hA71⟩ := Sl.at2 hf69 he60
     obtain rfl := hok66
     replace hc65 : CellsAt _ _ _ [vu e60] := hc65
     have hca72 := CAt.imm hc65 hA71
     refine WS.y (Y.indexAddr ty23 ty22 rfl hv62 rfl hi63 hl64) rfl ?_
     refine WS.y (Y.loadSc ty22 rfl rfl hca72.at_) rfl ?_
     refine WS.y (Y.fieldAddr fo25_1 rfl) rfl ?_
     have hf73 := hb27.st hst42 rfl
     have hf74 := hf73.st hst58 rfl
     refine WS.y (Y.loadSc ty23 rfl rfl (hf74.cell 1 _ rfl)) rfl ?_
     refine WS.y (Y.move rfl) rfl ?_
     obtain ⟨e75, he75, h⟩ := bnd h
     have hf84 := hf22.mono (imm_st hst31 rfl rfl)
     have hf85 := hf84.mono (imm_st hst42 rfl rfl)
     have hf86 := hf85.mono (imm_st hst58 rfl rfl)
     obtain ⟨b76, off87, cap83, cs82, hv77, hi78, hl79, hc80, hok81, hA88⟩ := Sl.at2 hf86 he75
     obtain rfl := hok81
     replace hc80 : CellsAt _ _ _ [vu e75] := hc80
     have hca89 := CAt.imm hc80 hA88
     refine WS.y (Y.indexAddr ty23 ty22 rfl hv77 rfl hi78 hl79) rfl ?_
     refine WS.y (Y.loadSc ty22 rfl rfl hca89.at_) rfl ?_
     refine WS.tail ?_
     refine WL.y (Y.neq_u rfl rfl) rfl ?_
     refine WL.nil ?_
     refine At.then ?_
     rcases cnd h with ⟨hc90, h⟩ | ⟨hc90, h⟩
     ·refine WC.condT' rfl hc90 ?_
      refine WC.seq ?_
      refine WC.region ?_
      refine WL.y (Y.assign rfl) rfl ?_
      refine WL.nil ?_
      refine At.then ?_
      refine WC.ret ?_
      refine At.inBlockR ?_
      refine At.thenR ?_
      refine At.loopR ?_
      have h := outr1 h hn51 hk48
      refine At.joinBR ?_
      refine At.inBlockR ?_
      refine At.thenR ?_
      obtain rfl := some1 h
      have hs91 : Stp [] (Lg.O0 A) w O40 wd57 := (Stp.trans (Stp.up hst21 rfl) (Stp.trans (Stp.up hst31 rfl) (Stp.trans (Stp.up hst42 rfl) (Stp.up hst58 rfl))))
      exact At.res (.inl rfl) rfl (.tmp rfl .nil) ⟨rfl, (Stp.ext hs91 rfl rfl)⟩
     ·refine WC.condF' rfl hc90 ?_
      refine WC.skip ?_
      refine At.inBlock ?_
      refine At.then ?_
      refine WC.region ?_
      refine WL.y (Y.move rfl) rfl ?_
      refine WL.y (Y.add_i rfl rfl) rfl ?_
      obtain ⟨i92, hi92, h⟩ := lt1 h
      refine WL.yE (Y.assign rfl) (congrArg vi hi92.symm) rfl ?_
      refine WL.nil ?_
      exact At.round (i92, O40) j49 (Nat.lt_succ_self _) ⟨next1 h hn51, (Stp.trans (Stp.up hst42 rfl) (Stp.up hst58 rfl))⟩ (.cons rfl (.cons rfl (.cons rfl .nil)))
    ·refine WC.condF' rfl hc56 ?_
     refine WC.exit ?_
     refine At.thenX ?_
     refine At.loopX ?_
     exact At.hitB (σ := Own) O40 ⟨brk1 h hn51, (Stp.up hst42 rfl)⟩ .nil
   ·rintro O43 wd44 ⟨rfl, hst45⟩
    replace h := flowK_go hk48
    refine (show At _ _ _ [] _ from ?_)
    refine At.inBlockHit ?_
    refine At.then ?_
    refine WC.seq ?_
    refine WC.region ?_
    refine WL.y (Y.assign rfl) rfl ?_
    refine WL.nil ?_
    refine At.then ?_
    refine WC.ret ?_
    obtain rfl := some1 h
    have hs93 : Stp [] (Lg.O0 A) w O43 wd44 := (Stp.trans (Stp.up hst21 rfl) (Stp.trans (Stp.up hst31 rfl) (Stp.up hst45 rfl)))
    exact At.res (.inl rfl) rfl (.tmp rfl .nil) ⟨rfl, (Stp.ext hs93 rfl rfl)⟩
theorem c_ref08_Same {A : Nat → Prop} {v0_3 : Value} {v0_5 : Value} {a0 : api_Hist} {v1_3 : Value} {v1_5 : Value} {a1 : api_Hist} {w : World} (hs0_3 : Sl Rep.u w A v0_3 a0.Pos.Counts) (hs0_5 : Sl Rep.u w A v0_5 a0.Neg.Counts) (hs1_3 : Sl Rep.u w A v1_3 a1.Pos.Counts) (hs1_5 : Sl Rep.u w A v1_5 a1.Neg.Counts) {r0 : Bool} (h : ref08_Same a0 a1 = some r0) : Rets Try.prog 22 [Value.agg (List.toArray [vi a0.Scale, vu a0.Zero, vi a0.Pos.Offset, v0_3, vi a0.Neg.Offset, v0_5]), Value.agg (List.toArray [vi a1.Scale, vu a1.Zero, vi a1.Pos.Offset, v1_3, vi a1.Neg.Offset, v1_5])] w (fun v w' => v = Value.bool r0 ∧ Ext w w') := by
 unfold ref08_Same at h
 refine Rets.enter Try.func22 rfl rfl ?_
 have hf11 : Sl Rep.u w (imm (Lg.O0 A)) v0_3 a0.Pos.Counts := (Sl.start hs0_3)
 have hf12 : Sl Rep.u w (imm (Lg.O0 A)) v0_5 a0.Neg.Counts := (Sl.start hs0_5)
 have hf13 : Sl Rep.u w (imm (Lg.O0 A)) v1_3 a1.Pos.Counts := (Sl.start hs1_3)
 have hf14 : Sl Rep.u w (imm (Lg.O0 A)) v1_5 a1.Neg.Counts := (Sl.start hs1_5)
 refine (show WC _ _ _ _ [(0, Value.agg (List.toArray [vi a0.Scale, vu a0.Zero, vi a0.Pos.Offset, v0_3, vi a0.Neg.Offset, v0_5])), (1, Value.agg (List.toArray [vi a1.Scale, vu a1.Zero, vi a1.Pos.Offset, v1_3, vi a1.Neg.Offset, v1_5]))] _ from ?_)
 refine WC.seq ?_
 refine WC.region ?_
 have hh18 := h
 obtain ⟨p15, m16, c17, rfl⟩ := hf11.shape
 have h := hh18
 have hh22 := h
 obtain ⟨p19, m20, c21, rfl⟩ := hf12.shape
 have h := hh22
 refine WL.box (O := (Lg.O0 A)) 11 [vi a0.Scale, vu a0.Zero, vi a0.Pos.Offset, (Value.slice p15 m16 c17), vi a0.Neg.Offset, (Value.slice p19 m20 c21)] rfl rfl rfl ?_
 intro p24 O25 wd26 hst27 hb23
 have hf28 := hf13.mono (imm_st hst27 rfl rfl)
 have hh32 := h
 obtain ⟨p29, m30, c31, rfl⟩ := hf28.shape
 have h := hh32
 have hf33 := hf14.mono (imm_st hst27 rfl rfl)
 have hh37 := h
 obtain ⟨p34, m35, c36, rfl⟩ := hf33.shape
 have h := hh37
 refine WL.box (O := O25) 12 [vi a1.Scale, vu a1.Zero, vi a1.Pos.Offset, (Value.slice p29 m30 c31), vi a1.Neg.Offset, (Value.slice p34 m35 c36)] rfl rfl rfl ?_
 intro p39 O40 wd41 hst42 hb38
 refine WL.y (Y.assign rfl) rfl ?_
 refine WL.nil ?_
 refine At.then ?_
 refine WC.seq ?_
 refine WC.region ?_
 refine WL.y (Y.fieldAddr fo27_0 rfl) rfl ?_
 have hf43 := hb23.st hst42 rfl
 refine WL.y (Y.loadSc ty3 rfl rfl (hf43.cell 0 _ rfl)) rfl ?_
 refine WL.y (Y.fieldAddr fo27_0 rfl) rfl ?_
 refine WL.y (Y.loadSc ty3 rfl rfl (hb38.cell 0 _ rfl)) rfl ?_
 refine WL.y (Y.eql_i rfl rfl) rfl ?_
 refine WL.y (Y.move rfl) rfl ?_
 refine WL.cut 6 (σ := Unit) (fun _ w' => wd41 = w') (fun _ => [(2, Value.pointer (some ⟨p24, 0, none⟩)), (3, Value.pointer (some ⟨p39, 0, none⟩)), (16, Value.bool ((decide (a0.Scale = a1.Scale)) && (decide (a0.Zero = a1.Zero))))]) ?_ ?_
 ·refine WL.part 10 rfl (fun hE44 => ?_) (fun hE44 => ?_)
  ·refine WL.ung rfl rfl ?_
   refine WL.y (Y.fieldAddr fo27_1 rfl) rfl ?_
   refine WL.ung rfl rfl ?_
   refine WL.y (Y.loadSc ty22 rfl rfl (hf43.cell 1 _ rfl)) rfl ?_
   refine WL.ung rfl rfl ?_
   refine WL.y (Y.fieldAddr fo27_1 rfl) rfl ?_
   refine WL.ung rfl rfl ?_
   refine WL.y (Y.loadSc ty22 rfl rfl (hb38.cell 1 _ rfl)) rfl ?_
   refine WL.ung rfl rfl ?_
   refine WL.y (Y.eql_u rfl rfl) rfl ?_
   refine WL.y (Y.pick (b := true) rfl rfl) rfl ?_
   refine WL.ren (v' := Value.bool ((decide (a0.Scale = a1.Scale)) && (decide (a0.Zero = a1.Zero)))) 16 rfl (congrArg Value.bool (andT hE44)) ?_
   exact WL.nil (At.join () rfl (.cons rfl (.cons rfl (.cons rfl .nil))))
  ·refine WL.gS rfl rfl rfl rfl ?_
   refine WL.gS rfl rfl rfl rfl ?_
   refine WL.gS rfl rfl rfl rfl ?_
   refine WL.gS rfl rfl rfl rfl ?_
   refine WL.gS rfl rfl rfl rfl ?_
   refine WL.y (Y.pick (b := false) rfl rfl) rfl ?_
   refine WL.ren (v' := Value.bool ((decide (a0.Scale = a1.Scale)) && (decide (a0.Zero = a1.Zero)))) 16 rfl (congrArg Value.bool (andF hE44)) ?_
   exact WL.nil (At.join () rfl (.cons rfl (.cons rfl (.cons rfl .nil))))
 ·rintro _ _ rfl
  refine (show WL _ _ _ _ _ [(2, Value.pointer (some ⟨p24, 0, none⟩)), (3, Value.pointer (some ⟨p39, 0, none⟩)), (16, Value.bool ((decide (a0.Scale = a1.Scale)) && (decide (a0.Zero = a1.Zero))))] _ from ?_)
  refine WL.y (Y.move rfl) rfl ?_
  obtain ⟨p49, h, hk50⟩ := bnd h
  refine WL.cut 6 (σ := (Bool × Own)) (fun x w' => x.1 = p49 ∧ Stp [] O40 wd41 x.2 w') (fun x => [(2, Value.pointer (some ⟨p24, 0, none⟩)), (3, Value.pointer (some ⟨p39, 0, none⟩)), (23, Value.bool x.1)]) ?_ ?_
  ·rcases cnd h with ⟨hE51, h⟩ | ⟨hE51, h⟩
   ·refine WL.ren 17 rfl (congrArg Value.bool hE51) ?_
    refine WL.ung rfl rfl ?_
    refine WL.y (Y.fieldAddr fo27_2 rfl) rfl ?_
    refine WL.ung rfl rfl ?_
    refine WL.y (Y.loadAg ty25 rfl rfl (hf43.cells 2 [vi a0.Pos.Offset, (Value.slice p15 m16 c17)] rfl) rfl) rfl ?_
    refine WL.ung rfl rfl ?_
    refine WL.y (Y.fieldAddr fo27_2 rfl) rfl ?_
    refine WL.ung rfl rfl ?_
    refine WL.y (Y.loadAg ty25 rfl rfl (hb38.cells 2 [vi a1.Pos.Offset, (Value.slice p29 m30 c31)] rfl) rfl) rfl ?_
    refine WL.ung rfl rfl ?_
    have hf52 := hf11.mono (imm_st hst27 rfl rfl)
    have hf53 := hf52.mono (imm_st hst42 rfl rfl)
    have hf54 := hf28.mono (imm_st hst42 rfl rfl)
    obtain ⟨r55, hp56, h⟩ := bnd h
    refine WL.call (vals := [Value.agg (List.toArray [vi a0.Pos.Offset, (Value.slice p15 m16 c17)]), Value.agg (List.toArray [vi a1.Pos.Offset, (Value.slice p29 m30 c31)])]) kok27 rfl rfl (c_ref08_SameSide (A := fun _ => True) (a0 := a0.Pos) (a1 := a1.Pos) (Sl.all hf53) (Sl.all hf54) hp56) ?_
    rintro vr59 wd58 ⟨rfl, hm57⟩
    obtain ⟨O60, hold61, hnew62, hst63⟩ := adoptE O40 (fun k => 1) hm57
    refine WL.y (Y.pick (b := true) rfl rfl) rfl ?_
    exact WL.nil (At.join (σ := (Bool × Own)) (r55, O60) ⟨some1 h, (Stp.up hst63 rfl)⟩ (.cons rfl (.cons rfl (.cons rfl .nil))))
   ·refine WL.ren 17 rfl (congrArg Value.bool hE51) ?_
    refine WL.gS rfl rfl rfl rfl ?_
    refine WL.gS rfl rfl rfl rfl ?_
    refine WL.gS rfl rfl rfl rfl ?_
    refine WL.gS rfl rfl rfl rfl ?_
    refine WL.gS rfl rfl rfl rfl ?_
    refine WL.y (Y.pick (b := false) rfl rfl) rfl ?_
    exact WL.nil (At.join (σ := (Bool × Own)) (false, O40) ⟨some1 h, (Stp.refl _ _ _)⟩ (.cons rfl (.cons rfl (.cons rfl .nil))))
  ·rintro ⟨x45, O46⟩ wd47 ⟨rfl, hst48⟩
   replace h := hk50
   try dsimp only at h hst48
   refine (show WL _ _ _ _ _ [(2, Value.pointer (some ⟨p24, 0, none⟩)), (3, Value.pointer (some ⟨p39, 0, none⟩)), (23, Value.bool x45)] _ from ?_)
   refine WL.y (Y.move rfl) rfl ?_
   obtain ⟨p68, h, hk69⟩ := bnd h
   refine WL.cut 6 (σ := (Bool × Own)) (fun x w' => x.1 = p68 ∧ Stp [] O46 wd47 x.2 w') (fun x => [(30, Value.bool x.1)]) ?_ ?_
   ·rcases cnd h with ⟨hE70, h⟩ | ⟨hE70, h⟩
    ·refine WL.ren 24 rfl (congrArg Value.bool hE70) ?_
     refine WL.ung rfl rfl ?_
     refine WL.y (Y.fieldAddr fo27_3 rfl) rfl ?_
     refine WL.ung rfl rfl ?_
     have hf71 := hf43.st hst48 rfl
     refine WL.y (Y.loadAg ty25 rfl rfl (hf71.cells 4 [vi a0.Neg.Offset, (Value.slice p19 m20 c21)] rfl) rfl) rfl ?_
     refine WL.ung rfl rfl ?_
     refine WL.y (Y.fieldAddr fo27_3 rfl) rfl ?_
     refine WL.ung rfl rfl ?_
     have hf72 := hb38.st hst48 rfl
     refine WL.y (Y.loadAg ty25 rfl rfl (hf72.cells 4 [vi a1.Neg.Offset, (Value.slice p34 m35 c36)] rfl) rfl) rfl ?_
     refine WL.ung rfl rfl ?_
     have hf73 := hf12.mono (imm_st hst27 rfl rfl)
     have hf74 := hf73.mono (imm_st hst42 rfl rfl)
     have hf75 := hf74.mono (imm_st hst48 rfl rfl)
     have hf76 := hf33.mono (imm_st hst42 rfl rfl)
     have hf77 := hf76.mono (imm_st hst48 rfl rfl)
     obtain ⟨r78, hp79, h⟩ := bnd h
     refine WL.call (vals := [Value.agg (List.toArray [vi a0.Neg.Offset, (Value.slice p19 m20 c21)]), Value.agg (List.toArray [vi a1.Neg.Offset, (Value.slice p34 m35 c36)])]) kok27 rfl rfl (c_ref08_SameSide (A := fun _ => True) (a0 := a0.Neg) (a1 := a1.Neg) (Sl.all hf75) (Sl.all hf77) hp79) ?_
     rintro vr82 wd81 ⟨rfl, hm80⟩
     obtain ⟨O83, hold84, hnew85, hst86⟩ := adoptE O46 (fun k => 1) hm80
     refine WL.y (Y.pick (b := true) rfl rfl) rfl ?_
     exact WL.nil (At.join (σ := (Bool × Own)) (r78, O83) ⟨some1 h, (Stp.up hst86 rfl)⟩ (.cons rfl .nil))
    ·refine WL.ren 24 rfl (congrArg Value.bool hE70) ?_
     refine WL.gS rfl rfl rfl rfl ?_
     refine WL.gS rfl rfl rfl rfl ?_
     refine WL.gS rfl rfl rfl rfl ?_
     refine WL.gS rfl rfl rfl rfl ?_
     refine WL.gS rfl rfl rfl rfl ?_
     refine WL.y (Y.pick (b := false) rfl rfl) rfl ?_
     exact WL.nil (At.join (σ := (Bool × Own)) (false, O46) ⟨some1 h, (Stp.refl _ _ _)⟩ (.cons rfl .nil))
   ·rintro ⟨x64, O65⟩ wd66 ⟨rfl, hst67⟩
    replace h := hk69
    try dsimp only at h hst67
    refine (show WL _ _ _ _ _ [(30, Value.bool x64)] _ from ?_)
    refine WL.y (Y.assign rfl) rfl ?_
    refine WL.nil ?_
    refine At.then ?_
    refine WC.ret ?_
    obtain rfl := some1 h
    have hs87 : Stp [] (Lg.O0 A) w O65 wd66 := (Stp.trans (Stp.up hst27 rfl) (Stp.trans (Stp.up hst42 rfl) (Stp.trans (Stp.up hst48 rfl) (Stp.up hst67 rfl))))
    exact At.res (.inl rfl) rfl (.tmp rfl .nil) ⟨rfl, (Stp.ext hs87 rfl rfl)⟩
theorem c_bitio_NewWriter {w : World} {r0 : bitio_Writer} (h : bitio_NewWriter = some r0) : Rets Try.prog 32 [] w (fun v w' => ∃ (p0 : Nat) (u0_0 : Value), v = Value.pointer (some ⟨p0, 0, none⟩) ∧ Ext w w' ∧ (w'.heap[p0]? = some (.cells (List.toArray [u0_0, vi r0.n]) 86 (0, 0)) ∧ w.heap.size ≤ p0) ∧ RowF Rep.b 5 w w' u0_0 r0.b ∧ Value.ownBlock u0_0 ≠ some p0) := by
 unfold bitio_NewWriter at h
 refine Rets.enter Try.func32 rfl rfl ?_
 refine (show WC _ _ _ _ [] _ from ?_)
 refine WC.seq ?_
 refine WC.region ?_
 refine WL.y (Y.assign rfl) rfl ?_
 refine WL.nil ?_
 refine At.then ?_
 refine WC.seq ?_
 refine WC.region ?_
 refine WL.y (Y.build (vals := []) (cells := [Value.slice none 0 0, vi 0]) (Fits.evalp rfl) (by kernel_rfl)) rfl ?_
 refine WL.box (O := (Lg.O0 (fun _ => False))) 11 [Value.slice none 0 0, vi 0] rfl rfl rfl ?_
 intro p12 O13 wd14 hst15 hb11
 refine WL.y (Y.assign rfl) rfl ?_
 refine WL.nil ?_
 refine At.then ?_
 refine WC.ret ?_
 obtain rfl := some1 h
 have hs16 : Stp [] (Lg.O0 (fun _ => False)) w O13 wd14 := (Stp.up hst15 rfl)
 exact At.res (.inl rfl) rfl (.tmp rfl .nil) ⟨p12, Value.slice none 0 0, rfl, (Stp.ext hs16 rfl rfl), (Blk.outF hb11 hs16 low0 rfl), RowF.nil, not_nil⟩
theorem c_histbits_NewRow {w : World} {r0 : histbits_Row} (h : histbits_NewRow = some r0) : Rets Try.prog 33 [] w (fun v w' => ∃ (p0 : Nat) (u0_4 : Value) (u0_6 : Value), v = Value.pointer (some ⟨p0, 0, none⟩) ∧ Ext w w' ∧ (w'.heap[p0]? = some (.cells (List.toArray [vi r0.n, vi r0.last.Scale, vu r0.last.Zero, vi r0.last.Pos.Offset, u0_4, vi r0.last.Neg.Offset, u0_6]) 88 (0, 0)) ∧ w.heap.size ≤ p0) ∧ RowF Rep.u 22 w w' u0_4 r0.last.Pos.Counts ∧ RowF Rep.u 22 w w' u0_6 r0.last.Neg.Counts ∧ Value.ownBlock u0_4 ≠ some p0 ∧ Value.ownBlock u0_6 ≠ some p0 ∧ (∀ k, Value.ownBlock u0_4 = some k → Value.ownBlock u0_6 ≠ some k)) := by
 unfold histbits_NewRow at h
 refine Rets.enter Try.func33 rfl rfl ?_
 refine (show WC _ _ _ _ [] _ from ?_)
 refine WC.seq ?_
 refine WC.region ?_
 refine WL.y (Y.assign rfl) rfl ?_
 refine WL.nil ?_
 refine At.then ?_
 refine WC.seq ?_
 refine WC.region ?_
 refine WL.y (Y.build (vals := []) (cells := [vi 0, vi 0, vu 0, vi 0, Value.slice none 0 0, vi 0, Value.slice none 0 0]) (Fits.evalp rfl) (by kernel_rfl)) rfl ?_
 refine WL.box (O := (Lg.O0 (fun _ => False))) 11 [vi 0, vi 0, vu 0, vi 0, Value.slice none 0 0, vi 0, Value.slice none 0 0] rfl rfl rfl ?_
 intro p12 O13 wd14 hst15 hb11
 refine WL.y (Y.assign rfl) rfl ?_
 refine WL.nil ?_
 refine At.then ?_
 refine WC.ret ?_
 obtain rfl := some1 h
 have hs16 : Stp [] (Lg.O0 (fun _ => False)) w O13 wd14 := (Stp.up hst15 rfl)
 exact At.res (.inl rfl) rfl (.tmp rfl .nil) ⟨p12, Value.slice none 0 0, Value.slice none 0 0, rfl, (Stp.ext hs16 rfl rfl), (Blk.outF hb11 hs16 low0 rfl), RowF.nil, RowF.nil, not_nil, not_nil, (fun _ e => absurd e not_nil)⟩
theorem c_hist_sides {A : Nat → Prop} {v0_3 : Value} {v0_5 : Value} {a0 : api_Hist} {w : World} (hs0_3 : Sl Rep.u w A v0_3 a0.Pos.Counts) (hs0_5 : Sl Rep.u w A v0_5 a0.Neg.Counts) {r0 : List api_Side} (h : hist_sides a0 = some r0) : Rets Try.prog 57 [Value.agg (List.toArray [vi a0.Scale, vu a0.Zero, vi a0.Pos.Offset, v0_3, vi a0.Neg.Offset, v0_5])] w (fun v w' => ∃ (cs0 : List Value), v = Value.agg (List.toArray cs0) ∧ Ext w w' ∧ Rows' rep_api_Side w' (fun k => A k ∨ w.heap.size ≤ k) cs0 r0 ∧ r0.length = 2) := by
 unfold hist_sides at h
 refine Rets.enter Try.func57 rfl rfl ?_
 have hf11 : Sl Rep.u w (imm (Lg.O0 A)) v0_3 a0.Pos.Counts := (Sl.start hs0_3)
 have hf12 : Sl Rep.u w (imm (Lg.O0 A)) v0_5 a0.Neg.Counts := (Sl.start hs0_5)
 refine (show WC _ _ _ _ [(0, Value.agg (List.toArray [vi a0.Scale, vu a0.Zero, vi a0.Pos.Offset, v0_3, vi a0.Neg.Offset, v0_5]))] _ from ?_)
 refine WC.seq ?_
 refine WC.region ?_
 have hh16 := h
 obtain ⟨p13, m14, c15, rfl⟩ := hf11.shape
 have h := hh16
 have hh20 := h
 obtain ⟨p17, m18, c19, rfl⟩ := hf12.shape
 have h := hh20
 refine WL.box (O := (Lg.O0 A)) 11 [vi a0.Scale, vu a0.Zero, vi a0.Pos.Offset, (Value.slice p13 m14 c15), vi a0.Neg.Offset, (Value.slice p17 m18 c19)] rfl rfl rfl ?_
 intro p22 O23 wd24 hst25 hb21
 refine WL.alloc (O := O23) 12 [vi 0, Value.slice none 0 0, vi 0, Value.slice none 0 0] ty75 rfl rfl ?_
 intro p27 O28 wd29 hst30 hb26
 refine WL.nil ?_
 refine At.then ?_
 refine WC.seq ?_
 refine WC.region ?_
 refine WL.y (Y.fieldAddr fo27_2 rfl) rfl ?_
 have hf31 := hb21.st hst30 rfl
 refine WL.y (Y.loadAg ty25 rfl rfl (hf31.cells 2 [vi a0.Pos.Offset, (Value.slice p13 m14 c15)] rfl) rfl) rfl ?_
 refine WL.y (Y.fieldAddr fo27_3 rfl) rfl ?_
 refine WL.y (Y.loadAg ty25 rfl rfl (hf31.cells 4 [vi a0.Neg.Offset, (Value.slice p17 m18 c19)] rfl) rfl) rfl ?_
 refine WL.y (Y.build (vals := [(0, Value.agg (List.toArray [vi a0.Pos.Offset, (Value.slice p13 m14 c15)])), (1, Value.agg (List.toArray [vi a0.Neg.Offset, (Value.slice p17 m18 c19)]))]) (cells := [vi a0.Pos.Offset, (Value.slice p13 m14 c15), vi a0.Neg.Offset, (Value.slice p17 m18 c19)]) (Fits.evalp rfl) (by kernel_rfl)) rfl ?_
 refine WL.store (v := Value.agg (List.toArray [vi a0.Pos.Offset, (Value.slice p13 m14 c15), vi a0.Neg.Offset, (Value.slice p17 m18 c19)])) (cells' := [vi a0.Pos.Offset, (Value.slice p13 m14 c15), vi a0.Neg.Offset, (Value.slice p17 m18 c19)]) ty75 rfl rfl hb26 rfl (Nat.le_of_ble_eq_true rfl) rfl rfl ?_
 intro wd32 hst33 hb34
 refine WL.nil ?_
 refine At.then ?_
 refine WC.ret ?_
 obtain rfl := some1 h
 have hs35 : Stp [12] (Lg.O0 A) w O28 wd32 := (Stp.trans (Stp.up hst25 rfl) (Stp.trans (Stp.up hst30 rfl) (Stp.up hst33 rfl)))
 have hf36 := hf11.mono (imm_st hst25 rfl rfl)
 have hf37 := hf36.mono (imm_st hst30 rfl rfl)
 have hf38 := hf37.mono (imm_st hst33 rfl rfl)
 have hf39 := hf12.mono (imm_st hst25 rfl rfl)
 have hf40 := hf39.mono (imm_st hst30 rfl rfl)
 have hf41 := hf40.mono (imm_st hst33 rfl rfl)
 exact At.res (.inl rfl) rfl (.cell rfl (hb34.runAg 0 [vi a0.Pos.Offset, (Value.slice p13 m14 c15), vi a0.Neg.Offset, (Value.slice p17 m18 c19)] ty75 rfl rfl rfl) .nil) ⟨[vi a0.Pos.Offset, (Value.slice p13 m14 c15), vi a0.Neg.Offset, (Value.slice p17 m18 c19)], rfl, (Stp.ext hs35 rfl rfl), (Rows'.outI (O' := O28) (R := rep_api_Side) ⟨[vi a0.Pos.Offset, (Value.slice p13 m14 c15)], [vi a0.Neg.Offset, (Value.slice p17 m18 c19)], rfl, ⟨[vi a0.Pos.Offset], [(Value.slice p13 m14 c15)], rfl, rfl, ⟨_, rfl, hf38⟩⟩, ⟨[vi a0.Neg.Offset, (Value.slice p17 m18 c19)], [], rfl, ⟨[vi a0.Neg.Offset], [(Value.slice p17 m18 c19)], rfl, rfl, ⟨_, rfl, hf41⟩⟩, rfl⟩⟩ hs35 low0 O0_A), rfl⟩
theorem c_hist_Total {A : Nat → Prop} {v0_3 : Value} {v0_5 : Value} {a0 : api_Hist} {w : World} (hs0_3 : Sl Rep.u w A v0_3 a0.Pos.Counts) (hs0_5 : Sl Rep.u w A v0_5 a0.Neg.Counts) {r0 : UInt64} {r1 : Bool} (h : hist_Total a0 = some (r0, r1)) : Rets Try.prog 17 [Value.agg (List.toArray [vi a0.Scale, vu a0.Zero, vi a0.Pos.Offset, v0_3, vi a0.Neg.Offset, v0_5])] w (fun v w' => v = Value.tuple (List.toArray [vu r0, Value.bool r1]) ∧ Ext w w') := by
 unfold hist_Total at h
 refine Rets.enter Try.func17 rfl rfl ?_
 have hf11 : Sl Rep.u w (imm (Lg.O0 A)) v0_3 a0.Pos.Counts := (Sl.start hs0_3)
 have hf12 : Sl Rep.u w (imm (Lg.O0 A)) v0_5 a0.Neg.Counts := (Sl.start hs0_5)
 refine (show WC _ _ _ _ [(0, Value.agg (List.toArray [vi a0.Scale, vu a0.Zero, vi a0.Pos.Offset, v0_3, vi a0.Neg.Offset, v0_5]))] _ from ?_)
 refine WC.seq ?_
 refine WC.region ?_
 have hh16 := h
 obtain ⟨p13, m14, c15, rfl⟩ := hf11.shape
 have h := hh16
 have hh20 := h
 obtain ⟨p17, m18, c19, rfl⟩ := hf12.shape
 have h := hh20
 refine WL.box (O := (Lg.O0 A)) 11 [vi a0.Scale, vu a0.Zero, vi a0.Pos.Offset, (Value.slice p13 m14 c15), vi a0.Neg.Offset, (Value.slice p17 m18 c19)] rfl rfl rfl ?_
 intro p22 O23 wd24 hst25 hb21
 refine WL.y (Y.assign (v := vu 0) rfl) rfl ?_
 refine WL.y (Y.assign rfl) rfl ?_
 refine WL.nil ?_
 refine At.then ?_
 refine WC.seq ?_
 refine WC.region ?_
 refine WL.y (Y.fieldAddr fo27_1 rfl) rfl ?_
 refine WL.y (Y.loadSc ty22 rfl rfl (hb21.cell 1 _ rfl)) rfl ?_
 refine WL.y (Y.assign rfl) rfl ?_
 refine WL.y (Y.assign (v := vu 0) rfl) rfl ?_
 refine WL.nil ?_
 refine At.then ?_
 refine WC.seq ?_
 refine WC.seq ?_
 refine WC.region ?_
 refine WL.y (Y.loadAg ty27 rfl rfl (hb21.cells 0 [vi a0.Scale, vu a0.Zero, vi a0.Pos.Offset, (Value.slice p13 m14 c15), vi a0.Neg.Offset, (Value.slice p17 m18 c19)] rfl) rfl) rfl ?_
 have hf26 := hf11.mono (imm_st hst25 rfl rfl)
 have hf27 := hf12.mono (imm_st hst25 rfl rfl)
 obtain ⟨r28, hp29, h⟩ := bnd h
 refine WL.call (vals := [Value.agg (List.toArray [vi a0.Scale, vu a0.Zero, vi a0.Pos.Offset, (Value.slice p13 m14 c15), vi a0.Neg.Offset, (Value.slice p17 m18 c19)])]) kok57 rfl rfl (c_hist_sides (A := imm O23) (a0 := a0) hf26 hf27 hp29) ?_
 rintro vr35 wd34 ⟨cs30, rfl, hm33, f31, f32⟩
 obtain ⟨O36, hold37, hnew38, hst39⟩ := adoptE O23 (fun k => 1) hm33
 have hf40 := Rows'.adoptI (O := O23) f31 (fun _ hk => hk) (fun _ _ => Nat.le_refl _) hold37 hnew38
 refine WL.y (Y.move rfl) rfl ?_
 refine WL.nil ?_
 refine At.then ?_
 obtain ⟨p46, h, hk47⟩ := bnd h
 refine WC.join (σ := (UInt64 × UInt64 × Own)) (fun x w' => (x.1, x.2.1) = p46 ∧ Stp [12] O36 wd34 x.2.2 w') (fun x => [(4, vu x.1), (5, vu x.2.1)]) ?_ ?_
 ·refine WC.block ?_
  obtain ⟨p59, h, hk61⟩ := flow1 h
  obtain ⟨k60, h⟩ := loop_some h
  refine WC.joinB 0 (σ := (UInt64 × UInt64 × Own)) (fun x w' => p59 = .go (x.1, x.2.1) ∧ Stp [12] O36 wd34 x.2.2 w') (fun x => [(4, vu x.1), (5, vu x.2.1)]) ?_ ?_
  ·refine WC.loop (σ := (UInt64 × UInt64 × Int × Own)) (fun x k w' => loopN k (hist_Total_lp1 r28) (x.1, x.2.1, x.2.2.1) = some p59 ∧ Stp [12] O36 wd34 x.2.2.2 w') (fun x => [(4, vu x.1), (5, vu x.2.1), (14, Value.agg (List.toArray cs30)), (15, vi x.2.2.1)]) (a0.Zero, 0, 0, O36) k60 (.cons rfl (.cons rfl (.cons rfl (.cons rfl .nil)))) ⟨h, (Stp.refl _ _ _)⟩ ?_
   rintro ⟨sum48, over49, x50, O51⟩ k60 wd52 ⟨h, hst53⟩
   obtain ⟨j62, q63, rfl, h, hn64⟩ := rnd1 h
   unfold hist_Total_lp1 at h
   try dsimp only at h hst53
   refine (show WC _ _ _ _ [(4, vu sum48), (5, vu over49), (14, Value.agg (List.toArray cs30)), (15, vi x50)] _ from ?_)
   refine WC.seq ?_
   refine WC.region ?_
   refine WL.y (Y.lss_i rfl rfl) rfl ?_
   refine WL.nil ?_
   refine At.then ?_
   refine WC.seq ?_
   rcases cnd h with ⟨hc65, h⟩ | ⟨hc65, h⟩
   ·refine WC.condT' rfl hc65 ?_
    refine WC.skip ?_
    refine At.then ?_
    refine WC.seq ?_
    refine WC.block ?_
    refine WC.seq ?_
    refine WC.region ?_
    have hf66 := Rows'.mono (imm_st hst53 rfl rfl) hf40
    obtain ⟨e67, he67, h⟩ := bnd h
    obtain ⟨cs68, hcs69, hok70⟩ := arrAt (R := rep_api_Side) (w := wd52) (A := imm O51) (cells := cs30) hf66 he67
    obtain ⟨_, _, rfl, rfl, ⟨v71, rfl, hf72⟩⟩ := hok70
    replace hcs69 : _ = [vi e67.Offset, v71] := hcs69
    refine WL.y (Y.indexArrAg ty75 ty25 rfl rfl hcs69 he67 f32) rfl ?_
    refine WL.alloc (O := O51) 12 [vi 0, Value.slice none 0 0] ty25 rfl rfl ?_
    intro p74 O75 wd76 hst77 hb73
    have hf78 := hf72.mono (imm_st hst77 rfl rfl)
    have hh82 := h
    obtain ⟨p79, m80, c81, rfl⟩ := hf78.shape
    have h := hh82
    refine WL.store (v := Value.agg (List.toArray [vi e67.Offset, (Value.slice p79 m80 c81)])) (cells' := [vi e67.Offset, (Value.slice p79 m80 c81)]) ty25 rfl rfl hb73 rfl (Nat.le_of_ble_eq_true rfl) rfl rfl ?_
    intro wd83 hst84 hb85
    refine WL.nil ?_
    refine At.then ?_
    refine WC.seq ?_
    refine WC.region ?_
    refine WL.y (Y.fieldAddr fo25_1 rfl) rfl ?_
    refine WL.y (Y.loadSc ty23 rfl rfl (hb85.cell 1 _ rfl)) rfl ?_
    have hf86 := hf78.mono (imm_st hst84 rfl rfl)
    refine WL.y (Y.len ty23 rfl hf86) rfl ?_
    refine WL.y (Y.move rfl) rfl ?_
    refine WL.nil ?_
    refine At.then ?_
    obtain ⟨p89, h, hk90⟩ := bnd h
    refine WC.join (σ := (UInt64 × UInt64)) (fun x w' => (x.1, x.2) = p89 ∧ wd83 = w') (fun x => [(4, vu x.1), (5, vu x.2), (14, Value.agg (List.toArray cs30)), (15, vi x50)]) ?_ ?_
    ·refine WC.block ?_
     obtain ⟨p96, h, hk98⟩ := flow1 h
     obtain ⟨k97, h⟩ := loop_some h
     refine WC.joinB 2 (σ := (UInt64 × UInt64)) (fun x w' => p96 = .go (x.1, x.2) ∧ wd83 = w') (fun x => [(4, vu x.1), (5, vu x.2), (14, Value.agg (List.toArray cs30)), (15, vi x50)]) ?_ ?_
     ·refine WC.loop (σ := (UInt64 × UInt64 × Int)) (fun x k w' => loopN k (hist_Total_lp2 e67) (x.1, x.2.1, x.2.2) = some p96 ∧ wd83 = w') (fun x => [(4, vu x.1), (5, vu x.2.1), (14, Value.agg (List.toArray cs30)), (15, vi x50), (19, (Value.slice p79 m80 c81)), (20, vi (e67.Counts.length : Int)), (21, vi x.2.2)]) (sum48, over49, 0) k97 (.cons rfl (.cons rfl (.cons rfl (.cons rfl (.cons rfl (.cons rfl (.cons rfl .nil))))))) ⟨h, rfl⟩ ?_
      rintro ⟨sum91, over92, x93⟩ k97 _ ⟨h, rfl⟩
      obtain ⟨j99, q100, rfl, h, hn101⟩ := rnd1 h
      unfold hist_Total_lp2 at h
      try dsimp only at h
      refine (show WC _ _ _ _ [(4, vu sum91), (5, vu over92), (14, Value.agg (List.toArray cs30)), (15, vi x50), (19, (Value.slice p79 m80 c81)), (20, vi (e67.Counts.length : Int)), (21, vi x93)] _ from ?_)
      refine WC.seq ?_
      refine WC.region ?_
      refine WL.y (Y.lss_i rfl rfl) rfl ?_
      refine WL.nil ?_
      refine At.then ?_
      refine WC.seq ?_
      rcases cnd h with ⟨hc102, h⟩ | ⟨hc102, h⟩
      ·refine WC.condT' rfl hc102 ?_
       refine WC.skip ?_
       refine At.then ?_
       refine WC.seq ?_
       refine WC.block ?_
       refine WC.seq ?_
       refine WC.region ?_
       obtain ⟨e103, he103, h⟩ := bnd h
       obtain ⟨b104, off112, cap111, cs110, hv105, hi106, hl107, hc108, hok109, hA113⟩ := Sl.at2 hf86 he103
       obtain rfl := hok109
       replace hc108 : CellsAt _ _ _ [vu e103] := hc108
       have hca114 := CAt.imm hc108 hA113
       refine WL.y (Y.indexAddr ty23 ty22 rfl hv105 rfl hi106 hl107) rfl ?_
       refine WL.y (Y.loadSc ty22 rfl rfl hca114.at_) rfl ?_
       refine WL.y (Y.assign rfl) rfl ?_
       refine WL.nil ?_
       refine At.then ?_
       refine WC.seq ?_
       refine WC.region ?_
       refine WL.y (Y.assign (v := vu 0) rfl) rfl ?_
       refine WL.nil ?_
       refine At.then ?_
       refine WC.seq ?_
       refine WC.region ?_
       refine WL.y (Y.move rfl) rfl ?_
       refine WL.y (Y.move rfl) rfl ?_
       refine WL.y (Y.add64 (c := 0) x64_58 (by decide) rfl rfl rfl) rfl ?_
       refine WL.y (Y.move rfl) rfl ?_
       refine WL.y (Y.extract rfl rfl) rfl ?_
       refine WL.y (Y.extract rfl rfl) rfl ?_
       obtain ⟨sum115, hsum115, h⟩ := lt1 h
       refine WL.yE (Y.assign rfl) (congrArg vu hsum115.symm) rfl ?_
       obtain ⟨carry116, hcarry116, h⟩ := lt1 h
       refine WL.yE (Y.assign rfl) (congrArg vu hcarry116.symm) rfl ?_
       refine WL.nil ?_
       refine At.then ?_
       refine WC.region ?_
       refine WL.y (Y.move rfl) rfl ?_
       refine WL.y (Y.move rfl) rfl ?_
       refine WL.y (Y.or_u rfl rfl) rfl ?_
       obtain ⟨over117, hover117, h⟩ := lt1 h
       refine WL.yE (Y.assign rfl) (congrArg vu hover117.symm) rfl ?_
       refine WL.nil ?_
       refine At.inBlock ?_
       refine At.then ?_
       refine WC.region ?_
       refine WL.y (Y.add_i rfl rfl) rfl ?_
       refine WL.y (Y.move rfl) rfl ?_
       refine WL.nil ?_
       exact At.round (sum115, over117, w64 (x93 + 1)) j99 (Nat.lt_succ_self _) ⟨next1 h hn101, rfl⟩ (.cons rfl (.cons rfl (.cons rfl (.cons rfl (.cons rfl (.cons rfl (.cons rfl .nil)))))))
      ·refine WC.condF' rfl hc102 ?_
       refine WC.exit ?_
       refine At.thenX ?_
       refine At.loopX ?_
       exact At.hitB (σ := (UInt64 × UInt64)) (sum91, over92) ⟨brk1 h hn101, rfl⟩ (.cons rfl (.cons rfl (.cons rfl (.cons rfl .nil))))
     ·rintro ⟨sum94, over95⟩ _ ⟨rfl, rfl⟩
      replace h := flowK_go hk98
      try dsimp only at h
      refine (show At _ _ _ [(4, vu sum94), (5, vu over95), (14, Value.agg (List.toArray cs30)), (15, vi x50)] _ from ?_)
      refine At.inBlockHit ?_
      exact At.join (σ := (UInt64 × UInt64)) (sum94, over95) ⟨some1 h, rfl⟩ (.cons rfl (.cons rfl (.cons rfl (.cons rfl .nil))))
    ·rintro ⟨sum87, over88⟩ _ ⟨rfl, rfl⟩
     replace h := hk90
     try dsimp only at h
     refine (show At _ _ _ [(4, vu sum87), (5, vu over88), (14, Value.agg (List.toArray cs30)), (15, vi x50)] _ from ?_)
     refine At.inBlock ?_
     refine At.then ?_
     refine WC.region ?_
     refine WL.y (Y.add_i rfl rfl) rfl ?_
     refine WL.y (Y.move rfl) rfl ?_
     refine WL.nil ?_
     exact At.round (sum87, over88, w64 (x50 + 1), O75) j62 (Nat.lt_succ_self _) ⟨next1 h hn64, (Stp.trans (Stp.up hst53 rfl) (Stp.trans (Stp.up hst77 rfl) (Stp.up hst84 rfl)))⟩ (.cons rfl (.cons rfl (.cons rfl (.cons rfl .nil))))
   ·refine WC.condF' rfl hc65 ?_
    refine WC.exit ?_
    refine At.thenX ?_
    refine At.loopX ?_
    exact At.hitB (σ := (UInt64 × UInt64 × Own)) (sum48, over49, O51) ⟨brk1 h hn64, (Stp.up hst53 rfl)⟩ (.cons rfl (.cons rfl .nil))
  ·rintro ⟨sum54, over55, O56⟩ wd57 ⟨rfl, hst58⟩
   replace h := flowK_go hk61
   try dsimp only at h hst58
   refine (show At _ _ _ [(4, vu sum54), (5, vu over55)] _ from ?_)
   refine At.inBlockHit ?_
   exact At.join (σ := (UInt64 × UInt64 × Own)) (sum54, over55, O56) ⟨some1 h, (Stp.up hst58 rfl)⟩ (.cons rfl (.cons rfl .nil))
 ·rintro ⟨sum41, over42, O43⟩ wd44 ⟨rfl, hst45⟩
  replace h := hk47
  try dsimp only at h hst45
  refine (show At _ _ _ [(4, vu sum41), (5, vu over42)] _ from ?_)
  refine At.then ?_
  refine WC.seq ?_
  refine WC.seq ?_
  refine WC.region ?_
  refine WL.y (Y.move rfl) rfl ?_
  refine WL.y (Y.neq_u (b := 0) rfl rfl) rfl ?_
  refine WL.nil ?_
  refine At.then ?_
  rcases cnd h with ⟨hc118, h⟩ | ⟨hc118, h⟩
  ·refine WC.condT' rfl hc118 ?_
   refine WC.seq ?_
   refine WC.region ?_
   refine WL.y (Y.assign (v := vu 0) rfl) rfl ?_
   refine WL.y (Y.assign rfl) rfl ?_
   refine WL.nil ?_
   refine At.then ?_
   refine WC.ret ?_
   refine At.thenR ?_
   obtain ⟨rfl, rfl⟩ := tup2 h
   have hs119 : Stp [12] (Lg.O0 A) w O43 wd44 := (Stp.trans (Stp.up hst25 rfl) (Stp.trans (Stp.up hst39 rfl) (Stp.up hst45 rfl)))
   exact At.res (.inl rfl) rfl (.tmp rfl (.tmp rfl .nil)) ⟨rfl, (Stp.ext hs119 rfl rfl)⟩
  ·refine WC.condF' rfl hc118 ?_
   refine WC.skip ?_
   refine At.then ?_
   refine WC.seq ?_
   refine WC.region ?_
   refine WL.y (Y.move rfl) rfl ?_
   refine WL.y (Y.assign rfl) rfl ?_
   refine WL.y (Y.assign rfl) rfl ?_
   refine WL.nil ?_
   refine At.then ?_
   refine WC.ret ?_
   obtain ⟨rfl, rfl⟩ := tup2 h
   have hs120 : Stp [12] (Lg.O0 A) w O43 wd44 := (Stp.trans (Stp.up hst25 rfl) (Stp.trans (Stp.up hst39 rfl) (Stp.up hst45 rfl)))
   exact At.res (.inl rfl) rfl (.tmp rfl (.tmp rfl .nil)) ⟨rfl, (Stp.ext hs120 rfl rfl)⟩
theorem c_hist_check {A : Nat → Prop} {v0_1 : Value} {a0 : api_Side} {w : World} (hs0_1 : Sl Rep.u w A v0_1 a0.Counts) {r0 : Int} (h : hist_check a0 = some r0) : Rets Try.prog 60 [Value.agg (List.toArray [vi a0.Offset, v0_1])] w (fun v w' => v = vi r0 ∧ Ext w w') := by
 unfold hist_check at h
 refine Rets.enter Try.func60 rfl rfl ?_
 have hf11 : Sl Rep.u w (imm (Lg.O0 A)) v0_1 a0.Counts := (Sl.start hs0_1)
 refine (show WC _ _ _ _ [(0, Value.agg (List.toArray [vi a0.Offset, v0_1]))] _ from ?_)
 refine WC.seq ?_
 refine WC.region ?_
 have hh15 := h
 obtain ⟨p12, m13, c14, rfl⟩ := hf11.shape
 have h := hh15
 refine WL.box (O := (Lg.O0 A)) 11 [vi a0.Offset, (Value.slice p12 m13 c14)] rfl rfl rfl ?_
 intro p17 O18 wd19 hst20 hb16
 refine WL.y (Y.assign rfl) rfl ?_
 refine WL.nil ?_
 refine At.then ?_
 refine WC.seq ?_
 refine WC.region ?_
 refine WL.y (Y.fieldAddr fo25_1 rfl) rfl ?_
 refine WL.y (Y.loadSc ty23 rfl rfl (hb16.cell 1 _ rfl)) rfl ?_
 have hf21 := hf11.mono (imm_st hst20 rfl rfl)
 refine WL.y (Y.len ty23 rfl hf21) rfl ?_
 obtain ⟨nv22, hnv22, h⟩ := lt1 h
 refine WL.yE (Y.assign rfl) (congrArg vi hnv22.symm) rfl ?_
 refine WL.nil ?_
 refine At.then ?_
 refine WC.seq ?_
 refine WC.block ?_
 refine WC.seq ?_
 refine WC.region ?_
 refine WL.y (Y.move rfl) rfl ?_
 refine WL.y (Y.gtr_i rfl rfl) rfl ?_
 obtain ⟨t23, ht23, h⟩ := lt1 h
 refine WL.yE (Y.assign rfl) (congrArg Value.bool ht23.symm) rfl ?_
 refine WL.nil ?_
 refine At.then ?_
 rcases cnd h with ⟨hc24, h⟩ | ⟨hc24, h⟩
 ·refine WC.condT' rfl hc24 ?_
  refine WC.seq ?_
  refine WC.region ?_
  refine WL.y (Y.assign rfl) rfl ?_
  refine WL.nil ?_
  refine At.then ?_
  refine WC.ret ?_
  refine At.inBlockR ?_
  refine At.thenR ?_
  obtain rfl := some1 h
  have hs25 : Stp [] (Lg.O0 A) w O18 wd19 := (Stp.up hst20 rfl)
  exact At.res (.inl rfl) rfl (.tmp rfl .nil) ⟨rfl, (Stp.ext hs25 rfl rfl)⟩
 ·refine WC.condF' rfl hc24 ?_
  refine WC.seq ?_
  refine WC.region ?_
  refine WL.y (Y.move rfl) rfl ?_
  refine WL.y (Y.eql_i rfl rfl) rfl ?_
  refine WL.y (Y.move rfl) rfl ?_
  refine WL.cut 4 (σ := Unit) (fun _ w' => wd19 = w') (fun _ => [(1, Value.pointer (some ⟨p17, 0, none⟩)), (3, vi nv22), (17, Value.bool ((decide (nv22 = 0)) && (!decide (a0.Offset = 0))))]) ?_ ?_
  ·refine WL.part 13 rfl (fun hE26 => ?_) (fun hE26 => ?_)
   ·refine WL.ung rfl rfl ?_
    refine WL.y (Y.fieldAddr fo25_0 rfl) rfl ?_
    refine WL.ung rfl rfl ?_
    refine WL.y (Y.loadSc ty3 rfl rfl (hb16.cell 0 _ rfl)) rfl ?_
    refine WL.ung rfl rfl ?_
    refine WL.y (Y.neq_i rfl rfl) rfl ?_
    refine WL.y (Y.pick (b := true) rfl rfl) rfl ?_
    refine WL.ren (v' := Value.bool ((decide (nv22 = 0)) && (!decide (a0.Offset = 0)))) 17 rfl (congrArg Value.bool (andT hE26)) ?_
    exact WL.nil (At.join () rfl (.cons rfl (.cons rfl (.cons rfl .nil))))
   ·refine WL.gS rfl rfl rfl rfl ?_
    refine WL.gS rfl rfl rfl rfl ?_
    refine WL.gS rfl rfl rfl rfl ?_
    refine WL.y (Y.pick (b := false) rfl rfl) rfl ?_
    refine WL.ren (v' := Value.bool ((decide (nv22 = 0)) && (!decide (a0.Offset = 0)))) 17 rfl (congrArg Value.bool (andF hE26)) ?_
    exact WL.nil (At.join () rfl (.cons rfl (.cons rfl (.cons rfl .nil))))
  ·rintro _ _ rfl
   refine (show WL _ _ _ _ _ [(1, Value.pointer (some ⟨p17, 0, none⟩)), (3, vi nv22), (17, Value.bool ((decide (nv22 = 0)) && (!decide (a0.Offset = 0))))] _ from ?_)
   obtain ⟨t27, ht27, h⟩ := lt1 h
   refine WL.yE (Y.assign rfl) (congrArg Value.bool ht27.symm) rfl ?_
   refine WL.nil ?_
   refine At.then ?_
   rcases cnd h with ⟨hc28, h⟩ | ⟨hc28, h⟩
   ·refine WC.condT' rfl hc28 ?_
    refine WC.seq ?_
    refine WC.region ?_
    refine WL.y (Y.assign rfl) rfl ?_
    refine WL.nil ?_
    refine At.then ?_
    refine WC.ret ?_
    refine At.inBlockR ?_
    refine At.thenR ?_
    obtain rfl := some1 h
    have hs29 : Stp [] (Lg.O0 A) w O18 wd19 := (Stp.up hst20 rfl)
    exact At.res (.inl rfl) rfl (.tmp rfl .nil) ⟨rfl, (Stp.ext hs29 rfl rfl)⟩
   ·refine WC.condF' rfl hc28 ?_
    refine WC.seq ?_
    refine WC.region ?_
    refine WL.y (Y.move rfl) rfl ?_
    refine WL.y (Y.eql_i rfl rfl) rfl ?_
    obtain ⟨t30, ht30, h⟩ := lt1 h
    refine WL.yE (Y.assign rfl) (congrArg Value.bool ht30.symm) rfl ?_
    refine WL.nil ?_
    refine At.then ?_
    rcases cnd h with ⟨hc31, h⟩ | ⟨hc31, h⟩
    ·refine WC.condT' rfl hc31 ?_
     refine WC.seq ?_
     refine WC.region ?_
     refine WL.y (Y.assign rfl) rfl ?_
     refine WL.nil ?_
     refine At.then ?_
     refine WC.ret ?_
     refine At.inBlockR ?_
     refine At.thenR ?_
     obtain rfl := some1 h
     have hs32 : Stp [] (Lg.O0 A) w O18 wd19 := (Stp.up hst20 rfl)
     exact At.res (.inl rfl) rfl (.tmp rfl .nil) ⟨rfl, (Stp.ext hs32 rfl rfl)⟩
    ·refine WC.condF' rfl hc31 ?_
     refine WC.seq ?_
     refine WC.region ?_
     refine WL.y (Y.fieldAddr fo25_1 rfl) rfl ?_
     refine WL.y (Y.loadSc ty23 rfl rfl (hb16.cell 1 _ rfl)) rfl ?_
     obtain ⟨e33, he33, h⟩ := bnd h
     obtain ⟨b34, off42, cap41, cs40, hv35, hi36, hl37, hc38, hok39, hA43⟩ := Sl.at2 hf21 he33
     obtain rfl := hok39
     replace hc38 : CellsAt _ _ _ [vu e33] := hc38
     have hca44 := CAt.imm hc38 hA43
     refine WL.y (Y.indexAddr ty23 ty22 rfl hv35 rfl hi36 hl37) rfl ?_
     refine WL.y (Y.loadSc ty22 rfl rfl hca44.at_) rfl ?_
     refine WL.y (Y.eql_u (b := 0) rfl rfl) rfl ?_
     refine WL.y (Y.move rfl) rfl ?_
     obtain ⟨p46, h, hk47⟩ := bnd h
     refine WL.cut 8 (σ := Bool) (fun x w' => x = p46 ∧ wd19 = w') (fun x => [(1, Value.pointer (some ⟨p17, 0, none⟩)), (3, vi nv22), (35, Value.bool x)]) ?_ ?_
     ·rcases cnd h with ⟨hE48, h⟩ | ⟨hE48, h⟩
      ·refine WL.ren 27 rfl (congrArg Value.bool hE48) ?_
       refine WL.gS rfl rfl rfl rfl ?_
       refine WL.gS rfl rfl rfl rfl ?_
       refine WL.gS rfl rfl rfl rfl ?_
       refine WL.gS rfl rfl rfl rfl ?_
       refine WL.gS rfl rfl rfl rfl ?_
       refine WL.gS rfl rfl rfl rfl ?_
       refine WL.gS rfl rfl rfl rfl ?_
       refine WL.y (Y.pick (b := true) rfl rfl) rfl ?_
       exact WL.nil (At.join (σ := Bool) true ⟨some1 h, rfl⟩ (.cons rfl (.cons rfl (.cons rfl .nil))))
      ·refine WL.ren 27 rfl (congrArg Value.bool hE48) ?_
       refine WL.ung rfl rfl ?_
       refine WL.y (Y.fieldAddr fo25_1 rfl) rfl ?_
       refine WL.ung rfl rfl ?_
       refine WL.y (Y.loadSc ty23 rfl rfl (hb16.cell 1 _ rfl)) rfl ?_
       refine WL.ung rfl rfl ?_
       refine WL.y (Y.move rfl) rfl ?_
       refine WL.ung rfl rfl ?_
       refine WL.y (Y.sub_i rfl rfl) rfl ?_
       refine WL.ung rfl rfl ?_
       obtain ⟨e49, he49, h⟩ := bnd h
       obtain ⟨b50, off58, cap57, cs56, hv51, hi52, hl53, hc54, hok55, hA59⟩ := Sl.at2 hf21 he49
       obtain rfl := hok55
       replace hc54 : CellsAt _ _ _ [vu e49] := hc54
       have hca60 := CAt.imm hc54 hA59
       refine WL.y (Y.indexAddr ty23 ty22 rfl hv51 rfl hi52 hl53) rfl ?_
       refine WL.ung rfl rfl ?_
       refine WL.y (Y.loadSc ty22 rfl rfl hca60.at_) rfl ?_
       refine WL.ung rfl rfl ?_
       refine WL.y (Y.eql_u (b := 0) rfl rfl) rfl ?_
       refine WL.y (Y.pick (b := false) rfl rfl) rfl ?_
       exact WL.nil (At.join (σ := Bool) (decide (e49 = 0)) ⟨some1 h, rfl⟩ (.cons rfl (.cons rfl (.cons rfl .nil))))
     ·rintro x45 _ ⟨rfl, rfl⟩
      replace h := hk47
      try dsimp only at h
      refine (show WL _ _ _ _ _ [(1, Value.pointer (some ⟨p17, 0, none⟩)), (3, vi nv22), (35, Value.bool x45)] _ from ?_)
      refine WL.y (Y.assign rfl) rfl ?_
      refine WL.nil ?_
      refine At.then ?_
      rcases cnd h with ⟨hc61, h⟩ | ⟨hc61, h⟩
      ·refine WC.condT' rfl hc61 ?_
       refine WC.seq ?_
       refine WC.region ?_
       refine WL.y (Y.assign rfl) rfl ?_
       refine WL.nil ?_
       refine At.then ?_
       refine WC.ret ?_
       refine At.inBlockR ?_
       refine At.thenR ?_
       obtain rfl := some1 h
       have hs62 : Stp [] (Lg.O0 A) w O18 wd19 := (Stp.up hst20 rfl)
       exact At.res (.inl rfl) rfl (.tmp rfl .nil) ⟨rfl, (Stp.ext hs62 rfl rfl)⟩
      ·refine WC.condF' rfl hc61 ?_
       refine WC.seq ?_
       refine WC.region ?_
       refine WL.y (Y.fieldAddr fo25_0 rfl) rfl ?_
       refine WL.y (Y.loadSc ty3 rfl rfl (hb16.cell 0 _ rfl)) rfl ?_
       refine WL.y (Y.lss_i rfl rfl) rfl ?_
       refine WL.y (Y.move rfl) rfl ?_
       refine WL.cut 7 (σ := Unit) (fun _ w' => wd19 = w') (fun _ => [(47, Value.bool ((decide (a0.Offset < (-1073741824))) || (decide (w64 (1073741824 - (w64 (nv22 - 1))) < a0.Offset))))]) ?_ ?_
       ·refine WL.part 40 rfl (fun hE63 => ?_) (fun hE63 => ?_)
        ·refine WL.gS rfl rfl rfl rfl ?_
         refine WL.gS rfl rfl rfl rfl ?_
         refine WL.gS rfl rfl rfl rfl ?_
         refine WL.gS rfl rfl rfl rfl ?_
         refine WL.gS rfl rfl rfl rfl ?_
         refine WL.gS rfl rfl rfl rfl ?_
         refine WL.y (Y.pick (b := true) rfl rfl) rfl ?_
         refine WL.ren (v' := Value.bool ((decide (a0.Offset < (-1073741824))) || (decide (w64 (1073741824 - (w64 (nv22 - 1))) < a0.Offset)))) 47 rfl (congrArg Value.bool (orT hE63)) ?_
         exact WL.nil (At.join () rfl (.cons rfl .nil))
        ·refine WL.ung rfl rfl ?_
         refine WL.y (Y.fieldAddr fo25_0 rfl) rfl ?_
         refine WL.ung rfl rfl ?_
         refine WL.y (Y.loadSc ty3 rfl rfl (hb16.cell 0 _ rfl)) rfl ?_
         refine WL.ung rfl rfl ?_
         refine WL.y (Y.move rfl) rfl ?_
         refine WL.ung rfl rfl ?_
         refine WL.y (Y.sub_i rfl rfl) rfl ?_
         refine WL.ung rfl rfl ?_
         refine WL.y (Y.sub_i rfl rfl) rfl ?_
         refine WL.ung rfl rfl ?_
         refine WL.y (Y.gtr_i rfl rfl) rfl ?_
         refine WL.y (Y.pick (b := false) rfl rfl) rfl ?_
         refine WL.ren (v' := Value.bool ((decide (a0.Offset < (-1073741824))) || (decide (w64 (1073741824 - (w64 (nv22 - 1))) < a0.Offset)))) 47 rfl (congrArg Value.bool (orF hE63)) ?_
         exact WL.nil (At.join () rfl (.cons rfl .nil))
       ·rintro _ _ rfl
        refine (show WL _ _ _ _ _ [(47, Value.bool ((decide (a0.Offset < (-1073741824))) || (decide (w64 (1073741824 - (w64 (nv22 - 1))) < a0.Offset))))] _ from ?_)
        obtain ⟨t64, ht64, h⟩ := lt1 h
        refine WL.yE (Y.assign rfl) (congrArg Value.bool ht64.symm) rfl ?_
        refine WL.nil ?_
        refine At.then ?_
        rcases cnd h with ⟨hc65, h⟩ | ⟨hc65, h⟩
        ·refine WC.condT' rfl hc65 ?_
         refine WC.seq ?_
         refine WC.region ?_
         refine WL.y (Y.assign rfl) rfl ?_
         refine WL.nil ?_
         refine At.then ?_
         refine WC.ret ?_
         refine At.inBlockR ?_
         refine At.thenR ?_
         obtain rfl := some1 h
         have hs66 : Stp [] (Lg.O0 A) w O18 wd19 := (Stp.up hst20 rfl)
         exact At.res (.inl rfl) rfl (.tmp rfl .nil) ⟨rfl, (Stp.ext hs66 rfl rfl)⟩
        ·refine WC.condF' rfl hc65 ?_
         refine WC.skip ?_
         refine At.inBlock ?_
         refine At.then ?_
         refine WC.seq ?_
         refine WC.region ?_
         refine WL.y (Y.assign rfl) rfl ?_
         refine WL.nil ?_
         refine At.then ?_
         refine WC.ret ?_
         obtain rfl := some1 h
         have hs67 : Stp [] (Lg.O0 A) w O18 wd19 := (Stp.up hst20 rfl)
         exact At.res (.inl rfl) rfl (.tmp rfl .nil) ⟨rfl, (Stp.ext hs67 rfl rfl)⟩
theorem c_hist_Check {A : Nat → Prop} {v0_3 : Value} {v0_5 : Value} {a0 : api_Hist} {w : World} (hs0_3 : Sl Rep.u w A v0_3 a0.Pos.Counts) (hs0_5 : Sl Rep.u w A v0_5 a0.Neg.Counts) {r0 : Int} (h : hist_Check a0 = some r0) : Rets Try.prog 19 [Value.agg (List.toArray [vi a0.Scale, vu a0.Zero, vi a0.Pos.Offset, v0_3, vi a0.Neg.Offset, v0_5])] w (fun v w' => v = vi r0 ∧ Ext w w') := by
 unfold hist_Check at h
 refine Rets.enter Try.func19 rfl rfl ?_
 have hf11 : Sl Rep.u w (imm (Lg.O0 A)) v0_3 a0.Pos.Counts := (Sl.start hs0_3)
 have hf12 : Sl Rep.u w (imm (Lg.O0 A)) v0_5 a0.Neg.Counts := (Sl.start hs0_5)
 refine (show WC _ _ _ _ [(0, Value.agg (List.toArray [vi a0.Scale, vu a0.Zero, vi a0.Pos.Offset, v0_3, vi a0.Neg.Offset, v0_5]))] _ from ?_)
 refine WC.seq ?_
 refine WC.region ?_
 have hh16 := h
 obtain ⟨p13, m14, c15, rfl⟩ := hf11.shape
 have h := hh16
 have hh20 := h
 obtain ⟨p17, m18, c19, rfl⟩ := hf12.shape
 have h := hh20
 refine WL.box (O := (Lg.O0 A)) 11 [vi a0.Scale, vu a0.Zero, vi a0.Pos.Offset, (Value.slice p13 m14 c15), vi a0.Neg.Offset, (Value.slice p17 m18 c19)] rfl rfl rfl ?_
 intro p22 O23 wd24 hst25 hb21
 refine WL.y (Y.assign rfl) rfl ?_
 refine WL.nil ?_
 refine At.then ?_
 refine WC.seq ?_
 refine WC.seq ?_
 refine WC.region ?_
 refine WL.y (Y.fieldAddr fo27_0 rfl) rfl ?_
 refine WL.y (Y.loadSc ty3 rfl rfl (hb21.cell 0 _ rfl)) rfl ?_
 refine WL.y (Y.lss_i rfl rfl) rfl ?_
 refine WL.y (Y.move rfl) rfl ?_
 refine WL.cut 4 (σ := Unit) (fun _ w' => wd24 = w') (fun _ => [(1, Value.pointer (some ⟨p22, 0, none⟩)), (15, Value.bool ((decide (a0.Scale < (-10))) || (decide (20 < a0.Scale))))]) ?_ ?_
 ·refine WL.part 11 rfl (fun hE26 => ?_) (fun hE26 => ?_)
  ·refine WL.gS rfl rfl rfl rfl ?_
   refine WL.gS rfl rfl rfl rfl ?_
   refine WL.gS rfl rfl rfl rfl ?_
   refine WL.y (Y.pick (b := true) rfl rfl) rfl ?_
   refine WL.ren (v' := Value.bool ((decide (a0.Scale < (-10))) || (decide (20 < a0.Scale)))) 15 rfl (congrArg Value.bool (orT hE26)) ?_
   exact WL.nil (At.join () rfl (.cons rfl (.cons rfl .nil)))
  ·refine WL.ung rfl rfl ?_
   refine WL.y (Y.fieldAddr fo27_0 rfl) rfl ?_
   refine WL.ung rfl rfl ?_
   refine WL.y (Y.loadSc ty3 rfl rfl (hb21.cell 0 _ rfl)) rfl ?_
   refine WL.ung rfl rfl ?_
   refine WL.y (Y.gtr_i rfl rfl) rfl ?_
   refine WL.y (Y.pick (b := false) rfl rfl) rfl ?_
   refine WL.ren (v' := Value.bool ((decide (a0.Scale < (-10))) || (decide (20 < a0.Scale)))) 15 rfl (congrArg Value.bool (orF hE26)) ?_
   exact WL.nil (At.join () rfl (.cons rfl (.cons rfl .nil)))
 ·rintro _ _ rfl
  refine (show WL _ _ _ _ _ [(1, Value.pointer (some ⟨p22, 0, none⟩)), (15, Value.bool ((decide (a0.Scale < (-10))) || (decide (20 < a0.Scale))))] _ from ?_)
  refine WL.nil ?_
  refine At.then ?_
  rcases cnd h with ⟨hc27, h⟩ | ⟨hc27, h⟩
  ·refine WC.condT' rfl hc27 ?_
   refine WC.seq ?_
   refine WC.region ?_
   refine WL.y (Y.assign rfl) rfl ?_
   refine WL.nil ?_
   refine At.then ?_
   refine WC.ret ?_
   refine At.thenR ?_
   obtain rfl := some1 h
   have hs28 : Stp [] (Lg.O0 A) w O23 wd24 := (Stp.up hst25 rfl)
   exact At.res (.inl rfl) rfl (.tmp rfl .nil) ⟨rfl, (Stp.ext hs28 rfl rfl)⟩
  ·refine WC.condF' rfl hc27 ?_
   refine WC.skip ?_
   refine At.then ?_
   refine WC.seq ?_
   refine WC.seq ?_
   refine WC.region ?_
   refine WL.y (Y.loadAg ty27 rfl rfl (hb21.cells 0 [vi a0.Scale, vu a0.Zero, vi a0.Pos.Offset, (Value.slice p13 m14 c15), vi a0.Neg.Offset, (Value.slice p17 m18 c19)] rfl) rfl) rfl ?_
   have hf29 := hf11.mono (imm_st hst25 rfl rfl)
   have hf30 := hf12.mono (imm_st hst25 rfl rfl)
   obtain ⟨r31, hp32, h⟩ := bnd h
   refine WL.call (vals := [Value.agg (List.toArray [vi a0.Scale, vu a0.Zero, vi a0.Pos.Offset, (Value.slice p13 m14 c15), vi a0.Neg.Offset, (Value.slice p17 m18 c19)])]) kok57 rfl rfl (c_hist_sides (A := imm O23) (a0 := a0) hf29 hf30 hp32) ?_
   rintro vr38 wd37 ⟨cs33, rfl, hm36, f34, f35⟩
   obtain ⟨O39, hold40, hnew41, hst42⟩ := adoptE O23 (fun k => 1) hm36
   have hf43 := Rows'.adoptI (O := O23) f34 (fun _ hk => hk) (fun _ _ => Nat.le_refl _) hold40 hnew41
   refine WL.y (Y.move rfl) rfl ?_
   refine WL.nil ?_
   refine At.then ?_
   obtain ⟨p47, h, hk48⟩ := flow1 h
   refine WC.join (σ := Own) (fun x w' => p47 = .go () ∧ Stp [12] O39 wd37 x w') (fun x => [(1, Value.pointer (some ⟨p22, 0, none⟩))]) ?_ ?_
   ·refine WC.block ?_
    obtain ⟨p56, h, hk58⟩ := flow1 h
    obtain ⟨k57, h⟩ := loop_some h
    refine WC.joinB 0 (σ := Own) (fun x w' => p56 = .go () ∧ Stp [12] O39 wd37 x w') (fun x => [(1, Value.pointer (some ⟨p22, 0, none⟩))]) ?_ ?_
    ·refine WC.loop (σ := (Int × Own)) (fun x k w' => loopN k (hist_Check_lp1 r31) x.1 = some p56 ∧ Stp [12] O39 wd37 x.2 w') (fun x => [(1, Value.pointer (some ⟨p22, 0, none⟩)), (17, Value.agg (List.toArray cs33)), (18, vi x.1)]) (0, O39) k57 (.cons rfl (.cons rfl (.cons rfl .nil))) ⟨h, (Stp.refl _ _ _)⟩ ?_
     rintro ⟨x49, O50⟩ k57 wd51 ⟨h, hst52⟩
     obtain ⟨j59, q60, rfl, h, hn61⟩ := rnd1 h
     unfold hist_Check_lp1 at h
     try dsimp only at h hst52
     refine (show WC _ _ _ _ [(1, Value.pointer (some ⟨p22, 0, none⟩)), (17, Value.agg (List.toArray cs33)), (18, vi x49)] _ from ?_)
     refine WC.seq ?_
     refine WC.region ?_
     refine WL.y (Y.lss_i rfl rfl) rfl ?_
     refine WL.nil ?_
     refine At.then ?_
     refine WC.seq ?_
     rcases cnd h with ⟨hc62, h⟩ | ⟨hc62, h⟩
     ·refine WC.condT' rfl hc62 ?_
      refine WC.skip ?_
      refine At.then ?_
      refine WC.seq ?_
      refine WC.block ?_
      refine WC.seq ?_
      refine WC.region ?_
      have hf63 := Rows'.mono (imm_st hst52 rfl rfl) hf43
      obtain ⟨e64, he64, h⟩ := bnd h
      obtain ⟨cs65, hcs66, hok67⟩ := arrAt (R := rep_api_Side) (w := wd51) (A := imm O50) (cells := cs33) hf63 he64
      obtain ⟨_, _, rfl, rfl, ⟨v68, rfl, hf69⟩⟩ := hok67
      replace hcs66 : _ = [vi e64.Offset, v68] := hcs66
      refine WL.y (Y.indexArrAg ty75 ty25 rfl rfl hcs66 he64 f35) rfl ?_
      refine WL.alloc (O := O50) 12 [vi 0, Value.slice none 0 0] ty25 rfl rfl ?_
      intro p71 O72 wd73 hst74 hb70
      have hf75 := hf69.mono (imm_st hst74 rfl rfl)
      have hh79 := h
      obtain ⟨p76, m77, c78, rfl⟩ := hf75.shape
      have h := hh79
      refine WL.store (v := Value.agg (List.toArray [vi e64.Offset, (Value.slice p76 m77 c78)])) (cells' := [vi e64.Offset, (Value.slice p76 m77 c78)]) ty25 rfl rfl hb70 rfl (Nat.le_of_ble_eq_true rfl) rfl rfl ?_
      intro wd80 hst81 hb82
      refine WL.nil ?_
      refine At.then ?_
      refine WC.seq ?_
      refine WC.region ?_
      refine WL.y (Y.loadAg ty25 rfl rfl (hb82.cells 0 [vi e64.Offset, (Value.slice p76 m77 c78)] rfl) rfl) rfl ?_
      have hf83 := hf75.mono (imm_st hst81 rfl rfl)
      obtain ⟨r84, hp85, h⟩ := bnd h
      refine WL.call (vals := [Value.agg (List.toArray [vi e64.Offset, (Value.slice p76 m77 c78)])]) kok60 rfl rfl (c_hist_check (A := fun _ => True) (a0 := e64) (Sl.all hf83) hp85) ?_
      rintro vr88 wd87 ⟨rfl, hm86⟩
      obtain ⟨O89, hold90, hnew91, hst92⟩ := adoptE O72 (fun k => 1) hm86
      refine WL.y (Y.assign rfl) rfl ?_
      refine WL.nil ?_
      refine At.then ?_
      refine WC.seq ?_
      refine WC.region ?_
      refine WL.y (Y.move rfl) rfl ?_
      refine WL.y (Y.neq_i rfl rfl) rfl ?_
      refine WL.nil ?_
      refine At.then ?_
      rcases cnd h with ⟨hc93, h⟩ | ⟨hc93, h⟩
      ·refine WC.condT' rfl hc93 ?_
       refine WC.seq ?_
       refine WC.region ?_
       refine WL.y (Y.move rfl) rfl ?_
       refine WL.y (Y.assign rfl) rfl ?_
       refine WL.nil ?_
       refine At.then ?_
       refine WC.ret ?_
       refine At.inBlockR ?_
       refine At.thenR ?_
       refine At.loopR ?_
       have h := outr1 h hn61 hk58
       refine At.joinBR ?_
       refine At.inBlockR ?_
       have h := outs1 h hk48
       refine At.joinR ?_
       refine At.thenR ?_
       obtain rfl := some1 h
       have hs94 : Stp [12] (Lg.O0 A) w O89 wd87 := (Stp.trans (Stp.up hst25 rfl) (Stp.trans (Stp.up hst42 rfl) (Stp.trans (Stp.up hst52 rfl) (Stp.trans (Stp.up hst74 rfl) (Stp.trans (Stp.up hst81 rfl) (Stp.up hst92 rfl))))))
       exact At.res (.inl rfl) rfl (.tmp rfl .nil) ⟨rfl, (Stp.ext hs94 rfl rfl)⟩
      ·refine WC.condF' rfl hc93 ?_
       refine WC.skip ?_
       refine At.inBlock ?_
       refine At.then ?_
       refine WC.region ?_
       refine WL.y (Y.add_i rfl rfl) rfl ?_
       refine WL.y (Y.move rfl) rfl ?_
       refine WL.nil ?_
       exact At.round (w64 (x49 + 1), O89) j59 (Nat.lt_succ_self _) ⟨next1 h hn61, (Stp.trans (Stp.up hst52 rfl) (Stp.trans (Stp.up hst74 rfl) (Stp.trans (Stp.up hst81 rfl) (Stp.up hst92 rfl))))⟩ (.cons rfl (.cons rfl (.cons rfl .nil)))
     ·refine WC.condF' rfl hc62 ?_
      refine WC.exit ?_
      refine At.thenX ?_
      refine At.loopX ?_
      exact At.hitB (σ := Own) O50 ⟨brk1 h hn61, (Stp.up hst52 rfl)⟩ (.cons rfl .nil)
    ·rintro O53 wd54 ⟨rfl, hst55⟩
     replace h := flowK_go hk58
     refine (show At _ _ _ [(1, Value.pointer (some ⟨p22, 0, none⟩))] _ from ?_)
     refine At.inBlockHit ?_
     exact At.join (σ := Own) O53 ⟨go2 h, (Stp.up hst55 rfl)⟩ (.cons rfl .nil)
   ·rintro O44 wd45 ⟨rfl, hst46⟩
    replace h := flowK_go hk48
    refine (show At _ _ _ [(1, Value.pointer (some ⟨p22, 0, none⟩))] _ from ?_)
    refine At.then ?_
    refine WC.seq ?_
    refine WC.seq ?_
    refine WC.region ?_
    have hf95 := hb21.st hst42 rfl
    have hf96 := hf95.st hst46 rfl
    refine WL.y (Y.loadAg ty27 rfl rfl (hf96.cells 0 [vi a0.Scale, vu a0.Zero, vi a0.Pos.Offset, (Value.slice p13 m14 c15), vi a0.Neg.Offset, (Value.slice p17 m18 c19)] rfl) rfl) rfl ?_
    have hf97 := hf29.mono (imm_st hst42 rfl rfl)
    have hf98 := hf97.mono (imm_st hst46 rfl rfl)
    have hf99 := hf30.mono (imm_st hst42 rfl rfl)
    have hf100 := hf99.mono (imm_st hst46 rfl rfl)
    obtain ⟨⟨r101, r102⟩, hp103, h⟩ := bnd h
    refine WL.call (vals := [Value.agg (List.toArray [vi a0.Scale, vu a0.Zero, vi a0.Pos.Offset, (Value.slice p13 m14 c15), vi a0.Neg.Offset, (Value.slice p17 m18 c19)])]) kok17 rfl rfl (c_hist_Total (A := fun _ => True) (a0 := a0) (Sl.all hf98) (Sl.all hf100) hp103) ?_
    rintro vr106 wd105 ⟨rfl, hm104⟩
    obtain ⟨O107, hold108, hnew109, hst110⟩ := adoptE O44 (fun k => 1) hm104
    refine WL.y (Y.move rfl) rfl ?_
    refine WL.y (Y.extract rfl rfl) rfl ?_
    refine WL.y (Y.extract rfl rfl) rfl ?_
    refine WL.y (Y.assign rfl) rfl ?_
    refine WL.y (Y.assign rfl) rfl ?_
    refine WL.nil ?_
    refine At.then ?_
    refine WC.seq ?_
    refine WC.region ?_
    refine WL.y (Y.move rfl) rfl ?_
    refine WL.y (Y.not rfl) rfl ?_
    refine WL.nil ?_
    refine At.then ?_
    rcases cnd h with ⟨hc111, h⟩ | ⟨hc111, h⟩
    ·refine WC.condT' rfl hc111 ?_
     refine WC.seq ?_
     refine WC.region ?_
     refine WL.y (Y.assign rfl) rfl ?_
     refine WL.nil ?_
     refine At.then ?_
     refine WC.ret ?_
     refine At.thenR ?_
     obtain rfl := some1 h
     have hs112 : Stp [12] (Lg.O0 A) w O107 wd105 := (Stp.trans (Stp.up hst25 rfl) (Stp.trans (Stp.up hst42 rfl) (Stp.trans (Stp.up hst46 rfl) (Stp.up hst110 rfl))))
     exact At.res (.inl rfl) rfl (.tmp rfl .nil) ⟨rfl, (Stp.ext hs112 rfl rfl)⟩
    ·refine WC.condF' rfl hc111 ?_
     refine WC.skip ?_
     refine At.then ?_
     refine WC.seq ?_
     refine WC.region ?_
     refine WL.y (Y.assign rfl) rfl ?_
     refine WL.nil ?_
     refine At.then ?_
     refine WC.ret ?_
     obtain rfl := some1 h
     have hs113 : Stp [12] (Lg.O0 A) w O107 wd105 := (Stp.trans (Stp.up hst25 rfl) (Stp.trans (Stp.up hst42 rfl) (Stp.trans (Stp.up hst46 rfl) (Stp.up hst110 rfl))))
     exact At.res (.inl rfl) rfl (.tmp rfl .nil) ⟨rfl, (Stp.ext hs113 rfl rfl)⟩
theorem c_slices_Clone_uint64_uint64 {A : Nat → Prop} {a0 : List UInt64} {v0 : Value} {w : World} (hs0 : Sl Rep.u w A v0 a0) {r0 : List UInt64} (h : slices_Clone_uint64_uint64 a0 = some r0) : Rets Try.prog 65 [v0] w (fun v w' => ∃ (u0 : Value), v = u0 ∧ Ext w w' ∧ RowF Rep.u 22 w w' u0 r0) := by
  unfold slices_Clone_uint64_uint64 at h
  refine Rets.enter Try.func65 rfl rfl ?_
  refine (show WC _ _ _ _ [(0, v0)] _ from ?_)
  refine WC.seq (WC.region (WL.y (Y.assign rfl) rfl (WL.nil (At.then ?_))))
  refine WC.seq (WC.seq (WC.region ?_))
  refine WL.y (Y.move rfl) rfl ?_
  rcases hs0.nilOr with ⟨rfl, rfl⟩ | ⟨q, n, c, rfl⟩
  · refine WL.y (Y.slnil (p := none) (n := 0) (c := 0) ty23.u rfl rfl) rfl (WL.nil (At.then ?_))
    refine WC.condT rfl (WC.seq (WC.region (WL.y (Y.assign rfl) rfl (WL.nil (At.then (WC.ret (At.thenR ?_)))))))
    have : r0 = [] := by simpa [app] using h.symm
    subst this
    exact At.res (.inl rfl) rfl (.tmp rfl .nil) ⟨_, rfl, Ext.refl w, RowF.nil⟩
  · refine WL.y (Y.slnil (p := some _) ty23.u rfl rfl) rfl (WL.nil (At.then ?_))
    refine WC.condF rfl (WC.skip (At.then ?_))
    refine WC.seq (WC.region ?_)
    have hs := hs0
    refine WL.buildSlice (O := Lg.O0 A) (R := Rep.u) (vals := []) 11 [] (xs := []) (by decide) ty23 ty22 (by decide) (by decide) (Fits.evalp rfl) (by kernel_rfl) rfl rfl rfl ?_
    intro v O1 w1 hst1 ho1
    refine WL.y (Y.move rfl) rfl ?_
    have hs1 := (Sl.start hs).mono (imm_st hst1 rfl rfl)
    refine WL.append (by decide) ty23 ty22 rfl (by decide) rfl rfl ho1 hs1.src h rfl ?_
    intro v2 O2 w2 hst2 ho2
    refine WL.y (Y.assign rfl) rfl (WL.nil (At.then (WC.ret ?_)))
    have hs9 : Stp [11] (Lg.O0 A) w O2 w2 := (Stp.trans (Stp.up hst1 rfl) hst2)
    exact At.res (.inl rfl) rfl (.tmp rfl .nil) ⟨_, rfl, Stp.ext hs9 rfl rfl, OwnSl.outF ho2 hs9 low0 rfl⟩
theorem c_hist_Clone {A : Nat → Prop} {v0_3 : Value} {v0_5 : Value} {a0 : api_Hist} {w : World} (hs0_3 : Sl Rep.u w A v0_3 a0.Pos.Counts) (hs0_5 : Sl Rep.u w A v0_5 a0.Neg.Counts) {r0 : api_Hist} (h : hist_Clone a0 = some r0) : Rets Try.prog 45 [Value.agg (List.toArray [vi a0.Scale, vu a0.Zero, vi a0.Pos.Offset, v0_3, vi a0.Neg.Offset, v0_5])] w (fun v w' => ∃ (u0_3 : Value) (u0_5 : Value), v = Value.agg (List.toArray [vi r0.Scale, vu r0.Zero, vi r0.Pos.Offset, u0_3, vi r0.Neg.Offset, u0_5]) ∧ Ext w w' ∧ RowF Rep.u 22 w w' u0_3 r0.Pos.Counts ∧ RowF Rep.u 22 w w' u0_5 r0.Neg.Counts ∧ (∀ k, Value.ownBlock u0_3 = some k → Value.ownBlock u0_5 ≠ some k)) := by
 unfold hist_Clone at h
 refine Rets.enter Try.func45 rfl rfl ?_
 have hf11 : Sl Rep.u w (imm (Lg.O0 A)) v0_3 a0.Pos.Counts := (Sl.start hs0_3)
 have hf12 : Sl Rep.u w (imm (Lg.O0 A)) v0_5 a0.Neg.Counts := (Sl.start hs0_5)
 refine (show WC _ _ _ _ [(0, Value.agg (List.toArray [vi a0.Scale, vu a0.Zero, vi a0.Pos.Offset, v0_3, vi a0.Neg.Offset, v0_5]))] _ from ?_)
 refine WC.seq ?_
 refine WC.region ?_
 have hh16 := h
 obtain ⟨p13, m14, c15, rfl⟩ := hf11.shape
 have h := hh16
 have hh20 := h
 obtain ⟨p17, m18, c19, rfl⟩ := hf12.shape
 have h := hh20
 refine WL.box (O := (Lg.O0 A)) 11 [vi a0.Scale, vu a0.Zero, vi a0.Pos.Offset, (Value.slice p13 m14 c15), vi a0.Neg.Offset, (Value.slice p17 m18 c19)] rfl rfl rfl ?_
 intro p22 O23 wd24 hst25 hb21
 refine WL.alloc (O := O23) 12 [vi 0, vu 0, vi 0, Value.slice none 0 0, vi 0, Value.slice none 0 0] ty27 rfl rfl ?_
 intro p27 O28 wd29 hst30 hb26
 refine WL.nil ?_
 refine At.then ?_
 refine WC.seq ?_
 refine WC.drawH [] [0, 1, 2, 3, 4, 5, 6, 7, 8, 9] O28 14 fmix rfl (by kernel_rfl) ?_
 intro wd31 hst32
 refine WD.y 0 rfl (by kernel_rfl) (fun _ _ _ => Y.fieldAddr fo27_2 rfl) rfl ?_
 refine WD.y 1 rfl (by kernel_rfl) (fun _ _ _ => Y.fieldAddr fo25_1 rfl) rfl ?_
 refine WD.y 2 rfl (by kernel_rfl) (fun wd40 O39 hst41 => have hf42 := hb21.st hst30 rfl; have hf43 := hf42.st hst32 rfl; have hf44 := hf43.st hst41 rfl; Y.loadSc ty23 rfl rfl (hf44.cell 3 _ rfl)) rfl ?_
 refine WD.y 4 rfl (by kernel_rfl) (fun _ _ _ => Y.fieldAddr fo27_3 rfl) rfl ?_
 refine WD.y 5 rfl (by kernel_rfl) (fun _ _ _ => Y.fieldAddr fo25_1 rfl) rfl ?_
 refine WD.y 6 rfl (by kernel_rfl) (fun wd52 O51 hst53 => have hf54 := hb21.st hst30 rfl; have hf55 := hf54.st hst32 rfl; have hf56 := hf55.st hst53 rfl; Y.loadSc ty23 rfl rfl (hf56.cell 5 _ rfl)) rfl ?_
 refine WD.heavy 3 rfl (by kernel_rfl) ?_
 have hf57 := hf11.mono (imm_st hst25 rfl rfl)
 have hf58 := hf57.mono (imm_st hst30 rfl rfl)
 have hf59 := hf58.mono (imm_st hst32 rfl rfl)
 obtain ⟨r60, hp61, h⟩ := bnd h
 refine WL.call (vals := [(Value.slice p13 m14 c15)]) kok65 rfl rfl (c_slices_Clone_uint64_uint64 (A := fun _ => True) (Sl.all hf59) hp61) ?_
 rintro vr66 wd65 ⟨_, rfl, hm64, f63⟩
 obtain ⟨O67, hold68, hnew69, hst70⟩ := adoptE O28 (fun k => if Value.ownBlock vr66 = some k then 13 else 1) hm64
 have hf71 : OwnSl 13 Rep.u 22 O67 wd65 vr66 r60 := RowF.adopt 13 Flat.u f63 hnew69 (fun k hk => if_pos hk)
 refine WL.nil ?_
 refine At.dq (Stp.up hst70 rfl) ?_
 refine WD.y 8 rfl (by kernel_rfl) (fun _ _ _ => Y.fieldAddr fo27_2 rfl) rfl ?_
 refine WD.y 9 rfl (by kernel_rfl) (fun _ _ _ => Y.fieldAddr fo25_1 rfl) rfl ?_
 refine WD.heavy 7 rfl (by kernel_rfl) ?_
 have hf78 := hf12.mono (imm_st hst25 rfl rfl)
 have hf79 := hf78.mono (imm_st hst30 rfl rfl)
 have hf80 := hf79.mono (imm_st hst32 rfl rfl)
 have hf81 := hf80.mono (imm_st hst70 rfl rfl)
 obtain ⟨r82, hp83, h⟩ := bnd h
 refine WL.call (vals := [(Value.slice p17 m18 c19)]) kok65 rfl rfl (c_slices_Clone_uint64_uint64 (A := fun _ => True) (Sl.all hf81) hp83) ?_
 rintro vr88 wd87 ⟨_, rfl, hm86, f85⟩
 obtain ⟨O89, hold90, hnew91, hst92⟩ := adoptE O67 (fun k => if Value.ownBlock vr88 = some k then 14 else 1) hm86
 have hf93 : OwnSl 14 Rep.u 22 O89 wd87 vr88 r82 := RowF.adopt 14 Flat.u f85 hnew91 (fun k hk => if_pos hk)
 refine WL.nil ?_
 refine At.dq (Stp.up hst92 rfl) ?_
 refine WD.phase [11] [0, 1, 2, 3, 4, 5, 6, 7, 8, 9, 10, 11, 12] (by kernel_rfl) (by kernel_rfl) ?_
 refine WD.heavy 10 rfl (by kernel_rfl) ?_
 have hf94 := hf71.st hst92 rfl rfl rfl
 have hh98 := h
 obtain ⟨p95, m96, c97, rfl⟩ := hf94.shape
 have h := hh98
 have hf99 := hb21.st hst30 rfl
 have hf100 := hf99.st hst32 rfl
 have hf101 := hf100.st hst70 rfl
 have hf102 := hf101.st hst92 rfl
 refine WL.store (v := (Value.slice p95 m96 c97)) (cells' := [vi a0.Scale, vu a0.Zero, vi a0.Pos.Offset, (Value.slice p95 m96 c97), vi a0.Neg.Offset, (Value.slice p17 m18 c19)]) ty23 rfl rfl hf102 rfl (Nat.le_of_ble_eq_true rfl) rfl rfl ?_
 intro wd103 hst104 hb105
 refine WL.nil ?_
 refine At.dq (Stp.up hst104 rfl) ?_
 refine WD.y 11 rfl (by kernel_rfl) (fun _ _ _ => Y.fieldAddr fo27_3 rfl) rfl ?_
 refine WD.y 12 rfl (by kernel_rfl) (fun _ _ _ => Y.fieldAddr fo25_1 rfl) rfl ?_
 refine WD.phase [11] [0, 1, 2, 3, 4, 5, 6, 7, 8, 9, 10, 11, 12, 13] (by kernel_rfl) (by kernel_rfl) ?_
 refine WD.heavy 13 rfl (by kernel_rfl) ?_
 have hf112 := hf93.st hst104 rfl rfl rfl
 have hh116 := h
 obtain ⟨p113, m114, c115, rfl⟩ := hf112.shape
 have h := hh116
 refine WL.store (v := (Value.slice p113 m114 c115)) (cells' := [vi a0.Scale, vu a0.Zero, vi a0.Pos.Offset, (Value.slice p95 m96 c97), vi a0.Neg.Offset, (Value.slice p113 m114 c115)]) ty23 rfl rfl hb105 rfl (Nat.le_of_ble_eq_true rfl) rfl rfl ?_
 intro wd117 hst118 hb119
 refine WL.nil ?_
 refine At.dq (Stp.up hst118 rfl) ?_
 refine WD.done_ (by kernel_rfl) ?_
 refine At.then ?_
 refine WC.seq ?_
 refine WC.region ?_
 refine WL.y (Y.loadAg ty27 rfl rfl (hb119.cells 0 [vi a0.Scale, vu a0.Zero, vi a0.Pos.Offset, (Value.slice p95 m96 c97), vi a0.Neg.Offset, (Value.slice p113 m114 c115)] rfl) rfl) rfl ?_
 have hf120 := hb26.st hst32 rfl
 have hf121 := hf120.st hst70 rfl
 have hf122 := hf121.st hst92 rfl
 have hf123 := hf122.st hst104 rfl
 have hf124 := hf123.st hst118 rfl
 refine WL.store (v := Value.agg (List.toArray [vi a0.Scale, vu a0.Zero, vi a0.Pos.Offset, (Value.slice p95 m96 c97), vi a0.Neg.Offset, (Value.slice p113 m114 c115)])) (cells' := [vi a0.Scale, vu a0.Zero, vi a0.Pos.Offset, (Value.slice p95 m96 c97), vi a0.Neg.Offset, (Value.slice p113 m114 c115)]) ty27 rfl rfl hf124 rfl (Nat.le_of_ble_eq_true rfl) rfl rfl ?_
 intro wd125 hst126 hb127
 refine WL.nil ?_
 refine At.then ?_
 refine WC.ret ?_
 obtain rfl := some1 h
 have hs128 : Stp [11, 12] (Lg.O0 A) w O89 wd125 := (Stp.trans (Stp.up hst25 rfl) (Stp.trans (Stp.up hst30 rfl) (Stp.trans (Stp.up hst32 rfl) (Stp.trans (Stp.up hst70 rfl) (Stp.trans (Stp.up hst92 rfl) (Stp.trans (Stp.up hst104 rfl) (Stp.trans (Stp.up hst118 rfl) (Stp.up hst126 rfl))))))))
 have hf129 := hf94.st hst104 rfl rfl rfl
 have hf130 := hf129.st hst118 rfl rfl rfl
 have hf131 := hf130.st hst126 rfl rfl rfl
 have hf132 := hf112.st hst118 rfl rfl rfl
 have hf133 := hf132.st hst126 rfl rfl rfl
 exact At.res (.inl rfl) rfl (.cell rfl (hb127.runAg 0 [vi a0.Scale, vu a0.Zero, vi a0.Pos.Offset, (Value.slice p95 m96 c97), vi a0.Neg.Offset, (Value.slice p113 m114 c115)] ty27 rfl rfl rfl) .nil) ⟨(Value.slice p95 m96 c97), (Value.slice p113 m114 c115), rfl, (Stp.ext hs128 rfl rfl), (OwnSl.outF hf131 hs128 low0 rfl), (OwnSl.outF hf133 hs128 low0 rfl), (ne_own hf131 hf133 rfl)⟩
theorem c_histbits_of {A : Nat → Prop} {v0_3 : Value} {v0_5 : Value} {a0 : api_Hist} {w : World} (hs0_3 : Sl Rep.u w A v0_3 a0.Pos.Counts) (hs0_5 : Sl Rep.u w A v0_5 a0.Neg.Counts) {r0 : histbits_shape} (h : histbits_of a0 = some r0) : Rets Try.prog 66 [Value.agg (List.toArray [vi a0.Scale, vu a0.Zero, vi a0.Pos.Offset, v0_3, vi a0.Neg.Offset, v0_5])] w (fun v w' => v = Value.agg (List.toArray [vi r0.scale, vi r0.posAt, vi r0.posSize, vi r0.negAt, vi r0.negSize]) ∧ Ext w w') := by
 unfold histbits_of at h
 refine Rets.enter Try.func66 rfl rfl ?_
 have hf11 : Sl Rep.u w (imm (Lg.O0 A)) v0_3 a0.Pos.Counts := (Sl.start hs0_3)
 have hf12 : Sl Rep.u w (imm (Lg.O0 A)) v0_5 a0.Neg.Counts := (Sl.start hs0_5)
 refine (show WC _ _ _ _ [(0, Value.agg (List.toArray [vi a0.Scale, vu a0.Zero, vi a0.Pos.Offset, v0_3, vi a0.Neg.Offset, v0_5]))] _ from ?_)
 refine WC.seq ?_
 refine WC.region ?_
 have hh16 := h
 obtain ⟨p13, m14, c15, rfl⟩ := hf11.shape
 have h := hh16
 have hh20 := h
 obtain ⟨p17, m18, c19, rfl⟩ := hf12.shape
 have h := hh20
 refine WL.box (O := (Lg.O0 A)) 11 [vi a0.Scale, vu a0.Zero, vi a0.Pos.Offset, (Value.slice p13 m14 c15), vi a0.Neg.Offset, (Value.slice p17 m18 c19)] rfl rfl rfl ?_
 intro p22 O23 wd24 hst25 hb21
 refine WL.alloc (O := O23) 12 [vi 0, vi 0, vi 0, vi 0, vi 0] ty90 rfl rfl ?_
 intro p27 O28 wd29 hst30 hb26
 refine WL.nil ?_
 refine At.then ?_
 refine WC.seq ?_
 refine WC.region ?_
 refine WL.y (Y.fieldAddr fo27_0 rfl) rfl ?_
 have hf31 := hb21.st hst30 rfl
 refine WL.y (Y.loadSc ty3 rfl rfl (hf31.cell 0 _ rfl)) rfl ?_
 refine WL.y (Y.fieldAddr fo27_2 rfl) rfl ?_
 refine WL.y (Y.fieldAddr fo25_0 rfl) rfl ?_
 refine WL.y (Y.loadSc ty3 rfl rfl (hf31.cell 2 _ rfl)) rfl ?_
 refine WL.y (Y.fieldAddr fo27_2 rfl) rfl ?_
 refine WL.y (Y.fieldAddr fo25_1 rfl) rfl ?_
 refine WL.y (Y.loadSc ty23 rfl rfl (hf31.cell 3 _ rfl)) rfl ?_
 have hf32 := hf11.mono (imm_st hst25 rfl rfl)
 have hf33 := hf32.mono (imm_st hst30 rfl rfl)
 refine WL.y (Y.len ty23 rfl hf33) rfl ?_
 refine WL.y (Y.fieldAddr fo27_3 rfl) rfl ?_
 refine WL.y (Y.fieldAddr fo25_0 rfl) rfl ?_
 refine WL.y (Y.loadSc ty3 rfl rfl (hf31.cell 4 _ rfl)) rfl ?_
 refine WL.y (Y.fieldAddr fo27_3 rfl) rfl ?_
 refine WL.y (Y.fieldAddr fo25_1 rfl) rfl ?_
 refine WL.y (Y.loadSc ty23 rfl rfl (hf31.cell 5 _ rfl)) rfl ?_
 have hf34 := hf12.mono (imm_st hst25 rfl rfl)
 have hf35 := hf34.mono (imm_st hst30 rfl rfl)
 refine WL.y (Y.len ty23 rfl hf35) rfl ?_
 refine WL.y (Y.build (vals := [(0, vi a0.Scale), (1, vi a0.Pos.Offset), (2, vi (a0.Pos.Counts.length : Int)), (3, vi a0.Neg.Offset), (4, vi (a0.Neg.Counts.length : Int))]) (cells := [vi a0.Scale, vi a0.Pos.Offset, vi (a0.Pos.Counts.length : Int), vi a0.Neg.Offset, vi (a0.Neg.Counts.length : Int)]) (Fits.evalp rfl) (by kernel_rfl)) rfl ?_
 refine WL.store (v := Value.agg (List.toArray [vi a0.Scale, vi a0.Pos.Offset, vi (a0.Pos.Counts.length : Int), vi a0.Neg.Offset, vi (a0.Neg.Counts.length : Int)])) (cells' := [vi a0.Scale, vi a0.Pos.Offset, vi (a0.Pos.Counts.length : Int), vi a0.Neg.Offset, vi (a0.Neg.Counts.length : Int)]) ty90 rfl rfl hb26 rfl (Nat.le_of_ble_eq_true rfl) rfl rfl ?_
 intro wd36 hst37 hb38
 refine WL.nil ?_
 refine At.then ?_
 refine WC.ret ?_
 obtain rfl := some1 h
 have hs39 : Stp [12] (Lg.O0 A) w O28 wd36 := (Stp.trans (Stp.up hst25 rfl) (Stp.trans (Stp.up hst30 rfl) (Stp.up hst37 rfl)))
 exact At.res (.inl rfl) rfl (.cell rfl (hb38.runAg 0 [vi a0.Scale, vi a0.Pos.Offset, vi (a0.Pos.Counts.length : Int), vi a0.Neg.Offset, vi (a0.Neg.Counts.length : Int)] ty90 rfl rfl rfl) .nil) ⟨rfl, (Stp.ext hs39 rfl rfl)⟩
theorem c_bitio_Writer_room {A : Nat → Prop} {v0_0 : Value} {a0 : bitio_Writer} {b0 : Nat} {w : World} (hs0_0 : Sl Rep.b w A v0_0 a0.b) (hb0 : w.heap[b0]? = some (.cells (List.toArray [v0_0, vi a0.n]) 86 (0, 0))) (hm0 : A b0) {r0 : Int} (h : bitio_Writer_room a0 = some r0) : Rets Try.prog 94 [Value.pointer (some ⟨b0, 0, none⟩)] w (fun v w' => v = vi r0 ∧ Ext w w') := by
 unfold bitio_Writer_room at h
 refine Rets.enter Try.func94 rfl rfl ?_
 have hf11 : Sl Rep.b w (imm (Lg.O0 A)) v0_0 a0.b := (Sl.start hs0_0)
 have hb12 : Blk 0 (Lg.O0 A) w b0 86 [v0_0, vi a0.n] := ⟨(if_pos hm0), hb0⟩
 refine (show WC _ _ _ _ [(0, Value.pointer (some ⟨b0, 0, none⟩))] _ from ?_)
 refine WC.seq ?_
 refine WC.region ?_
 refine WL.y (Y.assign rfl) rfl ?_
 refine WL.nil ?_
 refine At.then ?_
 refine WC.seq ?_
 refine WC.draw 11 (Lg.O0 A) fmix (by kernel_rfl) ?_
 intro wd13 hst14
 refine WS.y (Y.move rfl) rfl ?_
 refine WS.y (Y.nilCheck rfl) rfl ?_
 refine WS.y (Y.fieldAddr fo86_0 rfl) rfl ?_
 have hf15 := hb12.st hst14 rfl
 refine WS.y (Y.loadSc ty60 rfl rfl (hf15.cell 0 _ rfl)) rfl ?_
 have hf16 := hf11.mono (imm_st hst14 rfl rfl)
 refine WS.y (Y.len ty60 rfl hf16) rfl ?_
 refine WS.y (Y.mul_i rfl rfl) rfl ?_
 refine WS.y (Y.move rfl) rfl ?_
 refine WS.y (Y.nilCheck rfl) rfl ?_
 refine WS.y (Y.fieldAddr fo86_1 rfl) rfl ?_
 refine WS.y (Y.loadSc ty3 rfl rfl (hf15.cell 1 _ rfl)) rfl ?_
 refine WS.y (Y.sub_i rfl rfl) rfl ?_
 refine WS.tail ?_
 obtain ⟨t17, ht17, h⟩ := lt1 h
 refine WL.yE (Y.assign rfl) (congrArg vi ht17.symm) rfl ?_
 refine WL.nil ?_
 refine At.then ?_
 refine WC.ret ?_
 obtain rfl := some1 h
 have hs18 : Stp [] (Lg.O0 A) w (Lg.O0 A) wd13 := (Stp.up hst14 rfl)
 exact At.res (.inl rfl) rfl (.tmp rfl .nil) ⟨rfl, (Stp.ext hs18 rfl rfl)⟩
theorem c_bitio_Writer_Put {v0_0 : Value} {a0 : bitio_Writer} {b0 : Nat} {a1 : UInt64} {a2 : Int} {w : World} (hs0_0 : Row Rep.b 5 w v0_0 a0.b) (hb0 : w.heap[b0]? = some (.cells (List.toArray [v0_0, vi a0.n]) 86 (0, 0))) (hne0_1 : Value.ownBlock v0_0 ≠ some b0) {r0 : Bool} {q0 : bitio_Writer} (h : bitio_Writer_Put a0 a1 a2 = some (r0, q0)) : Rets Try.prog 67 [Value.pointer (some ⟨b0, 0, none⟩), vu a1, vi a2] w (fun v w' => ∃ (z0_0 : Value), v = Value.bool r0 ∧ Mod (fun k => k = b0 ∨ Value.ownBlock v0_0 = some k) w w' ∧ RowG Rep.b 5 w w' v0_0 z0_0 q0.b ∧ w'.heap[b0]? = some (.cells (List.toArray [z0_0, vi q0.n]) 86 (0, 0))) := by
 unfold bitio_Writer_Put at h
 refine Rets.enter Try.func67 rfl rfl ?_
 have ho11 : OwnSl 4 Rep.b 5 (Lg.OB b0 3 (Lg.OV v0_0 4 (Lg.O0 (fun _ => False)))) w v0_0 a0.b := Row.start Flat.b hs0_0 (fun k hk => ((if_neg (fun (e : k = b0) => hne0_1 (e ▸ hk))).trans (if_pos hk)))
 have hb12 : Blk 3 (Lg.OB b0 3 (Lg.OV v0_0 4 (Lg.O0 (fun _ => False)))) w b0 86 [v0_0, vi a0.n] := ⟨(if_pos rfl), hb0⟩
 refine (show WC _ _ _ _ [(0, Value.pointer (some ⟨b0, 0, none⟩)), (1, vu a1), (2, vi a2)] _ from ?_)
 refine WC.seq ?_
 refine WC.region ?_
 refine WL.y (Y.assign rfl) rfl ?_
 refine WL.nil ?_
 refine At.then ?_
 refine WC.seq ?_
 refine WC.seq ?_
 refine WC.region ?_
 refine WL.y (Y.move rfl) rfl ?_
 refine WL.y (Y.lss_i rfl rfl) rfl ?_
 refine WL.y (Y.move rfl) rfl ?_
 refine WL.cut 3 (σ := Unit) (fun _ w' => w = w') (fun _ => [(0, Value.pointer (some ⟨b0, 0, none⟩)), (1, vu a1), (2, vi a2), (15, Value.bool ((decide (a2 < 0)) || (decide (64 < a2))))]) ?_ ?_
 ·refine WL.part 12 rfl (fun hE13 => ?_) (fun hE13 => ?_)
  ·refine WL.gS rfl rfl rfl rfl ?_
   refine WL.gS rfl rfl rfl rfl ?_
   refine WL.y (Y.pick (b := true) rfl rfl) rfl ?_
   refine WL.ren (v' := Value.bool ((decide (a2 < 0)) || (decide (64 < a2)))) 15 rfl (congrArg Value.bool (orT hE13)) ?_
   exact WL.nil (At.join () rfl (.cons rfl (.cons rfl (.cons rfl (.cons rfl .nil)))))
  ·refine WL.ung rfl rfl ?_
   refine WL.y (Y.move rfl) rfl ?_
   refine WL.ung rfl rfl ?_
   refine WL.y (Y.gtr_i rfl rfl) rfl ?_
   refine WL.y (Y.pick (b := false) rfl rfl) rfl ?_
   refine WL.ren (v' := Value.bool ((decide (a2 < 0)) || (decide (64 < a2)))) 15 rfl (congrArg Value.bool (orF hE13)) ?_
   exact WL.nil (At.join () rfl (.cons rfl (.cons rfl (.cons rfl (.cons rfl .nil)))))
 ·rintro _ _ rfl
  refine (show WL _ _ _ _ _ [(0, Value.pointer (some ⟨b0, 0, none⟩)), (1, vu a1), (2, vi a2), (15, Value.bool ((decide (a2 < 0)) || (decide (64 < a2))))] _ from ?_)
  refine WL.y (Y.move rfl) rfl ?_
  refine WL.cut 10 (σ := Unit) (fun _ w' => w = w') (fun _ => [(0, Value.pointer (some ⟨b0, 0, none⟩)), (1, vu a1), (2, vi a2), (26, Value.bool (((decide (a2 < 0)) || (decide (64 < a2))) || ((decide (a2 < 64)) && (!decide (shrU a1 ((toU64 a2).toNat) = 0)))))]) ?_ ?_
  ·refine WL.part 16 rfl (fun hE14 => ?_) (fun hE14 => ?_)
   ·refine WL.gS rfl rfl rfl rfl ?_
    refine WL.gS rfl rfl rfl rfl ?_
    refine WL.gS rfl rfl rfl rfl ?_
    refine WL.gS rfl rfl rfl rfl ?_
    refine WL.gS rfl rfl rfl rfl ?_
    refine WL.gS rfl rfl rfl rfl ?_
    refine WL.gS rfl rfl rfl rfl ?_
    refine WL.gS rfl rfl rfl rfl ?_
    refine WL.gS rfl rfl rfl rfl ?_
    refine WL.y (Y.pick (b := true) rfl rfl) rfl ?_
    refine WL.ren (v' := Value.bool (((decide (a2 < 0)) || (decide (64 < a2))) || ((decide (a2 < 64)) && (!decide (shrU a1 ((toU64 a2).toNat) = 0))))) 26 rfl (congrArg Value.bool (orT hE14)) ?_
    exact WL.nil (At.join () rfl (.cons rfl (.cons rfl (.cons rfl (.cons rfl .nil)))))
   ·refine WL.ung rfl rfl ?_
    refine WL.y (Y.move rfl) rfl ?_
    refine WL.ung rfl rfl ?_
    refine WL.y (Y.lss_i rfl rfl) rfl ?_
    refine WL.ung rfl rfl ?_
    refine WL.y (Y.move rfl) rfl ?_
    refine WL.cut 6 (σ := Unit) (fun _ w' => w = w') (fun _ => [(0, Value.pointer (some ⟨b0, 0, none⟩)), (1, vu a1), (2, vi a2), (16, Value.bool false), (25, Value.bool ((decide (a2 < 64)) && (!decide (shrU a1 ((toU64 a2).toNat) = 0))))]) ?_ ?_
    ·refine WL.part 19 rfl (fun hE15 => ?_) (fun hE15 => ?_)
     ·refine WL.ung rfl rfl ?_
      refine WL.y (Y.move rfl) rfl ?_
      refine WL.ung rfl rfl ?_
      refine WL.y (Y.move rfl) rfl ?_
      refine WL.ung rfl rfl ?_
      refine WL.y (Y.conv_iu ty3.u ty82.u rfl) rfl ?_
      refine WL.ung rfl rfl ?_
      refine WL.y (Y.shr_uu rfl rfl) rfl ?_
      refine WL.ung rfl rfl ?_
      refine WL.y (Y.neq_u (b := 0) rfl rfl) rfl ?_
      refine WL.ung rfl rfl ?_
      refine WL.y (Y.pick (b := true) rfl rfl) rfl ?_
      refine WL.ren (v' := Value.bool ((decide (a2 < 64)) && (!decide (shrU a1 ((toU64 a2).toNat) = 0)))) 25 rfl (congrArg Value.bool (andT hE15)) ?_
      exact WL.nil (At.join () rfl (.cons rfl (.cons rfl (.cons rfl (.cons rfl (.cons rfl .nil))))))
     ·refine WL.gS rfl rfl rfl rfl ?_
      refine WL.gS rfl rfl rfl rfl ?_
      refine WL.gS rfl rfl rfl rfl ?_
      refine WL.gS rfl rfl rfl rfl ?_
      refine WL.gS rfl rfl rfl rfl ?_
      refine WL.ung rfl rfl ?_
      refine WL.y (Y.pick (b := false) rfl rfl) rfl ?_
      refine WL.ren (v' := Value.bool ((decide (a2 < 64)) && (!decide (shrU a1 ((toU64 a2).toNat) = 0)))) 25 rfl (congrArg Value.bool (andF hE15)) ?_
      exact WL.nil (At.join () rfl (.cons rfl (.cons rfl (.cons rfl (.cons rfl (.cons rfl .nil))))))
    ·rintro _ _ rfl
     refine (show WL _ _ _ _ _ [(0, Value.pointer (some ⟨b0, 0, none⟩)), (1, vu a1), (2, vi a2), (16, Value.bool false), (25, Value.bool ((decide (a2 < 64)) && (!decide (shrU a1 ((toU64 a2).toNat) = 0))))] _ from ?_)
     refine WL.y (Y.pick (b := false) rfl rfl) rfl ?_
     refine WL.ren (v' := Value.bool (((decide (a2 < 0)) || (decide (64 < a2))) || ((decide (a2 < 64)) && (!decide (shrU a1 ((toU64 a2).toNat) = 0))))) 26 rfl (congrArg Value.bool (orF hE14)) ?_
     exact WL.nil (At.join () rfl (.cons rfl (.cons rfl (.cons rfl (.cons rfl .nil)))))
  ·rintro _ _ rfl
   refine (show WL _ _ _ _ _ [(0, Value.pointer (some ⟨b0, 0, none⟩)), (1, vu a1), (2, vi a2), (26, Value.bool (((decide (a2 < 0)) || (decide (64 < a2))) || ((decide (a2 < 64)) && (!decide (shrU a1 ((toU64 a2).toNat) = 0)))))] _ from ?_)
   refine WL.nil ?_
   refine At.then ?_
   rcases cnd h with ⟨hc16, h⟩ | ⟨hc16, h⟩
   ·refine WC.condT' rfl hc16 ?_
    refine WC.seq ?_
    refine WC.region ?_
    refine WL.y (Y.assign rfl) rfl ?_
    refine WL.nil ?_
    refine At.then ?_
    refine WC.ret ?_
    refine At.thenR ?_
    obtain ⟨rfl, rfl⟩ := tup2 h
    have hs17 : Stp [] (Lg.OB b0 3 (Lg.OV v0_0 4 (Lg.O0 (fun _ => False)))) w (Lg.OB b0 3 (Lg.OV v0_0 4 (Lg.O0 (fun _ => False)))) w := (Stp.refl _ _ _)
    exact At.res (.inl rfl) rfl (.tmp rfl .nil) ⟨v0_0, rfl, (Stp.modL hs17 (sB sV1) rfl rfl), (OwnSl.outG ho11 hs17 (lowB (lowV low0 rfl rfl) rfl rfl) (lsB (lbV (ln0 rfl)) rfl)), hb12.blk⟩
   ·refine WC.condF' rfl hc16 ?_
    refine WC.skip ?_
    refine At.then ?_
    refine WC.seq ?_
    refine WC.block ?_
    obtain ⟨p35, h, hk37⟩ := flow1 h
    obtain ⟨k36, h⟩ := loop_some h
    refine WC.joinB 0 (σ := (List UInt8 × Int × Own × Value)) (fun x w' => p35 = .go (x.1, x.2.1) ∧ Stp [3, 4] (Lg.OB b0 3 (Lg.OV v0_0 4 (Lg.O0 (fun _ => False)))) w x.2.2.1 w' ∧ OwnSl 4 Rep.b 5 x.2.2.1 w' x.2.2.2 x.1 ∧ Blk 3 x.2.2.1 w' b0 86 [x.2.2.2, vi x.2.1]) (fun x => []) ?_ ?_
    ·refine WC.loop (σ := (List UInt8 × Int × Int × Own × Value)) (fun x k w' => loopN k (bitio_Writer_Put_lp1 a1) (x.1, x.2.1, x.2.2.1) = some p35 ∧ Stp [3, 4] (Lg.OB b0 3 (Lg.OV v0_0 4 (Lg.O0 (fun _ => False)))) w x.2.2.2.1 w' ∧ OwnSl 4 Rep.b 5 x.2.2.2.1 w' x.2.2.2.2 x.1 ∧ Blk 3 x.2.2.2.1 w' b0 86 [x.2.2.2.2, vi x.2.1]) (fun x => [(0, Value.pointer (some ⟨b0, 0, none⟩)), (1, vu a1), (2, vi x.2.2.1)]) (a0.b, a0.n, a2, (Lg.OB b0 3 (Lg.OV v0_0 4 (Lg.O0 (fun _ => False)))), v0_0) k36 (.cons rfl (.cons rfl (.cons rfl .nil))) ⟨h, (Stp.refl _ _ _), ho11, hb12⟩ ?_
     rintro ⟨c19, c22, nv23, O24, v20⟩ k36 wd25 ⟨h, hst26, hf21, hb18⟩
     obtain ⟨j38, q39, rfl, h, hn40⟩ := rnd1 h
     unfold bitio_Writer_Put_lp1 at h
     try dsimp only at h hst26 hf21 hb18
     refine (show WC _ _ _ _ [(0, Value.pointer (some ⟨b0, 0, none⟩)), (1, vu a1), (2, vi nv23)] _ from ?_)
     refine WC.seq ?_
     refine WC.seq ?_
     refine WC.region ?_
     refine WL.y (Y.move rfl) rfl ?_
     refine WL.y (Y.gtr_i rfl rfl) rfl ?_
     refine WL.nil ?_
     refine At.then ?_
     rcases cnd h with ⟨hc41, h⟩ | ⟨hc41, h⟩
     ·refine WC.condT' rfl hc41 ?_
      refine WC.skip ?_
      refine At.then ?_
      obtain ⟨p51, h, hk52⟩ := bnd h
      refine WC.join (σ := (List UInt8 × Int × Int × Own × Value)) (fun x w' => (x.1, x.2.1, x.2.2.1) = p51 ∧ Stp [3, 4] O24 wd25 x.2.2.2.1 w' ∧ OwnSl 4 Rep.b 5 x.2.2.2.1 w' x.2.2.2.2 x.1 ∧ Blk 3 x.2.2.2.1 w' b0 86 [x.2.2.2.2, vi x.2.1]) (fun x => [(0, Value.pointer (some ⟨b0, 0, none⟩)), (1, vu a1), (2, vi x.2.2.1)]) ?_ ?_
      ·refine WC.block ?_
       refine WC.seq ?_
       obtain ⟨p60, h, hk61⟩ := bnd h
       refine WC.join (σ := (List UInt8 × Own × Value)) (fun x w' => x.1 = p60 ∧ Stp [3, 4] O24 wd25 x.2.1 w' ∧ OwnSl 4 Rep.b 5 x.2.1 w' x.2.2 x.1 ∧ Blk 3 x.2.1 w' b0 86 [x.2.2, vi c22]) (fun x => [(0, Value.pointer (some ⟨b0, 0, none⟩)), (1, vu a1), (2, vi nv23)]) ?_ ?_
       ·refine WC.seq ?_
        refine WC.region ?_
        refine WL.y (Y.move rfl) rfl ?_
        obtain ⟨r62, hp63, h⟩ := bnd h
        refine WL.call (vals := [Value.pointer (some ⟨b0, 0, none⟩)]) kok94 rfl rfl (c_bitio_Writer_room (A := fun _ => True) (a0 := (bitio_Writer.mk c19 c22)) (hf21.src.sl) hb18.blk trivial hp63) ?_
        rintro vr66 wd65 ⟨rfl, hm64⟩
        obtain ⟨O67, hold68, hnew69, hst70⟩ := adoptE O24 (fun k => 1) hm64
        refine WL.y (Y.eql_i rfl rfl) rfl ?_
        refine WL.nil ?_
        refine At.then ?_
        rcases cnd h with ⟨hc71, h⟩ | ⟨hc71, h⟩
        ·refine WC.condT' rfl hc71 ?_
         refine WC.region ?_
         refine WL.y (Y.move rfl) rfl ?_
         refine WL.y (Y.move rfl) rfl ?_
         refine WL.y (Y.nilCheck rfl) rfl ?_
         refine WL.y (Y.fieldAddr fo86_0 rfl) rfl ?_
         have hf72 := hb18.st hst70 rfl
         refine WL.y (Y.loadSc ty60 rfl rfl (hf72.cell 0 _ rfl)) rfl ?_
         refine WL.buildSlice (O := O67) (R := Rep.b) (vals := [(0, vb 0)]) 11 [vb 0] (xs := [0]) (by decide) ty60 ty5 (by decide) (by decide) (Fits.evalp rfl) (by kernel_rfl) rfl ⟨[vb 0], [], rfl, rfl, rfl⟩ rfl ?_
         intro v73 O75 wd76 hst77 ho74
         obtain ⟨xs78, hxs78, h⟩ := bnd h
         have hf79 := hf21.st hst70 rfl rfl rfl
         have hf80 := hf79.st hst77 rfl rfl rfl
         refine WL.append (by decide) ty60 ty5 rfl (by decide) rfl rfl hf80 ho74.src hxs78 rfl ?_
         intro v84 O81 wd82 hst83 ho85
         refine WL.y (Y.nilCheck rfl) rfl ?_
         refine WL.y (Y.fieldAddr fo86_0 rfl) rfl ?_
         have hh89 := h
         obtain ⟨p86, m87, c88, rfl⟩ := ho85.shape
         have h := hh89
         have hf90 := hf72.st hst77 rfl
         have hf91 := hf90.st hst83 rfl
         refine WL.store (v := (Value.slice p86 m87 c88)) (cells' := [(Value.slice p86 m87 c88), vi c22]) ty60 rfl rfl hf91 rfl (Nat.le_of_ble_eq_true rfl) rfl rfl ?_
         intro wd92 hst93 hb94
         refine WL.nil ?_
         have hf95 := ho85.st hst93 rfl rfl rfl
         exact At.join (σ := (List UInt8 × Own × Value)) (xs78, O81, (Value.slice p86 m87 c88)) ⟨some1 h, (Stp.trans (Stp.up hst70 rfl) (Stp.trans (Stp.up hst77 rfl) (Stp.trans (Stp.up hst83 rfl) (Stp.up hst93 rfl)))), hf95, hb94⟩ (.cons rfl (.cons rfl (.cons rfl .nil)))
        ·refine WC.condF' rfl hc71 ?_
         refine WC.skip ?_
         have hf96 := hf21.st hst70 rfl rfl rfl
         have hf97 := hb18.st hst70 rfl
         exact At.join (σ := (List UInt8 × Own × Value)) (c19, O67, v20) ⟨some1 h, (Stp.up hst70 rfl), hf96, hf97⟩ (.cons rfl (.cons rfl (.cons rfl .nil)))
       ·rintro ⟨c54, O57, v55⟩ wd58 ⟨rfl, hst59, hf56, hb53⟩
        replace h := hk61
        try dsimp only at h hst59 hf56 hb53
        refine (show At _ _ _ [(0, Value.pointer (some ⟨b0, 0, none⟩)), (1, vu a1), (2, vi nv23)] _ from ?_)
        refine At.then ?_
        refine WC.seq ?_
        refine WC.region ?_
        refine WL.y (Y.move rfl) rfl ?_
        obtain ⟨r98, hp99, h⟩ := bnd h
        refine WL.call (vals := [Value.pointer (some ⟨b0, 0, none⟩)]) kok94 rfl rfl (c_bitio_Writer_room (A := fun _ => True) (a0 := (bitio_Writer.mk c54 c22)) (hf56.src.sl) hb53.blk trivial hp99) ?_
        rintro vr102 wd101 ⟨rfl, hm100⟩
        obtain ⟨O103, hold104, hnew105, hst106⟩ := adoptE O57 (fun k => 1) hm100
        refine WL.y (Y.assign rfl) rfl ?_
        refine WL.nil ?_
        refine At.then ?_
        refine WC.seq ?_
        refine WC.region ?_
        refine WL.y (Y.move rfl) rfl ?_
        refine WL.y (Y.move rfl) rfl ?_
        refine WL.y (Y.min_i rfl rfl) rfl ?_
        obtain ⟨k107, hk107, h⟩ := lt1 h
        refine WL.yE (Y.assign rfl) (congrArg vi hk107.symm) rfl ?_
        refine WL.nil ?_
        refine At.then ?_
        refine WC.seq ?_
        refine WC.region ?_
        refine WL.y (Y.move rfl) rfl ?_
        refine WL.y (Y.move rfl) rfl ?_
        refine WL.y (Y.move rfl) rfl ?_
        refine WL.y (Y.sub_i rfl rfl) rfl ?_
        refine WL.y (Y.conv_iu ty3.u ty82.u rfl) rfl ?_
        refine WL.y (Y.shr_uu rfl rfl) rfl ?_
        obtain ⟨piece108, hpiece108, h⟩ := lt1 h
        refine WL.yE (Y.assign rfl) (congrArg vu hpiece108.symm) rfl ?_
        refine WL.nil ?_
        refine At.then ?_
        refine WC.seq ?_
        obtain ⟨p110, h, hk111⟩ := bnd h
        refine WC.join (σ := UInt64) (fun x w' => x = p110 ∧ wd101 = w') (fun x => [(0, Value.pointer (some ⟨b0, 0, none⟩)), (1, vu a1), (2, vi nv23), (7, vi r98), (8, vi k107), (9, vu x)]) ?_ ?_
        ·refine WC.seq ?_
         refine WC.region ?_
         refine WL.y (Y.move rfl) rfl ?_
         refine WL.y (Y.lss_i rfl rfl) rfl ?_
         refine WL.nil ?_
         refine At.then ?_
         rcases cnd h with ⟨hc112, h⟩ | ⟨hc112, h⟩
         ·refine WC.condT' rfl hc112 ?_
          refine WC.region ?_
          refine WL.y (Y.move rfl) rfl ?_
          refine WL.y (Y.move rfl) rfl ?_
          refine WL.y (Y.conv_iu ty3.u ty82.u rfl) rfl ?_
          refine WL.y (Y.shl_uu (a := 1) rfl rfl) rfl ?_
          refine WL.y (Y.sub_u (b := 1) rfl rfl) rfl ?_
          refine WL.y (Y.and_u rfl rfl) rfl ?_
          obtain ⟨piece113, hpiece113, h⟩ := lt1 h
          refine WL.yE (Y.assign rfl) (congrArg vu hpiece113.symm) rfl ?_
          refine WL.nil ?_
          exact At.join (σ := UInt64) piece113 ⟨some1 h, rfl⟩ (.cons rfl (.cons rfl (.cons rfl (.cons rfl (.cons rfl (.cons rfl .nil))))))
         ·refine WC.condF' rfl hc112 ?_
          refine WC.skip ?_
          exact At.join (σ := UInt64) piece108 ⟨some1 h, rfl⟩ (.cons rfl (.cons rfl (.cons rfl (.cons rfl (.cons rfl (.cons rfl .nil))))))
        ·rintro piece109 _ ⟨rfl, rfl⟩
         replace h := hk111
         try dsimp only at h
         refine (show At _ _ _ [(0, Value.pointer (some ⟨b0, 0, none⟩)), (1, vu a1), (2, vi nv23), (7, vi r98), (8, vi k107), (9, vu piece109)] _ from ?_)
         refine At.then ?_
         refine WC.seq ?_
         refine WC.draw 21 O103 fmix (by kernel_rfl) ?_
         intro wd114 hst115
         refine WS.y (Y.move rfl) rfl ?_
         refine WS.y (Y.nilCheck rfl) rfl ?_
         refine WS.y (Y.fieldAddr fo86_0 rfl) rfl ?_
         have hf116 := hb53.st hst106 rfl
         have hf117 := hf116.st hst115 rfl
         refine WS.y (Y.loadSc ty60 rfl rfl (hf117.cell 0 _ rfl)) rfl ?_
         refine WS.y (Y.move rfl) rfl ?_
         refine WS.y (Y.nilCheck rfl) rfl ?_
         refine WS.y (Y.fieldAddr fo86_0 rfl) rfl ?_
         refine WS.y (Y.loadSc ty60 rfl rfl (hf117.cell 0 _ rfl)) rfl ?_
         have hf118 := hf56.st hst106 rfl rfl rfl
         have hf119 := hf118.st hst115 rfl rfl rfl
         refine WS.y (Y.len ty60 rfl hf119.src.sl) rfl ?_
         refine WS.y (Y.sub_i rfl rfl) rfl ?_
         obtain ⟨e120, he120, h⟩ := bnd h
         obtain ⟨b121, cap128, cs127, hv122, hi123, hl124, hc125, hok126⟩ := OwnSl.at hf119 he120
         obtain rfl := hok126
         replace hc125 : CellsAt _ _ _ [vb e120] := hc125
         have hca129 := CAt.own hf119 hv122 hc125
         refine WS.y (Y.indexAddr ty60 ty5 rfl hv122 rfl hi123 hl124) rfl ?_
         refine WS.y (Y.loadSc ty5 rfl rfl hca129.at_) rfl ?_
         refine WS.y (Y.move rfl) rfl ?_
         refine WS.y (Y.move rfl) rfl ?_
         refine WS.y (Y.move rfl) rfl ?_
         refine WS.y (Y.sub_i rfl rfl) rfl ?_
         refine WS.y (Y.conv_iu ty3.u ty82.u rfl) rfl ?_
         refine WS.y (Y.shl_uu rfl rfl) rfl ?_
         refine WS.y (Y.conv_ub ty22.u ty5.u rfl) rfl ?_
         refine WS.y (Y.or_b rfl rfl) rfl ?_
         obtain ⟨e130, he130, h⟩ := bnd h
         obtain ⟨b131, cap138, cs137, hv132, hi133, hl134, hc135, hok136⟩ := OwnSl.at hf119 he130
         obtain rfl := hok136
         replace hc135 : CellsAt _ _ _ [vb e130] := hc135
         have hca139 := CAt.own hf119 hv132 hc135
         refine WS.y (Y.indexAddr ty60 ty5 rfl hv132 rfl hi133 hl134) rfl ?_
         refine WS.tail ?_
         obtain ⟨t140, ht140, h⟩ := lt1 h
         refine WL.ren 79 rfl (congrArg vb ht140.symm) ?_
         obtain ⟨xs141, hxs141, h⟩ := bnd h
         refine WL.storeOwn (by decide) ty5 rfl rfl rfl hf119 hv132 hxs141 ?_
         intro wd142 hst143 ho144
         refine WL.nil ?_
         refine At.then ?_
         refine WC.seq ?_
         refine WC.region ?_
         refine WL.y (Y.move rfl) rfl ?_
         refine WL.y (Y.nilCheck rfl) rfl ?_
         refine WL.y (Y.fieldAddr fo86_1 rfl) rfl ?_
         have hf145 := hf117.st hst143 rfl
         refine WL.y (Y.loadSc ty3 rfl rfl (hf145.cell 1 _ rfl)) rfl ?_
         refine WL.y (Y.move rfl) rfl ?_
         refine WL.y (Y.add_i rfl rfl) rfl ?_
         refine WL.y (Y.nilCheck rfl) rfl ?_
         refine WL.y (Y.fieldAddr fo86_1 rfl) rfl ?_
         obtain ⟨t146, ht146, h⟩ := lt1 h
         refine WL.ren 86 rfl (congrArg vi ht146.symm) ?_
         refine WL.store (v := vi t146) (cells' := [v55, vi t146]) ty3 rfl rfl hf145 rfl (Nat.le_of_ble_eq_true rfl) rfl rfl ?_
         intro wd147 hst148 hb149
         refine WL.nil ?_
         refine At.then ?_
         refine WC.region ?_
         refine WL.y (Y.move rfl) rfl ?_
         refine WL.y (Y.move rfl) rfl ?_
         refine WL.y (Y.sub_i rfl rfl) rfl ?_
         obtain ⟨nv150, hnv150, h⟩ := lt1 h
         refine WL.yE (Y.assign rfl) (congrArg vi hnv150.symm) rfl ?_
         refine WL.nil ?_
         refine At.inBlock ?_
         have hf151 := ho144.st hst148 rfl rfl rfl
         exact At.join (σ := (List UInt8 × Int × Int × Own × Value)) (xs141, t146, nv150, O103, v55) ⟨some1 h, (Stp.trans (Stp.up hst59 rfl) (Stp.trans (Stp.up hst106 rfl) (Stp.trans (Stp.up hst115 rfl) (Stp.trans (Stp.up hst143 rfl) (Stp.up hst148 rfl))))), hf151, hb149⟩ (.cons rfl (.cons rfl (.cons rfl .nil)))
      ·rintro ⟨c43, c46, nv47, O48, v44⟩ wd49 ⟨rfl, hst50, hf45, hb42⟩
       replace h := hk52
       try dsimp only at h hst50 hf45 hb42
       refine (show At _ _ _ [(0, Value.pointer (some ⟨b0, 0, none⟩)), (1, vu a1), (2, vi nv47)] _ from ?_)
       exact At.round (c43, c46, nv47, O48, v44) j38 (Nat.lt_succ_self _) ⟨next1 h hn40, (Stp.trans (Stp.up hst26 rfl) (Stp.up hst50 rfl)), hf45, hb42⟩ (.cons rfl (.cons rfl (.cons rfl .nil)))
     ·refine WC.condF' rfl hc41 ?_
      refine WC.exit ?_
      refine At.thenX ?_
      refine At.loopX ?_
      exact At.hitB (σ := (List UInt8 × Int × Own × Value)) (c19, c22, O24, v20) ⟨brk1 h hn40, (Stp.up hst26 rfl), hf21, hb18⟩ .nil
    ·rintro ⟨c28, c31, O32, v29⟩ wd33 ⟨rfl, hst34, hf30, hb27⟩
     replace h := flowK_go hk37
     try dsimp only at h hst34 hf30 hb27
     refine (show At _ _ _ [] _ from ?_)
     refine At.inBlockHit ?_
     refine At.then ?_
     refine WC.seq ?_
     refine WC.region ?_
     refine WL.y (Y.assign rfl) rfl ?_
     refine WL.nil ?_
     refine At.then ?_
     refine WC.ret ?_
     obtain ⟨rfl, rfl⟩ := tup2 h
     have hs152 : Stp [3, 4] (Lg.OB b0 3 (Lg.OV v0_0 4 (Lg.O0 (fun _ => False)))) w O32 wd33 := (Stp.up hst34 rfl)
     exact At.res (.inl rfl) rfl (.tmp rfl .nil) ⟨v29, rfl, (Stp.modL hs152 (sB sV1) rfl rfl), (OwnSl.outG hf30 hs152 (lowB (lowV low0 rfl rfl) rfl rfl) (lsB (lbV (ln0 rfl)) rfl)), hb27.blk⟩
theorem c_histbits_counts {A : Nat → Prop} {v0_3 : Value} {v0_5 : Value} {a0 : api_Hist} {w : World} (hs0_3 : Sl Rep.u w A v0_3 a0.Pos.Counts) (hs0_5 : Sl Rep.u w A v0_5 a0.Neg.Counts) {r0 : List UInt64} (h : histbits_counts a0 = some r0) : Rets Try.prog 68 [Value.agg (List.toArray [vi a0.Scale, vu a0.Zero, vi a0.Pos.Offset, v0_3, vi a0.Neg.Offset, v0_5])] w (fun v w' => ∃ (u0 : Value), v = u0 ∧ Ext w w' ∧ RowF Rep.u 22 w w' u0 r0) := by
 unfold histbits_counts at h
 refine Rets.enter Try.func68 rfl rfl ?_
 have hf11 : Sl Rep.u w (imm (Lg.O0 A)) v0_3 a0.Pos.Counts := (Sl.start hs0_3)
 have hf12 : Sl Rep.u w (imm (Lg.O0 A)) v0_5 a0.Neg.Counts := (Sl.start hs0_5)
 refine (show WC _ _ _ _ [(0, Value.agg (List.toArray [vi a0.Scale, vu a0.Zero, vi a0.Pos.Offset, v0_3, vi a0.Neg.Offset, v0_5]))] _ from ?_)
 refine WC.seq ?_
 refine WC.region ?_
 have hh16 := h
 obtain ⟨p13, m14, c15, rfl⟩ := hf11.shape
 have h := hh16
 have hh20 := h
 obtain ⟨p17, m18, c19, rfl⟩ := hf12.shape
 have h := hh20
 refine WL.box (O := (Lg.O0 A)) 11 [vi a0.Scale, vu a0.Zero, vi a0.Pos.Offset, (Value.slice p13 m14 c15), vi a0.Neg.Offset, (Value.slice p17 m18 c19)] rfl rfl rfl ?_
 intro p22 O23 wd24 hst25 hb21
 refine WL.y (Y.assign rfl) rfl ?_
 refine WL.nil ?_
 refine At.then ?_
 refine WC.seq ?_
 refine WC.region ?_
 refine WL.y (Y.fieldAddr fo27_1 rfl) rfl ?_
 refine WL.y (Y.loadSc ty22 rfl rfl (hb21.cell 1 _ rfl)) rfl ?_
 refine WL.buildSlice (O := O23) (R := Rep.u) (vals := [(0, vu a0.Zero)]) 12 [vu a0.Zero] (xs := [a0.Zero]) (by decide) ty23 ty22 (by decide) (by decide) (Fits.evalp rfl) (by kernel_rfl) rfl ⟨[vu a0.Zero], [], rfl, rfl, rfl⟩ rfl ?_
 intro v26 O28 wd29 hst30 ho27
 refine WL.y (Y.assign rfl) rfl ?_
 refine WL.nil ?_
 refine At.then ?_
 refine WC.seq ?_
 refine WC.region ?_
 refine WL.y (Y.move rfl) rfl ?_
 refine WL.y (Y.fieldAddr fo27_2 rfl) rfl ?_
 refine WL.y (Y.fieldAddr fo25_1 rfl) rfl ?_
 have hf31 := hb21.st hst30 rfl
 refine WL.y (Y.loadSc ty23 rfl rfl (hf31.cell 3 _ rfl)) rfl ?_
 obtain ⟨xs32, hxs32, h⟩ := bnd h
 have hf33 := hf11.mono (imm_st hst25 rfl rfl)
 have hf34 := hf33.mono (imm_st hst30 rfl rfl)
 refine WL.append (by decide) ty23 ty22 rfl (by decide) rfl rfl ho27 (Sl.src hf34) hxs32 rfl ?_
 intro v38 O35 wd36 hst37 ho39
 refine WL.y (Y.assign rfl) rfl ?_
 refine WL.nil ?_
 refine At.then ?_
 refine WC.seq ?_
 refine WC.region ?_
 refine WL.y (Y.move rfl) rfl ?_
 refine WL.y (Y.fieldAddr fo27_3 rfl) rfl ?_
 refine WL.y (Y.fieldAddr fo25_1 rfl) rfl ?_
 have hf40 := hf31.st hst37 rfl
 refine WL.y (Y.loadSc ty23 rfl rfl (hf40.cell 5 _ rfl)) rfl ?_
 obtain ⟨xs41, hxs41, h⟩ := bnd h
 have hf42 := hf12.mono (imm_st hst25 rfl rfl)
 have hf43 := hf42.mono (imm_st hst30 rfl rfl)
 have hf44 := hf43.mono (imm_st hst37 rfl rfl)
 refine WL.append (by decide) ty23 ty22 rfl (by decide) rfl rfl ho39 (Sl.src hf44) hxs41 rfl ?_
 intro v48 O45 wd46 hst47 ho49
 refine WL.y (Y.assign rfl) rfl ?_
 refine WL.nil ?_
 refine At.then ?_
 refine WC.ret ?_
 obtain rfl := some1 h
 have hs50 : Stp [12] (Lg.O0 A) w O45 wd46 := (Stp.trans (Stp.up hst25 rfl) (Stp.trans (Stp.up hst30 rfl) (Stp.trans (Stp.up hst37 rfl) (Stp.up hst47 rfl))))
 exact At.res (.inl rfl) rfl (.tmp rfl .nil) ⟨v48, rfl, (Stp.ext hs50 rfl rfl), (OwnSl.outF ho49 hs50 low0 rfl)⟩
theorem c_vary_sizes {w : World} {r0 : List Int} (h : vary_sizes = some r0) : Rets Try.prog 97 [] w (fun v w' => ∃ (cs0 : List Value), v = Value.agg (List.toArray cs0) ∧ Ext w w' ∧ Rows' Rep.i w' (fun k => w.heap.size ≤ k) cs0 r0 ∧ r0.length = 4) := by
 unfold vary_sizes at h
 refine Rets.enter Try.func97 rfl rfl ?_
 refine (show WC _ _ _ _ [] _ from ?_)
 refine WC.seq ?_
 refine WC.region ?_
 refine WL.alloc (O := (Lg.O0 (fun _ => False))) 11 [vi 0, vi 0, vi 0, vi 0] ty125 rfl rfl ?_
 intro p12 O13 wd14 hst15 hb11
 refine WL.nil ?_
 refine At.then ?_
 refine WC.seq ?_
 refine WC.region ?_
 refine WL.y (Y.build (vals := [(0, vi 0), (1, vi 7), (2, vi 20), (3, vi 64)]) (cells := [vi 0, vi 7, vi 20, vi 64]) (Fits.evalp rfl) (by kernel_rfl)) rfl ?_
 refine WL.store (v := Value.agg (List.toArray [vi 0, vi 7, vi 20, vi 64])) (cells' := [vi 0, vi 7, vi 20, vi 64]) ty125 rfl rfl hb11 rfl (Nat.le_of_ble_eq_true rfl) rfl rfl ?_
 intro wd16 hst17 hb18
 refine WL.nil ?_
 refine At.then ?_
 refine WC.ret ?_
 obtain rfl := some1 h
 have hs19 : Stp [11] (Lg.O0 (fun _ => False)) w O13 wd16 := (Stp.trans (Stp.up hst15 rfl) (Stp.up hst17 rfl))
 exact At.res (.inl rfl) rfl (.cell rfl (hb18.runAg 0 [vi 0, vi 7, vi 20, vi 64] ty125 rfl rfl rfl) .nil) ⟨[vi 0, vi 7, vi 20, vi 64], rfl, (Stp.ext hs19 rfl rfl), ⟨[vi 0], [vi 7, vi 20, vi 64], rfl, rfl, ⟨[vi 7], [vi 20, vi 64], rfl, rfl, ⟨[vi 20], [vi 64], rfl, rfl, ⟨[vi 64], [], rfl, rfl, rfl⟩⟩⟩⟩, rfl⟩
theorem c_vary_class {a0 : UInt64} {w : World} {r0 : Int} (h : vary_class a0 = some r0) : Rets Try.prog 96 [vu a0] w (fun v w' => v = vi r0 ∧ Ext w w') := by
 unfold vary_class at h
 refine Rets.enter Try.func96 rfl rfl ?_
 refine (show WC _ _ _ _ [(0, vu a0)] _ from ?_)
 refine WC.seq ?_
 refine WC.region ?_
 refine WL.y (Y.assign rfl) rfl ?_
 refine WL.nil ?_
 refine At.then ?_
 refine WC.seq ?_
 refine WC.seq ?_
 refine WC.region ?_
 obtain ⟨r11, hp12, h⟩ := bnd h
 refine WL.call (vals := []) kok97 rfl rfl (c_vary_sizes hp12) ?_
 rintro vr18 wd17 ⟨cs13, rfl, hm16, f14, f15⟩
 obtain ⟨O19, hold20, hnew21, hst22⟩ := adoptE (Lg.O0 (fun _ => False)) (fun k => 1) hm16
 have hf23 := Rows'.adoptF f14 (fun k hk => ⟨hk, rfl⟩) hnew21
 refine WL.y (Y.move rfl) rfl ?_
 refine WL.nil ?_
 refine At.then ?_
 refine WC.block ?_
 obtain ⟨p25, h, hk27⟩ := flow1 h
 obtain ⟨k26, h⟩ := loop_some h
 refine WC.joinB 0 (σ := Unit) (fun x w' => p25 = .go () ∧ wd17 = w') (fun x => []) ?_ ?_
 ·refine WC.loop (σ := Int) (fun x k w' => loopN k (vary_class_lp1 a0 r11) x = some p25 ∧ wd17 = w') (fun x => [(0, vu a0), (5, Value.agg (List.toArray cs13)), (6, vi x)]) 0 k26 (.cons rfl (.cons rfl (.cons rfl .nil))) ⟨h, rfl⟩ ?_
  rintro x24 k26 _ ⟨h, rfl⟩
  obtain ⟨j28, q29, rfl, h, hn30⟩ := rnd1 h
  unfold vary_class_lp1 at h
  try dsimp only at h
  refine (show WC _ _ _ _ [(0, vu a0), (5, Value.agg (List.toArray cs13)), (6, vi x24)] _ from ?_)
  refine WC.seq ?_
  refine WC.region ?_
  refine WL.y (Y.lss_i rfl rfl) rfl ?_
  refine WL.nil ?_
  refine At.then ?_
  refine WC.seq ?_
  rcases cnd h with ⟨hc31, h⟩ | ⟨hc31, h⟩
  ·refine WC.condT' rfl hc31 ?_
   refine WC.skip ?_
   refine At.then ?_
   refine WC.seq ?_
   refine WC.block ?_
   refine WC.seq ?_
   refine WC.region ?_
   refine WL.y (Y.move rfl) rfl ?_
   obtain ⟨e32, he32, h⟩ := bnd h
   obtain ⟨cs33, hcs34, hok35⟩ := arrAt (R := Rep.i) (w := wd17) (A := imm O19) (cells := cs13) hf23 he32
   obtain rfl := hok35
   replace hcs34 : _ = [vi e32] := hcs34
   refine WL.y (Y.indexArrSc ty125 ty3 rfl rfl hcs34 he32 f15) rfl ?_
   refine WL.y (Y.assign rfl) rfl ?_
   refine WL.y (Y.assign rfl) rfl ?_
   refine WL.nil ?_
   refine At.then ?_
   refine WC.seq ?_
   refine WC.region ?_
   refine WL.y (Y.move rfl) rfl ?_
   refine WL.y (Y.move rfl) rfl ?_
   refine WL.y (Y.conv_iu ty3.u ty82.u rfl) rfl ?_
   refine WL.y (Y.shr_uu rfl rfl) rfl ?_
   refine WL.y (Y.eql_u (b := 0) rfl rfl) rfl ?_
   refine WL.nil ?_
   refine At.then ?_
   rcases cnd h with ⟨hc36, h⟩ | ⟨hc36, h⟩
   ·refine WC.condT' rfl hc36 ?_
    refine WC.seq ?_
    refine WC.region ?_
    refine WL.y (Y.move rfl) rfl ?_
    refine WL.y (Y.assign rfl) rfl ?_
    refine WL.nil ?_
    refine At.then ?_
    refine WC.ret ?_
    refine At.inBlockR ?_
    refine At.thenR ?_
    refine At.loopR ?_
    have h := outr1 h hn30 hk27
    refine At.joinBR ?_
    refine At.inBlockR ?_
    refine At.thenR ?_
    obtain rfl := some1 h
    have hs37 : Stp [] (Lg.O0 (fun _ => False)) w O19 wd17 := (Stp.up hst22 rfl)
    exact At.res (.inl rfl) rfl (.tmp rfl .nil) ⟨rfl, (Stp.ext hs37 rfl rfl)⟩
   ·refine WC.condF' rfl hc36 ?_
    refine WC.skip ?_
    refine At.inBlock ?_
    refine At.then ?_
    refine WC.region ?_
    refine WL.y (Y.add_i rfl rfl) rfl ?_
    refine WL.y (Y.move rfl) rfl ?_
    refine WL.nil ?_
    exact At.round (w64 (x24 + 1)) j28 (Nat.lt_succ_self _) ⟨next1 h hn30, rfl⟩ (.cons rfl (.cons rfl (.cons rfl .nil)))
  ·refine WC.condF' rfl hc31 ?_
   refine WC.exit ?_
   refine At.thenX ?_
   refine At.loopX ?_
   exact At.hitB (σ := Unit) () ⟨brk1 h hn30, rfl⟩ .nil
 ·rintro _ _ ⟨rfl, rfl⟩
  replace h := flowK_go hk27
  refine (show At _ _ _ [] _ from ?_)
  refine At.inBlockHit ?_
  refine At.then ?_
  refine WC.seq ?_
  refine WC.region ?_
  refine WL.y (Y.assign rfl) rfl ?_
  refine WL.nil ?_
  refine At.then ?_
  refine WC.ret ?_
  obtain rfl := some1 h
  have hs38 : Stp [] (Lg.O0 (fun _ => False)) w O19 wd17 := (Stp.up hst22 rfl)
  exact At.res (.inl rfl) rfl (.tmp rfl .nil) ⟨rfl, (Stp.ext hs38 rfl rfl)⟩
theorem c_vary_Put {v0_0 : Value} {a0 : bitio_Writer} {b0 : Nat} {a1 : UInt64} {w : World} (hs0_0 : Row Rep.b 5 w v0_0 a0.b) (hb0 : w.heap[b0]? = some (.cells (List.toArray [v0_0, vi a0.n]) 86 (0, 0))) (hne0_1 : Value.ownBlock v0_0 ≠ some b0) {q0 : bitio_Writer} (h : vary_Put a0 a1 = some q0) : Rets Try.prog 70 [Value.pointer (some ⟨b0, 0, none⟩), vu a1] w (fun v w' => ∃ (z0_0 : Value), v = Value.tuple (List.toArray []) ∧ Mod (fun k => k = b0 ∨ Value.ownBlock v0_0 = some k) w w' ∧ RowG Rep.b 5 w w' v0_0 z0_0 q0.b ∧ w'.heap[b0]? = some (.cells (List.toArray [z0_0, vi q0.n]) 86 (0, 0))) := by
 unfold vary_Put at h
 refine Rets.enter Try.func70 rfl rfl ?_
 have ho11 : OwnSl 4 Rep.b 5 (Lg.OB b0 3 (Lg.OV v0_0 4 (Lg.O0 (fun _ => False)))) w v0_0 a0.b := Row.start Flat.b hs0_0 (fun k hk => ((if_neg (fun (e : k = b0) => hne0_1 (e ▸ hk))).trans (if_pos hk)))
 have hb12 : Blk 3 (Lg.OB b0 3 (Lg.OV v0_0 4 (Lg.O0 (fun _ => False)))) w b0 86 [v0_0, vi a0.n] := ⟨(if_pos rfl), hb0⟩
 refine (show WC _ _ _ _ [(0, Value.pointer (some ⟨b0, 0, none⟩)), (1, vu a1)] _ from ?_)
 refine WC.seq ?_
 refine WC.region ?_
 refine WL.y (Y.move rfl) rfl ?_
 obtain ⟨r13, hp14, h⟩ := bnd h
 refine WL.call (vals := [vu a1]) kok96 rfl rfl (c_vary_class hp14) ?_
 rintro vr17 wd16 ⟨rfl, hm15⟩
 obtain ⟨O18, hold19, hnew20, hst21⟩ := adoptE (Lg.OB b0 3 (Lg.OV v0_0 4 (Lg.O0 (fun _ => False)))) (fun k => 1) hm15
 refine WL.y (Y.assign rfl) rfl ?_
 refine WL.nil ?_
 refine At.then ?_
 refine WC.seq ?_
 refine WC.region ?_
 refine WL.y (Y.move rfl) rfl ?_
 refine WL.y (Y.move rfl) rfl ?_
 refine WL.y (Y.conv_iu ty3.u ty22.u rfl) rfl ?_
 have hf22 := ho11.st hst21 rfl rfl rfl
 have hf23 := hb12.st hst21 rfl
 obtain ⟨⟨r24, r25⟩, hp26, h⟩ := bnd h
 refine WL.call (vals := [Value.pointer (some ⟨b0, 0, none⟩), vu (toU64 r13), vi 2]) kok67 rfl rfl (c_bitio_Writer_Put (a0 := a0) hf22.row hf23.blk (ne_lab hf22 hf23.lab rfl) hp26) ?_
 rintro vr32 wd31 ⟨z27, rfl, hm30, f28, f29⟩
 obtain ⟨O33, hold34, hnew35, hst36⟩ := adopt O18 (fun k => if Value.ownBlock z27 = some k then 4 else 1) [3, 4] hm30 (memOr (memB hf23.lab rfl) (memV hf22.labs rfl))
 have ho37 : OwnSl 4 Rep.b 5 O33 wd31 z27 r25.b := RowG.adopt Flat.b hf22.labs f28 hold34 hnew35 (fun k hk => if_pos hk)
 have hb38 : Blk 3 O33 wd31 b0 86 [z27, vi r25.n] := Blk.adopt hf23 hold34 f29
 refine WL.nil ?_
 refine At.then ?_
 refine WC.region ?_
 refine WL.y (Y.move rfl) rfl ?_
 refine WL.y (Y.move rfl) rfl ?_
 obtain ⟨r39, hp40, h⟩ := bnd h
 refine WL.call (vals := []) kok97 rfl rfl (c_vary_sizes hp40) ?_
 rintro vr46 wd45 ⟨cs41, rfl, hm44, f42, f43⟩
 obtain ⟨O47, hold48, hnew49, hst50⟩ := adoptE O33 (fun k => 1) hm44
 have hf51 := Rows'.adoptF f42 (fun k hk => ⟨hk, rfl⟩) hnew49
 refine WL.y (Y.move rfl) rfl ?_
 obtain ⟨e52, he52, h⟩ := bnd h
 obtain ⟨cs53, hcs54, hok55⟩ := arrAt (R := Rep.i) (w := wd45) (A := imm O47) (cells := cs41) hf51 he52
 obtain rfl := hok55
 replace hcs54 : _ = [vi e52] := hcs54
 refine WL.y (Y.indexArrSc ty125 ty3 rfl rfl hcs54 he52 f43) rfl ?_
 have hf56 := ho37.st hst50 rfl rfl rfl
 have hf57 := hb38.st hst50 rfl
 obtain ⟨⟨r58, r59⟩, hp60, h⟩ := bnd h
 refine WL.call (vals := [Value.pointer (some ⟨b0, 0, none⟩), vu a1, vi e52]) kok67 rfl rfl (c_bitio_Writer_Put (a0 := r25) hf56.row hf57.blk (ne_lab hf56 hf57.lab rfl) hp60) ?_
 rintro vr66 wd65 ⟨z61, rfl, hm64, f62, f63⟩
 obtain ⟨O67, hold68, hnew69, hst70⟩ := adopt O47 (fun k => if Value.ownBlock z61 = some k then 4 else 1) [3, 4] hm64 (memOr (memB hf57.lab rfl) (memV hf56.labs rfl))
 have ho71 : OwnSl 4 Rep.b 5 O67 wd65 z61 r59.b := RowG.adopt Flat.b hf56.labs f62 hold68 hnew69 (fun k hk => if_pos hk)
 have hb72 : Blk 3 O67 wd65 b0 86 [z61, vi r59.n] := Blk.adopt hf57 hold68 f63
 refine WL.nil ?_
 obtain rfl := some1 h
 have hs73 : Stp [3, 4] (Lg.OB b0 3 (Lg.OV v0_0 4 (Lg.O0 (fun _ => False)))) w O67 wd65 := (Stp.trans (Stp.up hst21 rfl) (Stp.trans (Stp.up hst36 rfl) (Stp.trans (Stp.up hst50 rfl) (Stp.up hst70 rfl))))
 exact At.res (.inr rfl) rfl .nil ⟨z61, rfl, (Stp.modL hs73 (sB sV1) rfl rfl), (OwnSl.outG ho71 hs73 (lowB (lowV low0 rfl rfl) rfl rfl) (lsB (lbV (ln0 rfl)) rfl)), hb72.blk⟩
theorem c_pack_Zig {a0 : Int} {w : World} {r0 : UInt64} (h : pack_Zig a0 = some r0) : Rets Try.prog 95 [vi a0] w (fun v w' => v = vu r0 ∧ Ext w w') := by
 unfold pack_Zig at h
 refine Rets.enter Try.func95 rfl rfl ?_
 refine (show WC _ _ _ _ [(0, vi a0)] _ from ?_)
 refine WC.seq ?_
 refine WC.region ?_
 refine WL.y (Y.assign (v := vu 0) rfl) rfl ?_
 refine WL.nil ?_
 refine At.then ?_
 refine WC.seq ?_
 refine WC.region ?_
 refine WL.y (Y.move rfl) rfl ?_
 refine WL.y (Y.conv_iu ty3.u ty22.u rfl) rfl ?_
 refine WL.y (Y.shl_uu (m := 1) rfl rfl) rfl ?_
 refine WL.y (Y.move rfl) rfl ?_
 refine WL.y (Y.shr_iu (m := 63) rfl rfl) rfl ?_
 refine WL.y (Y.conv_iu ty3.u ty22.u rfl) rfl ?_
 refine WL.y (Y.xor_u rfl rfl) rfl ?_
 obtain ⟨t11, ht11, h⟩ := lt1 h
 refine WL.yE (Y.assign rfl) (congrArg vu ht11.symm) rfl ?_
 refine WL.nil ?_
 refine At.then ?_
 refine WC.ret ?_
 obtain rfl := some1 h
 have hs12 : Stp [] (Lg.O0 (fun _ => False)) w (Lg.O0 (fun _ => False)) w := (Stp.refl _ _ _)
 exact At.res (.inl rfl) rfl (.tmp rfl .nil) ⟨rfl, (Stp.ext hs12 rfl rfl)⟩
theorem c_vary_PutInt {v0_0 : Value} {a0 : bitio_Writer} {b0 : Nat} {a1 : Int} {w : World} (hs0_0 : Row Rep.b 5 w v0_0 a0.b) (hb0 : w.heap[b0]? = some (.cells (List.toArray [v0_0, vi a0.n]) 86 (0, 0))) (hne0_1 : Value.ownBlock v0_0 ≠ some b0) {q0 : bitio_Writer} (h : vary_PutInt a0 a1 = some q0) : Rets Try.prog 69 [Value.pointer (some ⟨b0, 0, none⟩), vi a1] w (fun v w' => ∃ (z0_0 : Value), v = Value.tuple (List.toArray []) ∧ Mod (fun k => k = b0 ∨ Value.ownBlock v0_0 = some k) w w' ∧ RowG Rep.b 5 w w' v0_0 z0_0 q0.b ∧ w'.heap[b0]? = some (.cells (List.toArray [z0_0, vi q0.n]) 86 (0, 0))) := by
 unfold vary_PutInt at h
 refine Rets.enter Try.func69 rfl rfl ?_
 have ho11 : OwnSl 4 Rep.b 5 (Lg.OB b0 3 (Lg.OV v0_0 4 (Lg.O0 (fun _ => False)))) w v0_0 a0.b := Row.start Flat.b hs0_0 (fun k hk => ((if_neg (fun (e : k = b0) => hne0_1 (e ▸ hk))).trans (if_pos hk)))
 have hb12 : Blk 3 (Lg.OB b0 3 (Lg.OV v0_0 4 (Lg.O0 (fun _ => False)))) w b0 86 [v0_0, vi a0.n] := ⟨(if_pos rfl), hb0⟩
 refine (show WC _ _ _ _ [(0, Value.pointer (some ⟨b0, 0, none⟩)), (1, vi a1)] _ from ?_)
 refine WC.region ?_
 refine WL.y (Y.move rfl) rfl ?_
 refine WL.y (Y.move rfl) rfl ?_
 obtain ⟨r13, hp14, h⟩ := bnd h
 refine WL.call (vals := [vi a1]) kok95 rfl rfl (c_pack_Zig hp14) ?_
 rintro vr17 wd16 ⟨rfl, hm15⟩
 obtain ⟨O18, hold19, hnew20, hst21⟩ := adoptE (Lg.OB b0 3 (Lg.OV v0_0 4 (Lg.O0 (fun _ => False)))) (fun k => 1) hm15
 have hf22 := ho11.st hst21 rfl rfl rfl
 have hf23 := hb12.st hst21 rfl
 obtain ⟨r24, hp25, h⟩ := bnd h
 refine WL.call (vals := [Value.pointer (some ⟨b0, 0, none⟩), vu r13]) kok70 rfl rfl (c_vary_Put (a0 := a0) hf22.row hf23.blk (ne_lab hf22 hf23.lab rfl) hp25) ?_
 rintro vr31 wd30 ⟨z26, rfl, hm29, f27, f28⟩
 obtain ⟨O32, hold33, hnew34, hst35⟩ := adopt O18 (fun k => if Value.ownBlock z26 = some k then 4 else 1) [3, 4] hm29 (memOr (memB hf23.lab rfl) (memV hf22.labs rfl))
 have ho36 : OwnSl 4 Rep.b 5 O32 wd30 z26 r24.b := RowG.adopt Flat.b hf22.labs f27 hold33 hnew34 (fun k hk => if_pos hk)
 have hb37 : Blk 3 O32 wd30 b0 86 [z26, vi r24.n] := Blk.adopt hf23 hold33 f28
 refine WL.nil ?_
 obtain rfl := some1 h
 have hs38 : Stp [3, 4] (Lg.OB b0 3 (Lg.OV v0_0 4 (Lg.O0 (fun _ => False)))) w O32 wd30 := (Stp.trans (Stp.up hst21 rfl) (Stp.up hst35 rfl))
 exact At.res (.inr rfl) rfl .nil ⟨z26, rfl, (Stp.modL hs38 (sB sV1) rfl rfl), (OwnSl.outG ho36 hs38 (lowB (lowV low0 rfl rfl) rfl rfl) (lsB (lbV (ln0 rfl)) rfl)), hb37.blk⟩
theorem c_histbits_Row_Put {A : Nat → Prop} {v0_4 : Value} {v0_6 : Value} {a0 : histbits_Row} {b0 : Nat} {v1_0 : Value} {a1 : bitio_Writer} {b1 : Nat} {v2_3 : Value} {v2_5 : Value} {a2 : api_Hist} {w : World} (hs0_4 : Row Rep.u 22 w v0_4 a0.last.Pos.Counts) (hs0_6 : Row Rep.u 22 w v0_6 a0.last.Neg.Counts) (hb0 : w.heap[b0]? = some (.cells (List.toArray [vi a0.n, vi a0.last.Scale, vu a0.last.Zero, vi a0.last.Pos.Offset, v0_4, vi a0.last.Neg.Offset, v0_6]) 88 (0, 0))) (hs1_0 : Row Rep.b 5 w v1_0 a1.b) (hb1 : w.heap[b1]? = some (.cells (List.toArray [v1_0, vi a1.n]) 86 (0, 0))) (hs2_3 : Sl Rep.u w A v2_3 a2.Pos.Counts) (hs2_5 : Sl Rep.u w A v2_5 a2.Neg.Counts) (hne0_1 : Value.ownBlock v0_4 ≠ some b0) (hne0_2 : Value.ownBlock v0_6 ≠ some b0) (hne0_3 : b0 ≠ b1) (hne0_4 : Value.ownBlock v1_0 ≠ some b0) (hne1_2 : ∀ k, Value.ownBlock v0_4 = some k → Value.ownBlock v0_6 ≠ some k) (hne1_3 : Value.ownBlock v0_4 ≠ some b1) (hne1_4 : ∀ k, Value.ownBlock v0_4 = some k → Value.ownBlock v1_0 ≠ some k) (hne2_3 : Value.ownBlock v0_6 ≠ some b1) (hne2_4 : ∀ k, Value.ownBlock v0_6 = some k → Value.ownBlock v1_0 ≠ some k) (hne3_4 : Value.ownBlock v1_0 ≠ some b1) (hA : ∀ k, A k → k ≠ b0 ∧ Value.ownBlock v0_4 ≠ some k ∧ Value.ownBlock v0_6 ≠ some k ∧ k ≠ b1 ∧ Value.ownBlock v1_0 ≠ some k) {r0 : Int} {q0 : histbits_Row} {q1 : bitio_Writer} (h : histbits_Row_Put a0 a1 a2 = some (r0, q0, q1)) : Rets Try.prog 34 [Value.pointer (some ⟨b0, 0, none⟩), Value.pointer (some ⟨b1, 0, none⟩), Value.agg (List.toArray [vi a2.Scale, vu a2.Zero, vi a2.Pos.Offset, v2_3, vi a2.Neg.Offset, v2_5])] w (fun v w' => ∃ (z0_4 : Value) (z0_6 : Value) (z1_0 : Value), v = vi r0 ∧ Mod (fun k => k = b0 ∨ Value.ownBlock v0_4 = some k ∨ Value.ownBlock v0_6 = some k ∨ k = b1 ∨ Value.ownBlock v1_0 = some k) w w' ∧ RowG Rep.u 22 w w' v0_4 z0_4 q0.last.Pos.Counts ∧ RowG Rep.u 22 w w' v0_6 z0_6 q0.last.Neg.Counts ∧ w'.heap[b0]? = some (.cells (List.toArray [vi q0.n, vi q0.last.Scale, vu q0.last.Zero, vi q0.last.Pos.Offset, z0_4, vi q0.last.Neg.Offset, z0_6]) 88 (0, 0)) ∧ RowG Rep.b 5 w w' v1_0 z1_0 q1.b ∧ w'.heap[b1]? = some (.cells (List.toArray [z1_0, vi q1.n]) 86 (0, 0)) ∧ (∀ k, Value.ownBlock z0_4 = some k → Value.ownBlock z0_6 ≠ some k) ∧ (∀ k, Value.ownBlock z0_4 = some k → Value.ownBlock z1_0 ≠ some k) ∧ (∀ k, Value.ownBlock z0_6 = some k → Value.ownBlock z1_0 ≠ some k)) := by
 unfold histbits_Row_Put at h
 refine Rets.enter Try.func34 rfl rfl ?_
 have ho11 : OwnSl 4 Rep.u 22 (Lg.OB b0 3 (Lg.OV v0_4 4 (Lg.OV v0_6 5 (Lg.OB b1 6 (Lg.OV v1_0 7 (Lg.O0 A)))))) w v0_4 a0.last.Pos.Counts := Row.start Flat.u hs0_4 (fun k hk => ((if_neg (fun (e : k = b0) => hne0_1 (e ▸ hk))).trans (if_pos hk)))
 have ho12 : OwnSl 5 Rep.u 22 (Lg.OB b0 3 (Lg.OV v0_4 4 (Lg.OV v0_6 5 (Lg.OB b1 6 (Lg.OV v1_0 7 (Lg.O0 A)))))) w v0_6 a0.last.Neg.Counts := Row.start Flat.u hs0_6 (fun k hk => ((if_neg (fun (e : k = b0) => hne0_2 (e ▸ hk))).trans ((if_neg (fun (e : Value.ownBlock v0_4 = some k) => hne1_2 k e hk)).trans (if_pos hk))))
 have hb13 : Blk 3 (Lg.OB b0 3 (Lg.OV v0_4 4 (Lg.OV v0_6 5 (Lg.OB b1 6 (Lg.OV v1_0 7 (Lg.O0 A)))))) w b0 88 [vi a0.n, vi a0.last.Scale, vu a0.last.Zero, vi a0.last.Pos.Offset, v0_4, vi a0.last.Neg.Offset, v0_6] := ⟨(if_pos rfl), hb0⟩
 have ho14 : OwnSl 7 Rep.b 5 (Lg.OB b0 3 (Lg.OV v0_4 4 (Lg.OV v0_6 5 (Lg.OB b1 6 (Lg.OV v1_0 7 (Lg.O0 A)))))) w v1_0 a1.b := Row.start Flat.b hs1_0 (fun k hk => ((if_neg (fun (e : k = b0) => hne0_4 (e ▸ hk))).trans ((if_neg (fun (e : Value.ownBlock v0_4 = some k) => hne1_4 k e hk)).trans ((if_neg (fun (e : Value.ownBlock v0_6 = some k) => hne2_4 k e hk)).trans ((if_neg (fun (e : k = b1) => hne3_4 (e ▸ hk))).trans (if_pos hk))))))
 have hb15 : Blk 6 (Lg.OB b0 3 (Lg.OV v0_4 4 (Lg.OV v0_6 5 (Lg.OB b1 6 (Lg.OV v1_0 7 (Lg.O0 A)))))) w b1 86 [v1_0, vi a1.n] := ⟨((if_neg (fun (e : b1 = b0) => hne0_3 e.symm)).trans ((if_neg hne1_3).trans ((if_neg hne2_3).trans (if_pos rfl)))), hb1⟩
 have hf16 : Sl Rep.u w (imm (Lg.OB b0 3 (Lg.OV v0_4 4 (Lg.OV v0_6 5 (Lg.OB b1 6 (Lg.OV v1_0 7 (Lg.O0 A))))))) v2_3 a2.Pos.Counts := (Sl.OB (Sl.OV (Sl.OV (Sl.OB (Sl.OV (Sl.start hs2_3) (fun k hk => (hA k (O0_A k hk)).2.2.2.2)) (fun k hk => (hA k ((aV O0_A rfl) k hk)).2.2.2.1)) (fun k hk => (hA k ((aB (aV O0_A rfl) rfl) k hk)).2.2.1)) (fun k hk => (hA k ((aV (aB (aV O0_A rfl) rfl) rfl) k hk)).2.1)) (fun k hk => (hA k ((aV (aV (aB (aV O0_A rfl) rfl) rfl) rfl) k hk)).1))
 have hf17 : Sl Rep.u w (imm (Lg.OB b0 3 (Lg.OV v0_4 4 (Lg.OV v0_6 5 (Lg.OB b1 6 (Lg.OV v1_0 7 (Lg.O0 A))))))) v2_5 a2.Neg.Counts := (Sl.OB (Sl.OV (Sl.OV (Sl.OB (Sl.OV (Sl.start hs2_5) (fun k hk => (hA k (O0_A k hk)).2.2.2.2)) (fun k hk => (hA k ((aV O0_A rfl) k hk)).2.2.2.1)) (fun k hk => (hA k ((aB (aV O0_A rfl) rfl) k hk)).2.2.1)) (fun k hk => (hA k ((aV (aB (aV O0_A rfl) rfl) rfl) k hk)).2.1)) (fun k hk => (hA k ((aV (aV (aB (aV O0_A rfl) rfl) rfl) rfl) k hk)).1))
 refine (show WC _ _ _ _ [(0, Value.pointer (some ⟨b0, 0, none⟩)), (1, Value.pointer (some ⟨b1, 0, none⟩)), (2, Value.agg (List.toArray [vi a2.Scale, vu a2.Zero, vi a2.Pos.Offset, v2_3, vi a2.Neg.Offset, v2_5]))] _ from ?_)
 refine WC.seq ?_
 refine WC.region ?_
 have hh21 := h
 obtain ⟨p18, m19, c20, rfl⟩ := hf16.shape
 have h := hh21
 have hh25 := h
 obtain ⟨p22, m23, c24, rfl⟩ := hf17.shape
 have h := hh25
 refine WL.box (O := (Lg.OB b0 3 (Lg.OV v0_4 4 (Lg.OV v0_6 5 (Lg.OB b1 6 (Lg.OV v1_0 7 (Lg.O0 A))))))) 11 [vi a2.Scale, vu a2.Zero, vi a2.Pos.Offset, (Value.slice p18 m19 c20), vi a2.Neg.Offset, (Value.slice p22 m23 c24)] rfl rfl rfl ?_
 intro p27 O28 wd29 hst30 hb26
 refine WL.y (Y.assign rfl) rfl ?_
 refine WL.nil ?_
 refine At.then ?_
 refine WC.seq ?_
 refine WC.seq ?_
 refine WC.region ?_
 refine WL.y (Y.loadAg ty27 rfl rfl (hb26.cells 0 [vi a2.Scale, vu a2.Zero, vi a2.Pos.Offset, (Value.slice p18 m19 c20), vi a2.Neg.Offset, (Value.slice p22 m23 c24)] rfl) rfl) rfl ?_
 have hf31 := hf16.mono (imm_st hst30 rfl rfl)
 have hf32 := hf17.mono (imm_st hst30 rfl rfl)
 obtain ⟨r33, hp34, h⟩ := bnd h
 refine WL.call (vals := [Value.agg (List.toArray [vi a2.Scale, vu a2.Zero, vi a2.Pos.Offset, (Value.slice p18 m19 c20), vi a2.Neg.Offset, (Value.slice p22 m23 c24)])]) kok19 rfl rfl (c_hist_Check (A := fun _ => True) (a0 := a2) (Sl.all hf31) (Sl.all hf32) hp34) ?_
 rintro vr37 wd36 ⟨rfl, hm35⟩
 obtain ⟨O38, hold39, hnew40, hst41⟩ := adoptE O28 (fun k => 1) hm35
 refine WL.y (Y.assign rfl) rfl ?_
 refine WL.nil ?_
 refine At.then ?_
 refine WC.seq ?_
 refine WC.region ?_
 refine WL.y (Y.move rfl) rfl ?_
 refine WL.y (Y.neq_i rfl rfl) rfl ?_
 refine WL.nil ?_
 refine At.then ?_
 rcases cnd h with ⟨hc42, h⟩ | ⟨hc42, h⟩
 ·refine WC.condT' rfl hc42 ?_
  refine WC.seq ?_
  refine WC.region ?_
  refine WL.y (Y.move rfl) rfl ?_
  refine WL.y (Y.assign rfl) rfl ?_
  refine WL.nil ?_
  refine At.then ?_
  refine WC.ret ?_
  refine At.thenR ?_
  obtain ⟨rfl, rfl, rfl⟩ := tup3 h
  have hs43 : Stp [] (Lg.OB b0 3 (Lg.OV v0_4 4 (Lg.OV v0_6 5 (Lg.OB b1 6 (Lg.OV v1_0 7 (Lg.O0 A)))))) w O38 wd36 := (Stp.trans (Stp.up hst30 rfl) (Stp.up hst41 rfl))
  have hf44 := hb13.st hst30 rfl
  have hf45 := hf44.st hst41 rfl
  have hf46 := ho11.st hst30 rfl rfl rfl
  have hf47 := hf46.st hst41 rfl rfl rfl
  have hf48 := ho12.st hst30 rfl rfl rfl
  have hf49 := hf48.st hst41 rfl rfl rfl
  have hf50 := hb15.st hst30 rfl
  have hf51 := hf50.st hst41 rfl
  have hf52 := ho14.st hst30 rfl rfl rfl
  have hf53 := hf52.st hst41 rfl rfl rfl
  exact At.res (.inl rfl) rfl (.tmp rfl .nil) ⟨v0_4, v0_6, v1_0, rfl, (Stp.modL hs43 (sB (sV (sV (sB sV1)))) rfl rfl), (OwnSl.outG hf47 hs43 (lowB (lowV (lowV (lowB (lowV low0 rfl rfl) rfl rfl) rfl rfl) rfl rfl) rfl rfl) (lsB (lbV (lnV (lnB (lnV (ln0 rfl) rfl) rfl) rfl)) rfl)), (OwnSl.outG hf49 hs43 (lowB (lowV (lowV (lowB (lowV low0 rfl rfl) rfl rfl) rfl rfl) rfl rfl) rfl rfl) (lsB (lsV (lbV (lnB (lnV (ln0 rfl) rfl) rfl)) rfl) rfl)), hf45.blk, (OwnSl.outG hf53 hs43 (lowB (lowV (lowV (lowB (lowV low0 rfl rfl) rfl rfl) rfl rfl) rfl rfl) rfl rfl) (lsB (lsV (lsV (lsB (lbV (ln0 rfl)) rfl) rfl) rfl) rfl)), hf51.blk, (ne_own hf47 hf49 rfl), (ne_own hf47 hf53 rfl), (ne_own hf49 hf53 rfl)⟩
 ·refine WC.condF' rfl hc42 ?_
  refine WC.skip ?_
  refine At.then ?_
  refine WC.seq ?_
  obtain ⟨p62, h, hk63⟩ := bnd h
  refine WC.join (σ := (List UInt8 × Int × Own × Value)) (fun x w' => (x.1, x.2.1) = p62 ∧ Stp [6, 7, 15] O38 wd36 x.2.2.1 w' ∧ OwnSl 7 Rep.b 5 x.2.2.1 w' x.2.2.2 x.1 ∧ Blk 6 x.2.2.1 w' b1 86 [x.2.2.2, vi x.2.1]) (fun x => [(0, Value.pointer (some ⟨b0, 0, none⟩)), (5, Value.pointer (some ⟨p27, 0, none⟩))]) ?_ ?_
  ·refine WC.seq ?_
   refine WC.drawH [] [0, 1, 2, 3, 4, 5, 6, 7, 8, 9, 10, 11, 12, 13, 14] O38 15 fmix rfl (by kernel_rfl) ?_
   intro wd64 hst65
   refine WD.y 0 rfl (by kernel_rfl) (fun _ _ _ => Y.move rfl) rfl ?_
   refine WD.y 1 rfl (by kernel_rfl) (fun _ _ _ => Y.nilCheck rfl) rfl ?_
   refine WD.y 2 rfl (by kernel_rfl) (fun _ _ _ => Y.fieldAddr fo88_0 rfl) rfl ?_
   refine WD.y 3 rfl (by kernel_rfl) (fun wd76 O75 hst77 => have hf78 := hb13.st hst30 rfl; have hf79 := hf78.st hst41 rfl; have hf80 := hf79.st hst65 rfl; have hf81 := hf80.st hst77 rfl; Y.loadSc ty3 rfl rfl (hf81.cell 0 _ rfl)) rfl ?_
   refine WD.y 4 rfl (by kernel_rfl) (fun _ _ _ => Y.gtr_i rfl rfl) rfl ?_
   refine WD.y 5 rfl (by kernel_rfl) (fun _ _ _ => Y.move rfl) rfl ?_
   obtain ⟨p92, h, hk93⟩ := bnd h
   refine WD.join (σ := (Bool × Own)) (f' := 0) [14, 13, 12, 7, 11, 10, 9, 8, 6, 5, 4, 3, 2, 1, 0] (fun x O' w' => x.1 = p92 ∧ Stp [] O38 wd64 x.2 w' ∧ x.2 = O') (fun x => [(0, Value.pointer (some ⟨b0, 0, none⟩)), (1, Value.pointer (some ⟨b1, 0, none⟩)), (5, Value.pointer (some ⟨p27, 0, none⟩)), (34, Value.bool x.1)]) (fun hJ94 => ?_) ?_
   ·rcases cnd h with ⟨hE95, h⟩ | ⟨hE95, h⟩
    ·refine WD.ren 25 rfl (congrArg Value.bool hE95) ?_
     refine WD.gT 6 rfl (by kernel_rfl) rfl rfl (fun wd97 O96 hst98 => have hf99 := hb26.st hst41 rfl; have hf100 := hf99.st hst65 rfl; have hf101 := hf100.st hst98 rfl; Y.loadAg ty27 rfl rfl (hf101.cells 0 [vi a2.Scale, vu a2.Zero, vi a2.Pos.Offset, (Value.slice p18 m19 c20), vi a2.Neg.Offset, (Value.slice p22 m23 c24)] rfl) rfl) rfl ?_
     refine WD.gT 8 rfl (by kernel_rfl) rfl rfl (fun _ _ _ => Y.move rfl) rfl ?_
     refine WD.gT 9 rfl (by kernel_rfl) rfl rfl (fun _ _ _ => Y.nilCheck rfl) rfl ?_
     refine WD.gT 10 rfl (by kernel_rfl) rfl rfl (fun _ _ _ => Y.fieldAddr fo88_1 rfl) rfl ?_
     refine WD.gT 11 rfl (by kernel_rfl) rfl rfl (fun wd112 O111 hst113 => have hf114 := hb13.st hst30 rfl; have hf115 := hf114.st hst41 rfl; have hf116 := hf115.st hst65 rfl; have hf117 := hf116.st hst113 rfl; Y.loadAg ty27 rfl rfl (hf117.cells 1 [vi a0.last.Scale, vu a0.last.Zero, vi a0.last.Pos.Offset, v0_4, vi a0.last.Neg.Offset, v0_6] rfl) rfl) rfl ?_
     refine WD.heavy 7 rfl (by kernel_rfl) ?_
     refine WL.ung rfl rfl ?_
     have hf118 := hf31.mono (imm_st hst41 rfl rfl)
     have hf119 := hf118.mono (imm_st hst65 rfl rfl)
     have hf120 := hf32.mono (imm_st hst41 rfl rfl)
     have hf121 := hf120.mono (imm_st hst65 rfl rfl)
     obtain ⟨r122, hp123, h⟩ := bnd h
     refine WL.call (vals := [Value.agg (List.toArray [vi a2.Scale, vu a2.Zero, vi a2.Pos.Offset, (Value.slice p18 m19 c20), vi a2.Neg.Offset, (Value.slice p22 m23 c24)])]) kok66 rfl rfl (c_histbits_of (A := fun _ => True) (a0 := a2) (Sl.all hf119) (Sl.all hf121) hp123) ?_
     rintro vr126 wd125 ⟨rfl, hm124⟩
     obtain ⟨O127, hold128, hnew129, hst130⟩ := adoptE O38 (fun k => 1) hm124
     refine WL.nil ?_
     refine At.dq (Stp.up hst130 rfl) ?_
     refine WD.heavy 12 rfl (by kernel_rfl) ?_
     refine WL.ung rfl rfl ?_
     have hf131 := ho11.st hst30 rfl rfl rfl
     have hf132 := hf131.st hst41 rfl rfl rfl
     have hf133 := hf132.st hst65 rfl rfl rfl
     have hf134 := hf133.st hst130 rfl rfl rfl
     have hf135 := ho12.st hst30 rfl rfl rfl
     have hf136 := hf135.st hst41 rfl rfl rfl
     have hf137 := hf136.st hst65 rfl rfl rfl
     have hf138 := hf137.st hst130 rfl rfl rfl
     obtain ⟨r139, hp140, h⟩ := bnd h
     refine WL.call (vals := [Value.agg (List.toArray [vi a0.last.Scale, vu a0.last.Zero, vi a0.last.Pos.Offset, v0_4, vi a0.last.Neg.Offset, v0_6])]) kok66 rfl rfl (c_histbits_of (A := fun _ => True) (a0 := a0.last) (hf134.src.sl) (hf138.src.sl) hp140) ?_
     rintro vr143 wd142 ⟨rfl, hm141⟩
     obtain ⟨O144, hold145, hnew146, hst147⟩ := adoptE O127 (fun k => 1) hm141
     refine WL.nil ?_
     refine At.dq (Stp.up hst147 rfl) ?_
     refine WD.gT 13 rfl (by kernel_rfl) rfl rfl (fun _ _ _ => Y.eql_ag agok90 rfl rfl (EqF.cons (by decide) (fun w => run_part_plain w (by kernel_rfl) rfl) (fun w => run_part_plain w (by kernel_rfl) rfl) (EqV.i (a := r122.scale) (b := r139.scale) ty3.u) (EqF.cons (by decide) (fun w => run_part_plain w (by kernel_rfl) rfl) (fun w => run_part_plain w (by kernel_rfl) rfl) (EqV.i (a := r122.posAt) (b := r139.posAt) ty3.u) (EqF.cons (by decide) (fun w => run_part_plain w (by kernel_rfl) rfl) (fun w => run_part_plain w (by kernel_rfl) rfl) (EqV.i (a := r122.posSize) (b := r139.posSize) ty3.u) (EqF.cons (by decide) (fun w => run_part_plain w (by kernel_rfl) rfl) (fun w => run_part_plain w (by kernel_rfl) rfl) (EqV.i (a := r122.negAt) (b := r139.negAt) ty3.u) (EqF.cons (by decide) (fun w => run_part_plain w (by kernel_rfl) rfl) (fun w => run_part_plain w (by kernel_rfl) rfl) (EqV.i (a := r122.negSize) (b := r139.negSize) ty3.u) EqF.nil)))))) rfl ?_
     refine WD.y 14 rfl (by kernel_rfl) (fun _ _ _ => Y.pick (b := true) rfl rfl) rfl ?_
     refine WD.ren 25 rfl (congrArg Value.bool hE95.symm) ?_
     exact hJ94 ((decide (r122.scale = r139.scale) && (decide (r122.posAt = r139.posAt) && (decide (r122.posSize = r139.posSize) && (decide (r122.negAt = r139.negAt) && (decide (r122.negSize = r139.negSize) && true))))), O144) _ _ _ ⟨some1 h, (Stp.trans (Stp.up hst130 rfl) (Stp.up hst147 rfl)), rfl⟩ (.cons rfl (.cons rfl (.cons rfl (.cons rfl .nil))))
    ·refine WD.ren 25 rfl (congrArg Value.bool hE95) ?_
     refine WD.gS 6 rfl (by kernel_rfl) rfl rfl rfl rfl ?_
     refine WD.gS 8 rfl (by kernel_rfl) rfl rfl rfl rfl ?_
     refine WD.gS 9 rfl (by kernel_rfl) rfl rfl rfl rfl ?_
     refine WD.gS 10 rfl (by kernel_rfl) rfl rfl rfl rfl ?_
     refine WD.gS 11 rfl (by kernel_rfl) rfl rfl rfl rfl ?_
     refine WD.heavy 7 rfl (by kernel_rfl) ?_
     refine WL.gS rfl rfl rfl rfl ?_
     refine WL.nil ?_
     refine At.dq (Stp.refl _ _ _) ?_
     refine WD.heavy 12 rfl (by kernel_rfl) ?_
     refine WL.gS rfl rfl rfl rfl ?_
     refine WL.nil ?_
     refine At.dq (Stp.refl _ _ _) ?_
     refine WD.gS 13 rfl (by kernel_rfl) rfl rfl rfl rfl ?_
     refine WD.y 14 rfl (by kernel_rfl) (fun _ _ _ => Y.pick (b := false) rfl rfl) rfl ?_
     refine WD.ren 25 rfl (congrArg Value.bool hE95.symm) ?_
     exact hJ94 (false, O38) _ _ _ ⟨some1 h, (Stp.refl _ _ _), rfl⟩ (.cons rfl (.cons rfl (.cons rfl (.cons rfl .nil))))
   ·rintro ⟨x88, O89⟩ _ wd90 ⟨rfl, hst91, rfl⟩
    replace h := hk93
    try dsimp only at h hst91
    refine (show WD _ _ _ _ _ _ _ _ [(0, Value.pointer (some ⟨b0, 0, none⟩)), (1, Value.pointer (some ⟨b1, 0, none⟩)), (5, Value.pointer (some ⟨p27, 0, none⟩)), (34, Value.bool x88)] _ _ from ?_)
    refine WD.done_ (by kernel_rfl) ?_
    refine At.then ?_
    rcases cnd h with ⟨hc157, h⟩ | ⟨hc157, h⟩
    ·refine WC.condT' rfl hc157 ?_
     refine WC.seq ?_
     refine WC.region ?_
     refine WL.y (Y.move rfl) rfl ?_
     have hf158 := ho14.st hst30 rfl rfl rfl
     have hf159 := hf158.st hst41 rfl rfl rfl
     have hf160 := hf159.st hst65 rfl rfl rfl
     have hf161 := hf160.st hst91 rfl rfl rfl
     have hf162 := hb15.st hst30 rfl
     have hf163 := hf162.st hst41 rfl
     have hf164 := hf163.st hst65 rfl
     have hf165 := hf164.st hst91 rfl
     obtain ⟨⟨r166, r167⟩, hp168, h⟩ := bnd h
     refine WL.call (vals := [Value.pointer (some ⟨b1, 0, none⟩), vu 1, vi 1]) kok67 rfl rfl (c_bitio_Writer_Put (a0 := a1) hf161.row hf165.blk (ne_lab hf161 hf165.lab rfl) hp168) ?_
     rintro vr174 wd173 ⟨z169, rfl, hm172, f170, f171⟩
     obtain ⟨O175, hold176, hnew177, hst178⟩ := adopt O89 (fun k => if Value.ownBlock z169 = some k then 7 else 1) [6, 7] hm172 (memOr (memB hf165.lab rfl) (memV hf161.labs rfl))
     have ho179 : OwnSl 7 Rep.b 5 O175 wd173 z169 r167.b := RowG.adopt Flat.b hf161.labs f170 hold176 hnew177 (fun k hk => if_pos hk)
     have hb180 : Blk 6 O175 wd173 b1 86 [z169, vi r167.n] := Blk.adopt hf165 hold176 f171
     refine WL.nil ?_
     refine At.then ?_
     refine WC.seq ?_
     refine WC.region ?_
     refine WL.y (Y.move rfl) rfl ?_
     refine WL.y (Y.nilCheck rfl) rfl ?_
     refine WL.y (Y.fieldAddr fo88_1 rfl) rfl ?_
     have hf181 := hb13.st hst30 rfl
     have hf182 := hf181.st hst41 rfl
     have hf183 := hf182.st hst65 rfl
     have hf184 := hf183.st hst91 rfl
     have hf185 := hf184.st hst178 rfl
     refine WL.y (Y.loadAg ty27 rfl rfl (hf185.cells 1 [vi a0.last.Scale, vu a0.last.Zero, vi a0.last.Pos.Offset, v0_4, vi a0.last.Neg.Offset, v0_6] rfl) rfl) rfl ?_
     have hf186 := ho11.st hst30 rfl rfl rfl
     have hf187 := hf186.st hst41 rfl rfl rfl
     have hf188 := hf187.st hst65 rfl rfl rfl
     have hf189 := hf188.st hst91 rfl rfl rfl
     have hf190 := hf189.st hst178 rfl rfl rfl
     have hf191 := ho12.st hst30 rfl rfl rfl
     have hf192 := hf191.st hst41 rfl rfl rfl
     have hf193 := hf192.st hst65 rfl rfl rfl
     have hf194 := hf193.st hst91 rfl rfl rfl
     have hf195 := hf194.st hst178 rfl rfl rfl
     obtain ⟨r196, hp197, h⟩ := bnd h
     refine WL.call (vals := [Value.agg (List.toArray [vi a0.last.Scale, vu a0.last.Zero, vi a0.last.Pos.Offset, v0_4, vi a0.last.Neg.Offset, v0_6])]) kok68 rfl rfl (c_histbits_counts (A := fun _ => True) (a0 := a0.last) (hf190.src.sl) (hf195.src.sl) hp197) ?_
     rintro vr202 wd201 ⟨_, rfl, hm200, f199⟩
     obtain ⟨O203, hold204, hnew205, hst206⟩ := adoptE O175 (fun k => if Value.ownBlock vr202 = some k then 12 else 1) hm200
     have hf207 : OwnSl 12 Rep.u 22 O203 wd201 vr202 r196 := RowF.adopt 12 Flat.u f199 hnew205 (fun k hk => if_pos hk)
     refine WL.y (Y.assign rfl) rfl ?_
     refine WL.nil ?_
     refine At.then ?_
     refine WC.seq ?_
     refine WC.region ?_
     have hf208 := hb26.st hst41 rfl
     have hf209 := hf208.st hst65 rfl
     have hf210 := hf209.st hst91 rfl
     have hf211 := hf210.st hst178 rfl
     have hf212 := hf211.st hst206 rfl
     refine WL.y (Y.loadAg ty27 rfl rfl (hf212.cells 0 [vi a2.Scale, vu a2.Zero, vi a2.Pos.Offset, (Value.slice p18 m19 c20), vi a2.Neg.Offset, (Value.slice p22 m23 c24)] rfl) rfl) rfl ?_
     have hf213 := hf31.mono (imm_st hst41 rfl rfl)
     have hf214 := hf213.mono (imm_st hst65 rfl rfl)
     have hf215 := hf214.mono (imm_st hst91 rfl rfl)
     have hf216 := hf215.mono (imm_st hst178 rfl rfl)
     have hf217 := hf216.mono (imm_st hst206 rfl rfl)
     have hf218 := hf32.mono (imm_st hst41 rfl rfl)
     have hf219 := hf218.mono (imm_st hst65 rfl rfl)
     have hf220 := hf219.mono (imm_st hst91 rfl rfl)
     have hf221 := hf220.mono (imm_st hst178 rfl rfl)
     have hf222 := hf221.mono (imm_st hst206 rfl rfl)
     obtain ⟨r223, hp224, h⟩ := bnd h
     refine WL.call (vals := [Value.agg (List.toArray [vi a2.Scale, vu a2.Zero, vi a2.Pos.Offset, (Value.slice p18 m19 c20), vi a2.Neg.Offset, (Value.slice p22 m23 c24)])]) kok68 rfl rfl (c_histbits_counts (A := fun _ => True) (a0 := a2) (Sl.all hf217) (Sl.all hf222) hp224) ?_
     rintro vr229 wd228 ⟨_, rfl, hm227, f226⟩
     obtain ⟨O230, hold231, hnew232, hst233⟩ := adoptE O203 (fun k => if Value.ownBlock vr229 = some k then 13 else 1) hm227
     have hf234 : OwnSl 13 Rep.u 22 O230 wd228 vr229 r223 := RowF.adopt 13 Flat.u f226 hnew232 (fun k hk => if_pos hk)
     refine WL.y (Y.len ty23 rfl hf234.src.sl) rfl ?_
     refine WL.y (Y.move rfl) rfl ?_
     refine WL.nil ?_
     refine At.then ?_
     obtain ⟨p243, h, hk244⟩ := bnd h
     refine WC.join (σ := (List UInt8 × Int × Own × Value)) (fun x w' => (x.1, x.2.1) = p243 ∧ Stp [6, 7] O230 wd228 x.2.2.1 w' ∧ OwnSl 7 Rep.b 5 x.2.2.1 w' x.2.2.2 x.1 ∧ Blk 6 x.2.2.1 w' b1 86 [x.2.2.2, vi x.2.1]) (fun x => [(0, Value.pointer (some ⟨b0, 0, none⟩)), (5, Value.pointer (some ⟨p27, 0, none⟩))]) ?_ ?_
     ·refine WC.block ?_
      obtain ⟨p262, h, hk264⟩ := flow1 h
      obtain ⟨k263, h⟩ := loop_some h
      refine WC.joinB 0 (σ := (List UInt8 × Int × Own × Value)) (fun x w' => p262 = .go (x.1, x.2.1) ∧ Stp [6, 7] O230 wd228 x.2.2.1 w' ∧ OwnSl 7 Rep.b 5 x.2.2.1 w' x.2.2.2 x.1 ∧ Blk 6 x.2.2.1 w' b1 86 [x.2.2.2, vi x.2.1]) (fun x => [(0, Value.pointer (some ⟨b0, 0, none⟩)), (5, Value.pointer (some ⟨p27, 0, none⟩))]) ?_ ?_
      ·have hf265 := ho179.st hst206 rfl rfl rfl
       have hf266 := hf265.st hst233 rfl rfl rfl
       have hf267 := hb180.st hst206 rfl
       have hf268 := hf267.st hst233 rfl
       refine WC.loop (σ := (List UInt8 × Int × Int × Own × Value)) (fun x k w' => loopN k (histbits_Row_Put_lp1 r196 r223) (x.1, x.2.1, x.2.2.1) = some p262 ∧ Stp [6, 7] O230 wd228 x.2.2.2.1 w' ∧ OwnSl 7 Rep.b 5 x.2.2.2.1 w' x.2.2.2.2 x.1 ∧ Blk 6 x.2.2.2.1 w' b1 86 [x.2.2.2.2, vi x.2.1]) (fun x => [(0, Value.pointer (some ⟨b0, 0, none⟩)), (1, Value.pointer (some ⟨b1, 0, none⟩)), (5, Value.pointer (some ⟨p27, 0, none⟩)), (8, vr202), (43, vr229), (44, vi (r223.length : Int)), (45, vi x.2.2.1)]) (r167.b, r167.n, 0, O230, z169) k263 (.cons rfl (.cons rfl (.cons rfl (.cons rfl (.cons rfl (.cons rfl (.cons rfl .nil))))))) ⟨h, (Stp.refl _ _ _), hf266, hf268⟩ ?_
       rintro ⟨c246, c249, x250, O251, v247⟩ k263 wd252 ⟨h, hst253, hf248, hb245⟩
       obtain ⟨j269, q270, rfl, h, hn271⟩ := rnd1 h
       unfold histbits_Row_Put_lp1 at h
       try dsimp only at h hst253 hf248 hb245
       refine (show WC _ _ _ _ [(0, Value.pointer (some ⟨b0, 0, none⟩)), (1, Value.pointer (some ⟨b1, 0, none⟩)), (5, Value.pointer (some ⟨p27, 0, none⟩)), (8, vr202), (43, vr229), (44, vi (r223.length : Int)), (45, vi x250)] _ from ?_)
       refine WC.seq ?_
       refine WC.region ?_
       refine WL.y (Y.lss_i rfl rfl) rfl ?_
       refine WL.nil ?_
       refine At.then ?_
       refine WC.seq ?_
       rcases cnd h with ⟨hc272, h⟩ | ⟨hc272, h⟩
       ·refine WC.condT' rfl hc272 ?_
        refine WC.skip ?_
        refine At.then ?_
        refine WC.seq ?_
        refine WC.block ?_
        refine WC.seq ?_
        refine WC.region ?_
        refine WL.y (Y.move rfl) rfl ?_
        obtain ⟨e273, he273, h⟩ := bnd h
        have hf282 := hf234.st hst253 rfl rfl rfl
        obtain ⟨b274, cap281, cs280, hv275, hi276, hl277, hc278, hok279⟩ := OwnSl.at hf282 he273
        obtain rfl := hok279
        replace hc278 : CellsAt _ _ _ [vu e273] := hc278
        have hca283 := CAt.own hf282 hv275 hc278
        refine WL.y (Y.indexAddr ty23 ty22 rfl hv275 rfl hi276 hl277) rfl ?_
        refine WL.y (Y.loadSc ty22 rfl rfl hca283.at_) rfl ?_
        refine WL.y (Y.assign rfl) rfl ?_
        refine WL.y (Y.assign rfl) rfl ?_
        refine WL.nil ?_
        refine At.then ?_
        refine WC.region ?_
        refine WL.y (Y.move rfl) rfl ?_
        refine WL.y (Y.move rfl) rfl ?_
        refine WL.y (Y.move rfl) rfl ?_
        refine WL.y (Y.move rfl) rfl ?_
        obtain ⟨e284, he284, h⟩ := bnd h
        have hf293 := hf207.st hst233 rfl rfl rfl
        have hf294 := hf293.st hst253 rfl rfl rfl
        obtain ⟨b285, cap292, cs291, hv286, hi287, hl288, hc289, hok290⟩ := OwnSl.at hf294 he284
        obtain rfl := hok290
        replace hc289 : CellsAt _ _ _ [vu e284] := hc289
        have hca295 := CAt.own hf294 hv286 hc289
        refine WL.y (Y.indexAddr ty23 ty22 rfl hv286 rfl hi287 hl288) rfl ?_
        refine WL.y (Y.loadSc ty22 rfl rfl hca295.at_) rfl ?_
        refine WL.y (Y.sub_u rfl rfl) rfl ?_
        refine WL.y (Y.conv_ui ty22.u ty3.u rfl) rfl ?_
        obtain ⟨r296, hp297, h⟩ := bnd h
        refine WL.call (vals := [Value.pointer (some ⟨b1, 0, none⟩), vi (w64 ((e273 - e284).toNat : Int))]) kok69 rfl rfl (c_vary_PutInt (a0 := (bitio_Writer.mk c246 c249)) hf248.row hb245.blk (ne_lab hf248 hb245.lab rfl) hp297) ?_
        rintro vr303 wd302 ⟨z298, rfl, hm301, f299, f300⟩
        obtain ⟨O304, hold305, hnew306, hst307⟩ := adopt O251 (fun k => if Value.ownBlock z298 = some k then 7 else 1) [6, 7] hm301 (memOr (memB hb245.lab rfl) (memV hf248.labs rfl))
        have ho308 : OwnSl 7 Rep.b 5 O304 wd302 z298 r296.b := RowG.adopt Flat.b hf248.labs f299 hold305 hnew306 (fun k hk => if_pos hk)
        have hb309 : Blk 6 O304 wd302 b1 86 [z298, vi r296.n] := Blk.adopt hb245 hold305 f300
        refine WL.nil ?_
        refine At.inBlock ?_
        refine At.then ?_
        refine WC.region ?_
        refine WL.y (Y.add_i rfl rfl) rfl ?_
        refine WL.y (Y.move rfl) rfl ?_
        refine WL.nil ?_
        exact At.round (r296.b, r296.n, w64 (x250 + 1), O304, z298) j269 (Nat.lt_succ_self _) ⟨next1 h hn271, (Stp.trans (Stp.up hst253 rfl) (Stp.up hst307 rfl)), ho308, hb309⟩ (.cons rfl (.cons rfl (.cons rfl (.cons rfl (.cons rfl (.cons rfl (.cons rfl .nil)))))))
       ·refine WC.condF' rfl hc272 ?_
        refine WC.exit ?_
        refine At.thenX ?_
        refine At.loopX ?_
        exact At.hitB (σ := (List UInt8 × Int × Own × Value)) (c246, c249, O251, v247) ⟨brk1 h hn271, (Stp.up hst253 rfl), hf248, hb245⟩ (.cons rfl (.cons rfl .nil))
      ·rintro ⟨c255, c258, O259, v256⟩ wd260 ⟨rfl, hst261, hf257, hb254⟩
       replace h := flowK_go hk264
       try dsimp only at h hst261 hf257 hb254
       refine (show At _ _ _ [(0, Value.pointer (some ⟨b0, 0, none⟩)), (5, Value.pointer (some ⟨p27, 0, none⟩))] _ from ?_)
       refine At.inBlockHit ?_
       exact At.join (σ := (List UInt8 × Int × Own × Value)) (c255, c258, O259, v256) ⟨some1 h, (Stp.up hst261 rfl), hf257, hb254⟩ (.cons rfl (.cons rfl .nil))
     ·rintro ⟨c236, c239, O240, v237⟩ wd241 ⟨rfl, hst242, hf238, hb235⟩
      replace h := hk244
      try dsimp only at h hst242 hf238 hb235
      refine (show At _ _ _ [(0, Value.pointer (some ⟨b0, 0, none⟩)), (5, Value.pointer (some ⟨p27, 0, none⟩))] _ from ?_)
      exact At.join (σ := (List UInt8 × Int × Own × Value)) (c236, c239, O240, v237) ⟨some1 h, (Stp.trans (Stp.up hst65 rfl) (Stp.trans (Stp.up hst91 rfl) (Stp.trans (Stp.up hst178 rfl) (Stp.trans (Stp.up hst206 rfl) (Stp.trans (Stp.up hst233 rfl) (Stp.up hst242 rfl)))))), hf238, hb235⟩ (.cons rfl (.cons rfl .nil))
    ·refine WC.condF' rfl hc157 ?_
     refine WC.seq ?_
     refine WC.region ?_
     refine WL.y (Y.move rfl) rfl ?_
     have hf310 := ho14.st hst30 rfl rfl rfl
     have hf311 := hf310.st hst41 rfl rfl rfl
     have hf312 := hf311.st hst65 rfl rfl rfl
     have hf313 := hf312.st hst91 rfl rfl rfl
     have hf314 := hb15.st hst30 rfl
     have hf315 := hf314.st hst41 rfl
     have hf316 := hf315.st hst65 rfl
     have hf317 := hf316.st hst91 rfl
     obtain ⟨⟨r318, r319⟩, hp320, h⟩ := bnd h
     refine WL.call (vals := [Value.pointer (some ⟨b1, 0, none⟩), vu 0, vi 1]) kok67 rfl rfl (c_bitio_Writer_Put (a0 := a1) hf313.row hf317.blk (ne_lab hf313 hf317.lab rfl) hp320) ?_
     rintro vr326 wd325 ⟨z321, rfl, hm324, f322, f323⟩
     obtain ⟨O327, hold328, hnew329, hst330⟩ := adopt O89 (fun k => if Value.ownBlock z321 = some k then 7 else 1) [6, 7] hm324 (memOr (memB hf317.lab rfl) (memV hf313.labs rfl))
     have ho331 : OwnSl 7 Rep.b 5 O327 wd325 z321 r319.b := RowG.adopt Flat.b hf313.labs f322 hold328 hnew329 (fun k hk => if_pos hk)
     have hb332 : Blk 6 O327 wd325 b1 86 [z321, vi r319.n] := Blk.adopt hf317 hold328 f323
     refine WL.nil ?_
     refine At.then ?_
     refine WC.seq ?_
     refine WC.region ?_
     refine WL.y (Y.move rfl) rfl ?_
     refine WL.y (Y.fieldAddr fo27_0 rfl) rfl ?_
     have hf333 := hb26.st hst41 rfl
     have hf334 := hf333.st hst65 rfl
     have hf335 := hf334.st hst91 rfl
     have hf336 := hf335.st hst330 rfl
     refine WL.y (Y.loadSc ty3 rfl rfl (hf336.cell 0 _ rfl)) rfl ?_
     refine WL.y (Y.sub_i rfl rfl) rfl ?_
     refine WL.y (Y.conv_iu ty3.u ty22.u rfl) rfl ?_
     obtain ⟨⟨r337, r338⟩, hp339, h⟩ := bnd h
     refine WL.call (vals := [Value.pointer (some ⟨b1, 0, none⟩), vu (toU64 (w64 (a2.Scale - (-10)))), vi 5]) kok67 rfl rfl (c_bitio_Writer_Put (a0 := r319) ho331.row hb332.blk (ne_lab ho331 hb332.lab rfl) hp339) ?_
     rintro vr345 wd344 ⟨z340, rfl, hm343, f341, f342⟩
     obtain ⟨O346, hold347, hnew348, hst349⟩ := adopt O327 (fun k => if Value.ownBlock z340 = some k then 7 else 1) [6, 7] hm343 (memOr (memB hb332.lab rfl) (memV ho331.labs rfl))
     have ho350 : OwnSl 7 Rep.b 5 O346 wd344 z340 r338.b := RowG.adopt Flat.b ho331.labs f341 hold347 hnew348 (fun k hk => if_pos hk)
     have hb351 : Blk 6 O346 wd344 b1 86 [z340, vi r338.n] := Blk.adopt hb332 hold347 f342
     refine WL.nil ?_
     refine At.then ?_
     refine WC.seq ?_
     refine WC.seq ?_
     refine WC.region ?_
     refine WL.y (Y.fieldAddr fo27_2 rfl) rfl ?_
     have hf352 := hf336.st hst349 rfl
     refine WL.y (Y.loadAg ty25 rfl rfl (hf352.cells 2 [vi a2.Pos.Offset, (Value.slice p18 m19 c20)] rfl) rfl) rfl ?_
     refine WL.y (Y.fieldAddr fo27_3 rfl) rfl ?_
     refine WL.y (Y.loadAg ty25 rfl rfl (hf352.cells 4 [vi a2.Neg.Offset, (Value.slice p22 m23 c24)] rfl) rfl) rfl ?_
     have hf355 := hf31.mono (imm_st hst41 rfl rfl)
     have hf356 := hf355.mono (imm_st hst65 rfl rfl)
     have hf357 := hf356.mono (imm_st hst91 rfl rfl)
     have hf358 := hf357.mono (imm_st hst330 rfl rfl)
     have hf359 := hf358.mono (imm_st hst349 rfl rfl)
     have hf360 := hf32.mono (imm_st hst41 rfl rfl)
     have hf361 := hf360.mono (imm_st hst65 rfl rfl)
     have hf362 := hf361.mono (imm_st hst91 rfl rfl)
     have hf363 := hf362.mono (imm_st hst330 rfl rfl)
     have hf364 := hf363.mono (imm_st hst349 rfl rfl)
     refine WL.buildSlice (O := O346) (R := rep_api_Side) (vals := [(0, Value.agg (List.toArray [vi a2.Pos.Offset, (Value.slice p18 m19 c20)])), (1, Value.agg (List.toArray [vi a2.Neg.Offset, (Value.slice p22 m23 c24)]))]) 14 [vi a2.Pos.Offset, (Value.slice p18 m19 c20), vi a2.Neg.Offset, (Value.slice p22 m23 c24)] (xs := [a2.Pos, a2.Neg]) (by decide) ty95 ty25 (by decide) (by decide) (Fits.evalp rfl) (by kernel_rfl) rfl ⟨[vi a2.Pos.Offset, (Value.slice p18 m19 c20)], [vi a2.Neg.Offset, (Value.slice p22 m23 c24)], rfl, ⟨[vi a2.Pos.Offset], [(Value.slice p18 m19 c20)], rfl, rfl, ⟨_, rfl, hf359⟩⟩, ⟨[vi a2.Neg.Offset, (Value.slice p22 m23 c24)], [], rfl, ⟨[vi a2.Neg.Offset], [(Value.slice p22 m23 c24)], rfl, rfl, ⟨_, rfl, hf364⟩⟩, rfl⟩⟩ rfl ?_
     intro v353 O365 wd366 hst367 ho354
     refine WL.y (Y.len ty95 rfl ho354.src.sl) rfl ?_
     refine WL.y (Y.move rfl) rfl ?_
     refine WL.nil ?_
     refine At.then ?_
     obtain ⟨p376, h, hk377⟩ := bnd h
     refine WC.join (σ := (List UInt8 × Int × Own × Value)) (fun x w' => (x.1, x.2.1) = p376 ∧ Stp [6, 7, 15] O365 wd366 x.2.2.1 w' ∧ OwnSl 7 Rep.b 5 x.2.2.1 w' x.2.2.2 x.1 ∧ Blk 6 x.2.2.1 w' b1 86 [x.2.2.2, vi x.2.1]) (fun x => [(0, Value.pointer (some ⟨b0, 0, none⟩)), (1, Value.pointer (some ⟨b1, 0, none⟩)), (5, Value.pointer (some ⟨p27, 0, none⟩))]) ?_ ?_
     ·refine WC.block ?_
      obtain ⟨p395, h, hk397⟩ := flow1 h
      obtain ⟨k396, h⟩ := loop_some h
      refine WC.joinB 2 (σ := (List UInt8 × Int × Own × Value)) (fun x w' => p395 = .go (x.1, x.2.1) ∧ Stp [6, 7, 15] O365 wd366 x.2.2.1 w' ∧ OwnSl 7 Rep.b 5 x.2.2.1 w' x.2.2.2 x.1 ∧ Blk 6 x.2.2.1 w' b1 86 [x.2.2.2, vi x.2.1]) (fun x => [(0, Value.pointer (some ⟨b0, 0, none⟩)), (1, Value.pointer (some ⟨b1, 0, none⟩)), (5, Value.pointer (some ⟨p27, 0, none⟩))]) ?_ ?_
      ·have hf398 := ho350.st hst367 rfl rfl rfl
       have hf399 := hb351.st hst367 rfl
       refine WC.loop (σ := (List UInt8 × Int × Int × Own × Value)) (fun x k w' => loopN k (histbits_Row_Put_lp2 a2) (x.1, x.2.1, x.2.2.1) = some p395 ∧ Stp [6, 7, 15] O365 wd366 x.2.2.2.1 w' ∧ OwnSl 7 Rep.b 5 x.2.2.2.1 w' x.2.2.2.2 x.1 ∧ Blk 6 x.2.2.2.1 w' b1 86 [x.2.2.2.2, vi x.2.1]) (fun x => [(0, Value.pointer (some ⟨b0, 0, none⟩)), (1, Value.pointer (some ⟨b1, 0, none⟩)), (5, Value.pointer (some ⟨p27, 0, none⟩)), (72, v353), (73, vi ([a2.Pos, a2.Neg].length : Int)), (74, vi x.2.2.1)]) (r338.b, r338.n, 0, O365, z340) k396 (.cons rfl (.cons rfl (.cons rfl (.cons rfl (.cons rfl (.cons rfl .nil)))))) ⟨h, (Stp.refl _ _ _), hf398, hf399⟩ ?_
       rintro ⟨c379, c382, x383, O384, v380⟩ k396 wd385 ⟨h, hst386, hf381, hb378⟩
       obtain ⟨j400, q401, rfl, h, hn402⟩ := rnd1 h
       unfold histbits_Row_Put_lp2 at h
       try dsimp only at h hst386 hf381 hb378
       refine (show WC _ _ _ _ [(0, Value.pointer (some ⟨b0, 0, none⟩)), (1, Value.pointer (some ⟨b1, 0, none⟩)), (5, Value.pointer (some ⟨p27, 0, none⟩)), (72, v353), (73, vi ([a2.Pos, a2.Neg].length : Int)), (74, vi x383)] _ from ?_)
       refine WC.seq ?_
       refine WC.region ?_
       refine WL.y (Y.lss_i rfl rfl) rfl ?_
       refine WL.nil ?_
       refine At.then ?_
       refine WC.seq ?_
       rcases cnd h with ⟨hc403, h⟩ | ⟨hc403, h⟩
       ·refine WC.condT' rfl hc403 ?_
        refine WC.skip ?_
        refine At.then ?_
        refine WC.seq ?_
        obtain ⟨p412, h, hk413⟩ := bnd h
        refine WC.join (σ := (List UInt8 × Int × Own × Value)) (fun x w' => (x.1, x.2.1) = p412 ∧ Stp [6, 7, 15] O384 wd385 x.2.2.1 w' ∧ OwnSl 7 Rep.b 5 x.2.2.1 w' x.2.2.2 x.1 ∧ Blk 6 x.2.2.1 w' b1 86 [x.2.2.2, vi x.2.1]) (fun x => [(0, Value.pointer (some ⟨b0, 0, none⟩)), (1, Value.pointer (some ⟨b1, 0, none⟩)), (5, Value.pointer (some ⟨p27, 0, none⟩)), (72, v353), (73, vi ([a2.Pos, a2.Neg].length : Int)), (74, vi x383)]) ?_ ?_
        ·refine WC.block ?_
         refine WC.seq ?_
         refine WC.region ?_
         obtain ⟨e414, he414, h⟩ := bnd h
         have hf423 := ho354.st hst386 rfl rfl rfl
         obtain ⟨b415, cap422, cs421, hv416, hi417, hl418, hc419, hok420⟩ := OwnSl.at hf423 he414
         obtain ⟨_, _, rfl, rfl, ⟨v424, rfl, hf425⟩⟩ := hok420
         replace hc419 : CellsAt _ _ _ [vi e414.Offset, v424] := hc419
         have hca426 := CAt.own hf423 hv416 hc419
         refine WL.y (Y.indexAddr ty95 ty25 rfl hv416 rfl hi417 hl418) rfl ?_
         refine WL.y (Y.loadAg ty25 rfl rfl hca426.at_ rfl) rfl ?_
         refine WL.alloc (O := O384) 15 [vi 0, Value.slice none 0 0] ty25 rfl rfl ?_
         intro p428 O429 wd430 hst431 hb427
         have hf432 := hf425.mono (imm_st hst431 rfl rfl)
         have hh436 := h
         obtain ⟨p433, m434, c435, rfl⟩ := hf432.shape
         have h := hh436
         refine WL.store (v := Value.agg (List.toArray [vi e414.Offset, (Value.slice p433 m434 c435)])) (cells' := [vi e414.Offset, (Value.slice p433 m434 c435)]) ty25 rfl rfl hb427 rfl (Nat.le_of_ble_eq_true rfl) rfl rfl ?_
         intro wd437 hst438 hb439
         refine WL.nil ?_
         refine At.then ?_
         refine WC.seq ?_
         refine WC.region ?_
         refine WL.y (Y.move rfl) rfl ?_
         refine WL.y (Y.fieldAddr fo25_1 rfl) rfl ?_
         refine WL.y (Y.loadSc ty23 rfl rfl (hb439.cell 1 _ rfl)) rfl ?_
         have hf440 := hf432.mono (imm_st hst438 rfl rfl)
         refine WL.y (Y.len ty23 rfl hf440) rfl ?_
         refine WL.y (Y.conv_iu ty3.u ty22.u rfl) rfl ?_
         have hf441 := hf381.st hst431 rfl rfl rfl
         have hf442 := hf441.st hst438 rfl rfl rfl
         have hf443 := hb378.st hst431 rfl
         have hf444 := hf443.st hst438 rfl
         obtain ⟨⟨r445, r446⟩, hp447, h⟩ := bnd h
         refine WL.call (vals := [Value.pointer (some ⟨b1, 0, none⟩), vu (toU64 (e414.Counts.length : Int)), vi 8]) kok67 rfl rfl (c_bitio_Writer_Put (a0 := (bitio_Writer.mk c379 c382)) hf442.row hf444.blk (ne_lab hf442 hf444.lab rfl) hp447) ?_
         rintro vr453 wd452 ⟨z448, rfl, hm451, f449, f450⟩
         obtain ⟨O454, hold455, hnew456, hst457⟩ := adopt O429 (fun k => if Value.ownBlock z448 = some k then 7 else 1) [6, 7] hm451 (memOr (memB hf444.lab rfl) (memV hf442.labs rfl))
         have ho458 : OwnSl 7 Rep.b 5 O454 wd452 z448 r446.b := RowG.adopt Flat.b hf442.labs f449 hold455 hnew456 (fun k hk => if_pos hk)
         have hb459 : Blk 6 O454 wd452 b1 86 [z448, vi r446.n] := Blk.adopt hf444 hold455 f450
         refine WL.nil ?_
         refine At.then ?_
         refine WC.seq ?_
         refine WC.region ?_
         refine WL.y (Y.fieldAddr fo25_1 rfl) rfl ?_
         have hf460 := hb439.st hst457 rfl
         refine WL.y (Y.loadSc ty23 rfl rfl (hf460.cell 1 _ rfl)) rfl ?_
         have hf461 := hf440.mono (imm_st hst457 rfl rfl)
         refine WL.y (Y.len ty23 rfl hf461) rfl ?_
         refine WL.y (Y.gtr_i rfl rfl) rfl ?_
         refine WL.nil ?_
         refine At.then ?_
         rcases cnd h with ⟨hc462, h⟩ | ⟨hc462, h⟩
         ·refine WC.condT' rfl hc462 ?_
          refine WC.region ?_
          refine WL.y (Y.move rfl) rfl ?_
          refine WL.y (Y.fieldAddr fo25_0 rfl) rfl ?_
          refine WL.y (Y.loadSc ty3 rfl rfl (hf460.cell 0 _ rfl)) rfl ?_
          obtain ⟨r463, hp464, h⟩ := bnd h
          refine WL.call (vals := [Value.pointer (some ⟨b1, 0, none⟩), vi e414.Offset]) kok69 rfl rfl (c_vary_PutInt (a0 := r446) ho458.row hb459.blk (ne_lab ho458 hb459.lab rfl) hp464) ?_
          rintro vr470 wd469 ⟨z465, rfl, hm468, f466, f467⟩
          obtain ⟨O471, hold472, hnew473, hst474⟩ := adopt O454 (fun k => if Value.ownBlock z465 = some k then 7 else 1) [6, 7] hm468 (memOr (memB hb459.lab rfl) (memV ho458.labs rfl))
          have ho475 : OwnSl 7 Rep.b 5 O471 wd469 z465 r463.b := RowG.adopt Flat.b ho458.labs f466 hold472 hnew473 (fun k hk => if_pos hk)
          have hb476 : Blk 6 O471 wd469 b1 86 [z465, vi r463.n] := Blk.adopt hb459 hold472 f467
          refine WL.nil ?_
          refine At.inBlock ?_
          exact At.join (σ := (List UInt8 × Int × Own × Value)) (r463.b, r463.n, O471, z465) ⟨some1 h, (Stp.trans (Stp.up hst431 rfl) (Stp.trans (Stp.up hst438 rfl) (Stp.trans (Stp.up hst457 rfl) (Stp.up hst474 rfl)))), ho475, hb476⟩ (.cons rfl (.cons rfl (.cons rfl (.cons rfl (.cons rfl (.cons rfl .nil))))))
         ·refine WC.condF' rfl hc462 ?_
          refine WC.skip ?_
          refine At.inBlock ?_
          exact At.join (σ := (List UInt8 × Int × Own × Value)) (r446.b, r446.n, O454, z448) ⟨some1 h, (Stp.trans (Stp.up hst431 rfl) (Stp.trans (Stp.up hst438 rfl) (Stp.up hst457 rfl))), ho458, hb459⟩ (.cons rfl (.cons rfl (.cons rfl (.cons rfl (.cons rfl (.cons rfl .nil))))))
        ·rintro ⟨c405, c408, O409, v406⟩ wd410 ⟨rfl, hst411, hf407, hb404⟩
         replace h := hk413
         try dsimp only at h hst411 hf407 hb404
         refine (show At _ _ _ [(0, Value.pointer (some ⟨b0, 0, none⟩)), (1, Value.pointer (some ⟨b1, 0, none⟩)), (5, Value.pointer (some ⟨p27, 0, none⟩)), (72, v353), (73, vi ([a2.Pos, a2.Neg].length : Int)), (74, vi x383)] _ from ?_)
         refine At.then ?_
         refine WC.region ?_
         refine WL.y (Y.add_i rfl rfl) rfl ?_
         refine WL.y (Y.move rfl) rfl ?_
         refine WL.nil ?_
         exact At.round (c405, c408, w64 (x383 + 1), O409, v406) j400 (Nat.lt_succ_self _) ⟨next1 h hn402, (Stp.trans (Stp.up hst386 rfl) (Stp.up hst411 rfl)), hf407, hb404⟩ (.cons rfl (.cons rfl (.cons rfl (.cons rfl (.cons rfl (.cons rfl .nil))))))
       ·refine WC.condF' rfl hc403 ?_
        refine WC.exit ?_
        refine At.thenX ?_
        refine At.loopX ?_
        exact At.hitB (σ := (List UInt8 × Int × Own × Value)) (c379, c382, O384, v380) ⟨brk1 h hn402, (Stp.up hst386 rfl), hf381, hb378⟩ (.cons rfl (.cons rfl (.cons rfl .nil)))
      ·rintro ⟨c388, c391, O392, v389⟩ wd393 ⟨rfl, hst394, hf390, hb387⟩
       replace h := flowK_go hk397
       try dsimp only at h hst394 hf390 hb387
       refine (show At _ _ _ [(0, Value.pointer (some ⟨b0, 0, none⟩)), (1, Value.pointer (some ⟨b1, 0, none⟩)), (5, Value.pointer (some ⟨p27, 0, none⟩))] _ from ?_)
       refine At.inBlockHit ?_
       exact At.join (σ := (List UInt8 × Int × Own × Value)) (c388, c391, O392, v389) ⟨some1 h, (Stp.up hst394 rfl), hf390, hb387⟩ (.cons rfl (.cons rfl (.cons rfl .nil)))
     ·rintro ⟨c369, c372, O373, v370⟩ wd374 ⟨rfl, hst375, hf371, hb368⟩
      replace h := hk377
      try dsimp only at h hst375 hf371 hb368
      refine (show At _ _ _ [(0, Value.pointer (some ⟨b0, 0, none⟩)), (1, Value.pointer (some ⟨b1, 0, none⟩)), (5, Value.pointer (some ⟨p27, 0, none⟩))] _ from ?_)
      refine At.then ?_
      refine WC.seq ?_
      refine WC.region ?_
      have hf477 := hf352.st hst367 rfl
      have hf478 := hf477.st hst375 rfl
      refine WL.y (Y.loadAg ty27 rfl rfl (hf478.cells 0 [vi a2.Scale, vu a2.Zero, vi a2.Pos.Offset, (Value.slice p18 m19 c20), vi a2.Neg.Offset, (Value.slice p22 m23 c24)] rfl) rfl) rfl ?_
      have hf479 := hf359.mono (imm_st hst367 rfl rfl)
      have hf480 := hf479.mono (imm_st hst375 rfl rfl)
      have hf481 := hf364.mono (imm_st hst367 rfl rfl)
      have hf482 := hf481.mono (imm_st hst375 rfl rfl)
      obtain ⟨r483, hp484, h⟩ := bnd h
      refine WL.call (vals := [Value.agg (List.toArray [vi a2.Scale, vu a2.Zero, vi a2.Pos.Offset, (Value.slice p18 m19 c20), vi a2.Neg.Offset, (Value.slice p22 m23 c24)])]) kok68 rfl rfl (c_histbits_counts (A := fun _ => True) (a0 := a2) (Sl.all hf480) (Sl.all hf482) hp484) ?_
      rintro vr489 wd488 ⟨_, rfl, hm487, f486⟩
      obtain ⟨O490, hold491, hnew492, hst493⟩ := adoptE O373 (fun k => if Value.ownBlock vr489 = some k then 16 else 1) hm487
      have hf494 : OwnSl 16 Rep.u 22 O490 wd488 vr489 r483 := RowF.adopt 16 Flat.u f486 hnew492 (fun k hk => if_pos hk)
      refine WL.y (Y.len ty23 rfl hf494.src.sl) rfl ?_
      refine WL.y (Y.move rfl) rfl ?_
      refine WL.nil ?_
      refine At.then ?_
      obtain ⟨p503, h, hk504⟩ := bnd h
      refine WC.join (σ := (List UInt8 × Int × Own × Value)) (fun x w' => (x.1, x.2.1) = p503 ∧ Stp [6, 7] O490 wd488 x.2.2.1 w' ∧ OwnSl 7 Rep.b 5 x.2.2.1 w' x.2.2.2 x.1 ∧ Blk 6 x.2.2.1 w' b1 86 [x.2.2.2, vi x.2.1]) (fun x => [(0, Value.pointer (some ⟨b0, 0, none⟩)), (5, Value.pointer (some ⟨p27, 0, none⟩))]) ?_ ?_
      ·refine WC.block ?_
       obtain ⟨p522, h, hk524⟩ := flow1 h
       obtain ⟨k523, h⟩ := loop_some h
       refine WC.joinB 4 (σ := (List UInt8 × Int × Own × Value)) (fun x w' => p522 = .go (x.1, x.2.1) ∧ Stp [6, 7] O490 wd488 x.2.2.1 w' ∧ OwnSl 7 Rep.b 5 x.2.2.1 w' x.2.2.2 x.1 ∧ Blk 6 x.2.2.1 w' b1 86 [x.2.2.2, vi x.2.1]) (fun x => [(0, Value.pointer (some ⟨b0, 0, none⟩)), (5, Value.pointer (some ⟨p27, 0, none⟩))]) ?_ ?_
       ·have hf525 := hf371.st hst493 rfl rfl rfl
        have hf526 := hb368.st hst493 rfl
        refine WC.loop (σ := (List UInt8 × Int × Int × Own × Value)) (fun x k w' => loopN k (histbits_Row_Put_lp3 r483) (x.1, x.2.1, x.2.2.1) = some p522 ∧ Stp [6, 7] O490 wd488 x.2.2.2.1 w' ∧ OwnSl 7 Rep.b 5 x.2.2.2.1 w' x.2.2.2.2 x.1 ∧ Blk 6 x.2.2.2.1 w' b1 86 [x.2.2.2.2, vi x.2.1]) (fun x => [(0, Value.pointer (some ⟨b0, 0, none⟩)), (1, Value.pointer (some ⟨b1, 0, none⟩)), (5, Value.pointer (some ⟨p27, 0, none⟩)), (94, vr489), (95, vi (r483.length : Int)), (96, vi x.2.2.1)]) (c369, c372, 0, O490, v370) k523 (.cons rfl (.cons rfl (.cons rfl (.cons rfl (.cons rfl (.cons rfl .nil)))))) ⟨h, (Stp.refl _ _ _), hf525, hf526⟩ ?_
        rintro ⟨c506, c509, x510, O511, v507⟩ k523 wd512 ⟨h, hst513, hf508, hb505⟩
        obtain ⟨j527, q528, rfl, h, hn529⟩ := rnd1 h
        unfold histbits_Row_Put_lp3 at h
        try dsimp only at h hst513 hf508 hb505
        refine (show WC _ _ _ _ [(0, Value.pointer (some ⟨b0, 0, none⟩)), (1, Value.pointer (some ⟨b1, 0, none⟩)), (5, Value.pointer (some ⟨p27, 0, none⟩)), (94, vr489), (95, vi (r483.length : Int)), (96, vi x510)] _ from ?_)
        refine WC.seq ?_
        refine WC.region ?_
        refine WL.y (Y.lss_i rfl rfl) rfl ?_
        refine WL.nil ?_
        refine At.then ?_
        refine WC.seq ?_
        rcases cnd h with ⟨hc530, h⟩ | ⟨hc530, h⟩
        ·refine WC.condT' rfl hc530 ?_
         refine WC.skip ?_
         refine At.then ?_
         refine WC.seq ?_
         refine WC.block ?_
         refine WC.seq ?_
         refine WC.region ?_
         obtain ⟨e531, he531, h⟩ := bnd h
         have hf540 := hf494.st hst513 rfl rfl rfl
         obtain ⟨b532, cap539, cs538, hv533, hi534, hl535, hc536, hok537⟩ := OwnSl.at hf540 he531
         obtain rfl := hok537
         replace hc536 : CellsAt _ _ _ [vu e531] := hc536
         have hca541 := CAt.own hf540 hv533 hc536
         refine WL.y (Y.indexAddr ty23 ty22 rfl hv533 rfl hi534 hl535) rfl ?_
         refine WL.y (Y.loadSc ty22 rfl rfl hca541.at_) rfl ?_
         refine WL.y (Y.assign rfl) rfl ?_
         refine WL.nil ?_
         refine At.then ?_
         refine WC.region ?_
         refine WL.y (Y.move rfl) rfl ?_
         refine WL.y (Y.move rfl) rfl ?_
         obtain ⟨r542, hp543, h⟩ := bnd h
         refine WL.call (vals := [Value.pointer (some ⟨b1, 0, none⟩), vu e531]) kok70 rfl rfl (c_vary_Put (a0 := (bitio_Writer.mk c506 c509)) hf508.row hb505.blk (ne_lab hf508 hb505.lab rfl) hp543) ?_
         rintro vr549 wd548 ⟨z544, rfl, hm547, f545, f546⟩
         obtain ⟨O550, hold551, hnew552, hst553⟩ := adopt O511 (fun k => if Value.ownBlock z544 = some k then 7 else 1) [6, 7] hm547 (memOr (memB hb505.lab rfl) (memV hf508.labs rfl))
         have ho554 : OwnSl 7 Rep.b 5 O550 wd548 z544 r542.b := RowG.adopt Flat.b hf508.labs f545 hold551 hnew552 (fun k hk => if_pos hk)
         have hb555 : Blk 6 O550 wd548 b1 86 [z544, vi r542.n] := Blk.adopt hb505 hold551 f546
         refine WL.nil ?_
         refine At.inBlock ?_
         refine At.then ?_
         refine WC.region ?_
         refine WL.y (Y.add_i rfl rfl) rfl ?_
         refine WL.y (Y.move rfl) rfl ?_
         refine WL.nil ?_
         exact At.round (r542.b, r542.n, w64 (x510 + 1), O550, z544) j527 (Nat.lt_succ_self _) ⟨next1 h hn529, (Stp.trans (Stp.up hst513 rfl) (Stp.up hst553 rfl)), ho554, hb555⟩ (.cons rfl (.cons rfl (.cons rfl (.cons rfl (.cons rfl (.cons rfl .nil))))))
        ·refine WC.condF' rfl hc530 ?_
         refine WC.exit ?_
         refine At.thenX ?_
         refine At.loopX ?_
         exact At.hitB (σ := (List UInt8 × Int × Own × Value)) (c506, c509, O511, v507) ⟨brk1 h hn529, (Stp.up hst513 rfl), hf508, hb505⟩ (.cons rfl (.cons rfl .nil))
       ·rintro ⟨c515, c518, O519, v516⟩ wd520 ⟨rfl, hst521, hf517, hb514⟩
        replace h := flowK_go hk524
        try dsimp only at h hst521 hf517 hb514
        refine (show At _ _ _ [(0, Value.pointer (some ⟨b0, 0, none⟩)), (5, Value.pointer (some ⟨p27, 0, none⟩))] _ from ?_)
        refine At.inBlockHit ?_
        exact At.join (σ := (List UInt8 × Int × Own × Value)) (c515, c518, O519, v516) ⟨some1 h, (Stp.up hst521 rfl), hf517, hb514⟩ (.cons rfl (.cons rfl .nil))
      ·rintro ⟨c496, c499, O500, v497⟩ wd501 ⟨rfl, hst502, hf498, hb495⟩
       replace h := hk504
       try dsimp only at h hst502 hf498 hb495
       refine (show At _ _ _ [(0, Value.pointer (some ⟨b0, 0, none⟩)), (5, Value.pointer (some ⟨p27, 0, none⟩))] _ from ?_)
       exact At.join (σ := (List UInt8 × Int × Own × Value)) (c496, c499, O500, v497) ⟨some1 h, (Stp.trans (Stp.up hst65 rfl) (Stp.trans (Stp.up hst91 rfl) (Stp.trans (Stp.up hst330 rfl) (Stp.trans (Stp.up hst349 rfl) (Stp.trans (Stp.up hst367 rfl) (Stp.trans (Stp.up hst375 rfl) (Stp.trans (Stp.up hst493 rfl) (Stp.up hst502 rfl)))))))), hf498, hb495⟩ (.cons rfl (.cons rfl .nil))
  ·rintro ⟨c55, c58, O59, v56⟩ wd60 ⟨rfl, hst61, hf57, hb54⟩
   replace h := hk63
   try dsimp only at h hst61 hf57 hb54
   refine (show At _ _ _ [(0, Value.pointer (some ⟨b0, 0, none⟩)), (5, Value.pointer (some ⟨p27, 0, none⟩))] _ from ?_)
   refine At.then ?_
   refine WC.seq ?_
   refine WC.region ?_
   refine WL.y (Y.move rfl) rfl ?_
   refine WL.y (Y.nilCheck rfl) rfl ?_
   refine WL.y (Y.fieldAddr fo88_0 rfl) rfl ?_
   have hf556 := hb13.st hst30 rfl
   have hf557 := hf556.st hst41 rfl
   have hf558 := hf557.st hst61 rfl
   refine WL.y (Y.loadSc ty3 rfl rfl (hf558.cell 0 _ rfl)) rfl ?_
   refine WL.y (Y.add_i rfl rfl) rfl ?_
   refine WL.y (Y.nilCheck rfl) rfl ?_
   refine WL.y (Y.fieldAddr fo88_0 rfl) rfl ?_
   obtain ⟨t559, ht559, h⟩ := lt1 h
   refine WL.ren 108 rfl (congrArg vi ht559.symm) ?_
   refine WL.store (v := vi t559) (cells' := [vi t559, vi a0.last.Scale, vu a0.last.Zero, vi a0.last.Pos.Offset, v0_4, vi a0.last.Neg.Offset, v0_6]) ty3 rfl rfl hf558 rfl (Nat.le_of_ble_eq_true rfl) rfl rfl ?_
   intro wd560 hst561 hb562
   refine WL.nil ?_
   refine At.then ?_
   refine WC.seq ?_
   refine WC.region ?_
   refine WL.y (Y.move rfl) rfl ?_
   have hf563 := hb26.st hst41 rfl
   have hf564 := hf563.st hst61 rfl
   have hf565 := hf564.st hst561 rfl
   refine WL.y (Y.loadAg ty27 rfl rfl (hf565.cells 0 [vi a2.Scale, vu a2.Zero, vi a2.Pos.Offset, (Value.slice p18 m19 c20), vi a2.Neg.Offset, (Value.slice p22 m23 c24)] rfl) rfl) rfl ?_
   have hf566 := hf31.mono (imm_st hst41 rfl rfl)
   have hf567 := hf566.mono (imm_st hst61 rfl rfl)
   have hf568 := hf567.mono (imm_st hst561 rfl rfl)
   have hf569 := hf32.mono (imm_st hst41 rfl rfl)
   have hf570 := hf569.mono (imm_st hst61 rfl rfl)
   have hf571 := hf570.mono (imm_st hst561 rfl rfl)
   obtain ⟨r572, hp573, h⟩ := bnd h
   refine WL.call (vals := [Value.agg (List.toArray [vi a2.Scale, vu a2.Zero, vi a2.Pos.Offset, (Value.slice p18 m19 c20), vi a2.Neg.Offset, (Value.slice p22 m23 c24)])]) kok45 rfl rfl (c_hist_Clone (A := fun _ => True) (a0 := a2) (Sl.all hf568) (Sl.all hf571) hp573) ?_
   rintro vr581 wd580 ⟨u574, u575, rfl, hm579, f576, f577, f578⟩
   obtain ⟨O582, hold583, hnew584, hst585⟩ := adoptE O59 (fun k => if Value.ownBlock u574 = some k then 17 else if Value.ownBlock u575 = some k then 18 else 1) hm579
   have hf586 : OwnSl 17 Rep.u 22 O582 wd580 u574 r572.Pos.Counts := RowF.adopt 17 Flat.u f576 hnew584 (fun k hk => if_pos hk)
   have hf587 : OwnSl 18 Rep.u 22 O582 wd580 u575 r572.Neg.Counts := RowF.adopt 18 Flat.u f577 hnew584 (fun k hk => (if_neg (fun (e : Value.ownBlock u574 = some k) => f578 k e hk)).trans (if_pos hk))
   refine WL.y (Y.nilCheck rfl) rfl ?_
   refine WL.y (Y.fieldAddr fo88_1 rfl) rfl ?_
   have hh591 := h
   obtain ⟨p588, m589, c590, rfl⟩ := hf586.shape
   have h := hh591
   have hh595 := h
   obtain ⟨p592, m593, c594, rfl⟩ := hf587.shape
   have h := hh595
   have hf596 := hb562.st hst585 rfl
   refine WL.store (v := Value.agg (List.toArray [vi r572.Scale, vu r572.Zero, vi r572.Pos.Offset, (Value.slice p588 m589 c590), vi r572.Neg.Offset, (Value.slice p592 m593 c594)])) (cells' := [vi t559, vi r572.Scale, vu r572.Zero, vi r572.Pos.Offset, (Value.slice p588 m589 c590), vi r572.Neg.Offset, (Value.slice p592 m593 c594)]) ty27 rfl rfl hf596 rfl (Nat.le_of_ble_eq_true rfl) rfl rfl ?_
   intro wd597 hst598 hb599
   refine WL.nil ?_
   refine At.then ?_
   refine WC.seq ?_
   refine WC.region ?_
   refine WL.y (Y.assign rfl) rfl ?_
   refine WL.nil ?_
   refine At.then ?_
   refine WC.ret ?_
   obtain ⟨rfl, rfl, rfl⟩ := tup3 h
   have hs600 : Stp [3, 6, 7, 15] (Lg.OB b0 3 (Lg.OV v0_4 4 (Lg.OV v0_6 5 (Lg.OB b1 6 (Lg.OV v1_0 7 (Lg.O0 A)))))) w O582 wd597 := (Stp.trans (Stp.up hst30 rfl) (Stp.trans (Stp.up hst41 rfl) (Stp.trans (Stp.up hst61 rfl) (Stp.trans (Stp.up hst561 rfl) (Stp.trans (Stp.up hst585 rfl) (Stp.up hst598 rfl))))))
   have hf601 := hf586.st hst598 rfl rfl rfl
   have hf602 := hf587.st hst598 rfl rfl rfl
   have hf603 := hb54.st hst561 rfl
   have hf604 := hf603.st hst585 rfl
   have hf605 := hf604.st hst598 rfl
   have hf606 := hf57.st hst561 rfl rfl rfl
   have hf607 := hf606.st hst585 rfl rfl rfl
   have hf608 := hf607.st hst598 rfl rfl rfl
   exact At.res (.inl rfl) rfl (.tmp rfl .nil) ⟨(Value.slice p588 m589 c590), (Value.slice p592 m593 c594), v56, rfl, (Stp.modL hs600 (sB (sV (sV (sB sV1)))) rfl rfl), (RowF.g (OwnSl.outF hf601 hs600 (lowB (lowV (lowV (lowB (lowV low0 rfl rfl) rfl rfl) rfl rfl) rfl rfl) rfl rfl) rfl)), (RowF.g (OwnSl.outF hf602 hs600 (lowB (lowV (lowV (lowB (lowV low0 rfl rfl) rfl rfl) rfl rfl) rfl rfl) rfl rfl) rfl)), hb599.blk, (OwnSl.outG hf608 hs600 (lowB (lowV (lowV (lowB (lowV low0 rfl rfl) rfl rfl) rfl rfl) rfl rfl) rfl rfl) (lsB (lsV (lsV (lsB (lbV (ln0 rfl)) rfl) rfl) rfl) rfl)), hf605.blk, (ne_own hf601 hf602 rfl), (ne_own hf601 hf608 rfl), (ne_own hf602 hf608 rfl)⟩
theorem c_bitio_Writer_Len {A : Nat → Prop} {v0_0 : Value} {a0 : bitio_Writer} {b0 : Nat} {w : World} (hs0_0 : Sl Rep.b w A v0_0 a0.b) (hb0 : w.heap[b0]? = some (.cells (List.toArray [v0_0, vi a0.n]) 86 (0, 0))) (hm0 : A b0) {r0 : Int} (h : bitio_Writer_Len a0 = some r0) : Rets Try.prog 35 [Value.pointer (some ⟨b0, 0, none⟩)] w (fun v w' => v = vi r0 ∧ Ext w w') := by
 unfold bitio_Writer_Len at h
 refine Rets.enter Try.func35 rfl rfl ?_
 have hf11 : Sl Rep.b w (imm (Lg.O0 A)) v0_0 a0.b := (Sl.start hs0_0)
 have hb12 : Blk 0 (Lg.O0 A) w b0 86 [v0_0, vi a0.n] := ⟨(if_pos hm0), hb0⟩
 refine (show WC _ _ _ _ [(0, Value.pointer (some ⟨b0, 0, none⟩))] _ from ?_)
 refine WC.seq ?_
 refine WC.region ?_
 refine WL.y (Y.assign rfl) rfl ?_
 refine WL.nil ?_
 refine At.then ?_
 refine WC.seq ?_
 refine WC.region ?_
 refine WL.y (Y.move rfl) rfl ?_
 refine WL.y (Y.nilCheck rfl) rfl ?_
 refine WL.y (Y.fieldAddr fo86_1 rfl) rfl ?_
 refine WL.y (Y.loadSc ty3 rfl rfl (hb12.cell 1 _ rfl)) rfl ?_
 refine WL.y (Y.assign rfl) rfl ?_
 refine WL.nil ?_
 refine At.then ?_
 refine WC.ret ?_
 obtain rfl := some1 h
 have hs13 : Stp [] (Lg.O0 A) w (Lg.O0 A) w := (Stp.refl _ _ _)
 exact At.res (.inl rfl) rfl (.tmp rfl .nil) ⟨rfl, (Stp.ext hs13 rfl rfl)⟩
theorem c_histbits_Row_Len {A : Nat → Prop} {v0_4 : Value} {v0_6 : Value} {a0 : histbits_Row} {b0 : Nat} {w : World} (hs0_4 : Sl Rep.u w A v0_4 a0.last.Pos.Counts) (hs0_6 : Sl Rep.u w A v0_6 a0.last.Neg.Counts) (hb0 : w.heap[b0]? = some (.cells (List.toArray [vi a0.n, vi a0.last.Scale, vu a0.last.Zero, vi a0.last.Pos.Offset, v0_4, vi a0.last.Neg.Offset, v0_6]) 88 (0, 0))) (hm0 : A b0) {r0 : Int} (h : histbits_Row_Len a0 = some r0) : Rets Try.prog 36 [Value.pointer (some ⟨b0, 0, none⟩)] w (fun v w' => v = vi r0 ∧ Ext w w') := by
 unfold histbits_Row_Len at h
 refine Rets.enter Try.func36 rfl rfl ?_
 have hf11 : Sl Rep.u w (imm (Lg.O0 A)) v0_4 a0.last.Pos.Counts := (Sl.start hs0_4)
 have hf12 : Sl Rep.u w (imm (Lg.O0 A)) v0_6 a0.last.Neg.Counts := (Sl.start hs0_6)
 have hb13 : Blk 0 (Lg.O0 A) w b0 88 [vi a0.n, vi a0.last.Scale, vu a0.last.Zero, vi a0.last.Pos.Offset, v0_4, vi a0.last.Neg.Offset, v0_6] := ⟨(if_pos hm0), hb0⟩
 refine (show WC _ _ _ _ [(0, Value.pointer (some ⟨b0, 0, none⟩))] _ from ?_)
 refine WC.seq ?_
 refine WC.region ?_
 refine WL.y (Y.assign rfl) rfl ?_
 refine WL.nil ?_
 refine At.then ?_
 refine WC.seq ?_
 refine WC.region ?_
 refine WL.y (Y.move rfl) rfl ?_
 refine WL.y (Y.nilCheck rfl) rfl ?_
 refine WL.y (Y.fieldAddr fo88_0 rfl) rfl ?_
 refine WL.y (Y.loadSc ty3 rfl rfl (hb13.cell 0 _ rfl)) rfl ?_
 refine WL.y (Y.assign rfl) rfl ?_
 refine WL.nil ?_
 refine At.then ?_
 refine WC.ret ?_
 obtain rfl := some1 h
 have hs14 : Stp [] (Lg.O0 A) w (Lg.O0 A) w := (Stp.refl _ _ _)
 exact At.res (.inl rfl) rfl (.tmp rfl .nil) ⟨rfl, (Stp.ext hs14 rfl rfl)⟩
theorem c_bytes_Clone {A : Nat → Prop} {a0 : List UInt8} {v0 : Value} {w : World} (hs0 : Sl Rep.b w A v0 a0) {r0 : List UInt8} (h : bytes_Clone a0 = some r0) : Rets Try.prog 75 [v0] w (fun v w' => ∃ (u0 : Value), v = u0 ∧ Ext w w' ∧ RowF Rep.b 5 w w' u0 r0) := by
  unfold bytes_Clone at h
  refine Rets.enter Try.func75 rfl rfl ?_
  refine (show WC _ _ _ _ [(0, v0)] _ from ?_)
  refine WC.seq (WC.region (WL.y (Y.assign rfl) rfl (WL.nil (At.then ?_))))
  refine WC.seq (WC.seq (WC.region ?_))
  refine WL.y (Y.move rfl) rfl ?_
  rcases hs0.nilOr with ⟨rfl, rfl⟩ | ⟨q, n, c, rfl⟩
  · refine WL.y (Y.slnil (p := none) (n := 0) (c := 0) ty60.u rfl rfl) rfl (WL.nil (At.then ?_))
    refine WC.condT rfl (WC.seq (WC.region (WL.y (Y.assign rfl) rfl (WL.nil (At.then (WC.ret (At.thenR ?_)))))))
    have : r0 = [] := by simpa [app] using h.symm
    subst this
    exact At.res (.inl rfl) rfl (.tmp rfl .nil) ⟨_, rfl, Ext.refl w, RowF.nil⟩
  · refine WL.y (Y.slnil (p := some _) ty60.u rfl rfl) rfl (WL.nil (At.then ?_))
    refine WC.condF rfl (WC.skip (At.then ?_))
    refine WC.seq (WC.region ?_)
    have hs := hs0
    refine WL.buildSlice (O := Lg.O0 A) (R := Rep.b) (vals := []) 11 [] (xs := []) (by decide) ty60 ty5 (by decide) (by decide) (Fits.evalp rfl) (by kernel_rfl) rfl rfl rfl ?_
    intro v O1 w1 hst1 ho1
    refine WL.y (Y.move rfl) rfl ?_
    have hs1 := (Sl.start hs).mono (imm_st hst1 rfl rfl)
    refine WL.append (by decide) ty60 ty5 rfl (by decide) rfl rfl ho1 hs1.src h rfl ?_
    intro v2 O2 w2 hst2 ho2
    refine WL.y (Y.assign rfl) rfl (WL.nil (At.then (WC.ret ?_)))
    have hs9 : Stp [11] (Lg.O0 A) w O2 w2 := (Stp.trans (Stp.up hst1 rfl) hst2)
    exact At.res (.inl rfl) rfl (.tmp rfl .nil) ⟨_, rfl, Stp.ext hs9 rfl rfl, OwnSl.outF ho2 hs9 low0 rfl⟩
theorem c_bitio_Writer_Bytes {A : Nat → Prop} {v0_0 : Value} {a0 : bitio_Writer} {b0 : Nat} {w : World} (hs0_0 : Sl Rep.b w A v0_0 a0.b) (hb0 : w.heap[b0]? = some (.cells (List.toArray [v0_0, vi a0.n]) 86 (0, 0))) (hm0 : A b0) {r0 : List UInt8} (h : bitio_Writer_Bytes a0 = some r0) : Rets Try.prog 52 [Value.pointer (some ⟨b0, 0, none⟩)] w (fun v w' => ∃ (u0 : Value), v = u0 ∧ Ext w w' ∧ RowF Rep.b 5 w w' u0 r0) := by
 unfold bitio_Writer_Bytes at h
 refine Rets.enter Try.func52 rfl rfl ?_
 have hf11 : Sl Rep.b w (imm (Lg.O0 A)) v0_0 a0.b := (Sl.start hs0_0)
 have hb12 : Blk 0 (Lg.O0 A) w b0 86 [v0_0, vi a0.n] := ⟨(if_pos hm0), hb0⟩
 refine (show WC _ _ _ _ [(0, Value.pointer (some ⟨b0, 0, none⟩))] _ from ?_)
 refine WC.seq ?_
 refine WC.region ?_
 refine WL.y (Y.assign rfl) rfl ?_
 refine WL.nil ?_
 refine At.then ?_
 refine WC.seq ?_
 refine WC.region ?_
 refine WL.y (Y.move rfl) rfl ?_
 refine WL.y (Y.nilCheck rfl) rfl ?_
 refine WL.y (Y.fieldAddr fo86_0 rfl) rfl ?_
 refine WL.y (Y.loadSc ty60 rfl rfl (hb12.cell 0 _ rfl)) rfl ?_
 obtain ⟨r13, hp14, h⟩ := bnd h
 refine WL.call (vals := [v0_0]) kok75 rfl rfl (c_bytes_Clone (A := fun _ => True) (Sl.all hf11) hp14) ?_
 rintro vr19 wd18 ⟨_, rfl, hm17, f16⟩
 obtain ⟨O20, hold21, hnew22, hst23⟩ := adoptE (Lg.O0 A) (fun k => if Value.ownBlock vr19 = some k then 11 else 1) hm17
 have hf24 : OwnSl 11 Rep.b 5 O20 wd18 vr19 r13 := RowF.adopt 11 Flat.b f16 hnew22 (fun k hk => if_pos hk)
 refine WL.y (Y.assign rfl) rfl ?_
 refine WL.nil ?_
 refine At.then ?_
 refine WC.ret ?_
 obtain rfl := some1 h
 have hs25 : Stp [] (Lg.O0 A) w O20 wd18 := (Stp.up hst23 rfl)
 exact At.res (.inl rfl) rfl (.tmp rfl .nil) ⟨vr19, rfl, (Stp.ext hs25 rfl rfl), (OwnSl.outF hf24 hs25 low0 rfl)⟩
theorem c_law10_awake {w : World} {r0 : Bool} (h : law10_awake = some r0) : Rets Try.prog 30 [] w (fun v w' => v = Value.bool r0 ∧ Ext w w') := by
 unfold law10_awake at h
 refine Rets.enter Try.func30 rfl rfl ?_
 refine (show WC _ _ _ _ [] _ from ?_)
 refine WC.seq ?_
 refine WC.region ?_
 refine WL.y (Y.assign rfl) rfl ?_
 refine WL.nil ?_
 refine At.then ?_
 refine WC.seq ?_
 refine WC.region ?_
 obtain ⟨r11, hp12, h⟩ := bnd h
 refine WL.call (vals := []) kok32 rfl rfl (c_bitio_NewWriter hp12) ?_
 rintro vr20 wd19 ⟨p13, u14, rfl, hm18, f15, f16, f17⟩
 obtain ⟨O21, hold22, hnew23, hst24⟩ := adoptE (Lg.O0 (fun _ => False)) (fun k => if k = p13 then 11 else if Value.ownBlock u14 = some k then 12 else 1) hm18
 have hf26 : OwnSl 12 Rep.b 5 O21 wd19 u14 r11.b := RowF.adopt 12 Flat.b f16 hnew23 (fun k hk => (if_neg (fun (e : k = p13) => f17 (e ▸ hk))).trans (if_pos hk))
 have hb25 : Blk 11 O21 wd19 p13 86 [u14, vi r11.n] := Blk.new f15 hnew23 (if_pos rfl)
 refine WL.y (Y.assign rfl) rfl ?_
 refine WL.nil ?_
 refine At.then ?_
 refine WC.seq ?_
 refine WC.region ?_
 obtain ⟨r27, hp28, h⟩ := bnd h
 refine WL.call (vals := []) kok33 rfl rfl (c_histbits_NewRow hp28) ?_
 rintro vr40 wd39 ⟨p29, u30, u31, rfl, hm38, f32, f33, f34, f35, f36, f37⟩
 obtain ⟨O41, hold42, hnew43, hst44⟩ := adoptE O21 (fun k => if k = p29 then 13 else if Value.ownBlock u30 = some k then 14 else if Value.ownBlock u31 = some k then 15 else 1) hm38
 have hf46 : OwnSl 14 Rep.u 22 O41 wd39 u30 r27.last.Pos.Counts := RowF.adopt 14 Flat.u f33 hnew43 (fun k hk => (if_neg (fun (e : k = p29) => f35 (e ▸ hk))).trans (if_pos hk))
 have hf47 : OwnSl 15 Rep.u 22 O41 wd39 u31 r27.last.Neg.Counts := RowF.adopt 15 Flat.u f34 hnew43 (fun k hk => (if_neg (fun (e : k = p29) => f36 (e ▸ hk))).trans ((if_neg (fun (e : Value.ownBlock u30 = some k) => f37 k e hk)).trans (if_pos hk)))
 have hb45 : Blk 13 O41 wd39 p29 88 [vi r27.n, vi r27.last.Scale, vu r27.last.Zero, vi r27.last.Pos.Offset, u30, vi r27.last.Neg.Offset, u31] := Blk.new f32 hnew43 (if_pos rfl)
 refine WL.y (Y.assign rfl) rfl ?_
 refine WL.nil ?_
 refine At.then ?_
 refine WC.seq ?_
 refine WC.seq ?_
 refine WC.region ?_
 refine WL.y (Y.move rfl) rfl ?_
 refine WL.y (Y.eql_nil (r := false) ty46.u rfl rfl rfl) rfl ?_
 refine WL.y (Y.move rfl) rfl ?_
 refine WL.ung rfl rfl ?_
 refine WL.y (Y.move rfl) rfl ?_
 refine WL.ung rfl rfl ?_
 refine WL.y (Y.eql_nil (r := false) ty48.u rfl rfl rfl) rfl ?_
 refine WL.y (Y.pick (b := false) rfl rfl) rfl ?_
 refine WL.y (Y.move rfl) rfl ?_
 refine WL.ung rfl rfl ?_
 refine WL.y (Y.move rfl) rfl ?_
 refine WL.ung rfl rfl ?_
 refine WL.y (Y.move rfl) rfl ?_
 refine WL.ung rfl rfl ?_
 refine WL.y (Y.build (vals := []) (cells := [vi 0, vu 0, vi 0, Value.slice none 0 0, vi 0, Value.slice none 0 0]) (Fits.evalp rfl) (by kernel_rfl)) rfl ?_
 refine WL.ung rfl rfl ?_
 have hf48 := hf26.st hst44 rfl rfl rfl
 have hf49 := hb25.st hst44 rfl
 obtain ⟨⟨r50, r51, r52⟩, hp53, h⟩ := bnd h
 refine WL.call (vals := [Value.pointer (some ⟨p29, 0, none⟩), Value.pointer (some ⟨p13, 0, none⟩), Value.agg (List.toArray [vi 0, vu 0, vi 0, Value.slice none 0 0, vi 0, Value.slice none 0 0])]) kok34 rfl rfl (c_histbits_Row_Put (A := out [13, 14, 15, 11, 12] O41) (a0 := r27) (a1 := r11) (a2 := (api_Hist.mk 0 0 (api_Side.mk 0 []) (api_Side.mk 0 []))) hf46.row hf47.row hb45.blk hf48.row hf49.blk (Or.inl ⟨rfl, rfl⟩) (Or.inl ⟨rfl, rfl⟩) (ne_lab hf46 hb45.lab rfl) (ne_lab hf47 hb45.lab rfl) (ne_blk hb45.lab hf49.lab rfl) (ne_lab hf48 hb45.lab rfl) (ne_own hf46 hf47 rfl) (ne_lab hf46 hf49.lab rfl) (ne_own hf46 hf48 rfl) (ne_lab hf47 hf49.lab rfl) (ne_own hf47 hf48 rfl) (ne_lab hf48 hf49.lab rfl) (fun k hk => ⟨out_ne hb45.lab rfl k hk, out_neV (w := wd39) hf46.labs rfl k hk, out_neV (w := wd39) hf47.labs rfl k hk, out_ne hf49.lab rfl k hk, out_neV (w := wd39) hf48.labs rfl k hk⟩) hp53) ?_
 rintro vr67 wd66 ⟨z54, z55, z56, rfl, hm65, f57, f58, f59, f60, f61, f62, f63, f64⟩
 obtain ⟨O68, hold69, hnew70, hst71⟩ := adopt O41 (fun k => if Value.ownBlock z54 = some k then 14 else if Value.ownBlock z55 = some k then 15 else if Value.ownBlock z56 = some k then 12 else 1) [13, 14, 15, 11, 12] hm65 (memOr (memB hb45.lab rfl) (memOr (memV hf46.labs rfl) (memOr (memV hf47.labs rfl) (memOr (memB hf49.lab rfl) (memV hf48.labs rfl)))))
 have ho72 : OwnSl 14 Rep.u 22 O68 wd66 z54 r51.last.Pos.Counts := RowG.adopt Flat.u hf46.labs f57 hold69 hnew70 (fun k hk => if_pos hk)
 have ho73 : OwnSl 15 Rep.u 22 O68 wd66 z55 r51.last.Neg.Counts := RowG.adopt Flat.u hf47.labs f58 hold69 hnew70 (fun k hk => (if_neg (fun (e : Value.ownBlock z54 = some k) => f62 k e hk)).trans (if_pos hk))
 have hb74 : Blk 13 O68 wd66 p29 88 [vi r51.n, vi r51.last.Scale, vu r51.last.Zero, vi r51.last.Pos.Offset, z54, vi r51.last.Neg.Offset, z55] := Blk.adopt hb45 hold69 f59
 have ho75 : OwnSl 12 Rep.b 5 O68 wd66 z56 r52.b := RowG.adopt Flat.b hf48.labs f60 hold69 hnew70 (fun k hk => (if_neg (fun (e : Value.ownBlock z54 = some k) => f63 k e hk)).trans ((if_neg (fun (e : Value.ownBlock z55 = some k) => f64 k e hk)).trans (if_pos hk)))
 have hb76 : Blk 11 O68 wd66 p13 86 [z56, vi r52.n] := Blk.adopt hf49 hold69 f61
 refine WL.ung rfl rfl ?_
 refine WL.y (Y.neq_i rfl rfl) rfl ?_
 refine WL.y (Y.pick (b := false) rfl rfl) rfl ?_
 refine WL.y (Y.move rfl) rfl ?_
 obtain ⟨p81, h, hk82⟩ := bnd h
 refine WL.cut 4 (σ := (Bool × Own)) (fun x w' => x.1 = p81 ∧ Stp [] O68 wd66 x.2 w') (fun x => [(1, Value.pointer (some ⟨p13, 0, none⟩)), (2, Value.pointer (some ⟨p29, 0, none⟩)), (22, Value.bool x.1)]) ?_ ?_
 ·rcases cnd h with ⟨hE83, h⟩ | ⟨hE83, h⟩
  ·refine WL.ren 18 rfl (congrArg Value.bool hE83) ?_
   refine WL.gS rfl rfl rfl rfl ?_
   refine WL.gS rfl rfl rfl rfl ?_
   refine WL.gS rfl rfl rfl rfl ?_
   refine WL.y (Y.pick (b := true) rfl rfl) rfl ?_
   exact WL.nil (At.join (σ := (Bool × Own)) (true, O68) ⟨some1 h, (Stp.refl _ _ _)⟩ (.cons rfl (.cons rfl (.cons rfl .nil))))
  ·refine WL.ren 18 rfl (congrArg Value.bool hE83) ?_
   refine WL.ung rfl rfl ?_
   refine WL.y (Y.move rfl) rfl ?_
   refine WL.ung rfl rfl ?_
   obtain ⟨r84, hp85, h⟩ := bnd h
   refine WL.call (vals := [Value.pointer (some ⟨p13, 0, none⟩)]) kok35 rfl rfl (c_bitio_Writer_Len (A := fun _ => True) (a0 := r52) (ho75.src.sl) hb76.blk trivial hp85) ?_
   rintro vr88 wd87 ⟨rfl, hm86⟩
   obtain ⟨O89, hold90, hnew91, hst92⟩ := adoptE O68 (fun k => 1) hm86
   refine WL.ung rfl rfl ?_
   refine WL.y (Y.neq_i rfl rfl) rfl ?_
   refine WL.y (Y.pick (b := false) rfl rfl) rfl ?_
   exact WL.nil (At.join (σ := (Bool × Own)) ((!decide (r84 = 24)), O89) ⟨some1 h, (Stp.up hst92 rfl)⟩ (.cons rfl (.cons rfl (.cons rfl .nil))))
 ·rintro ⟨x77, O78⟩ wd79 ⟨rfl, hst80⟩
  replace h := hk82
  try dsimp only at h hst80
  refine (show WL _ _ _ _ _ [(1, Value.pointer (some ⟨p13, 0, none⟩)), (2, Value.pointer (some ⟨p29, 0, none⟩)), (22, Value.bool x77)] _ from ?_)
  refine WL.y (Y.move rfl) rfl ?_
  obtain ⟨p114, h, hk115⟩ := bnd h
  refine WL.cut 6 (σ := (List UInt8 × Int × Int × Int × UInt64 × Int × List UInt64 × Int × List UInt64 × Bool × Own × Value × Value × Value)) (fun x w' => (x.1, x.2.1, x.2.2.1, x.2.2.2.1, x.2.2.2.2.1, x.2.2.2.2.2.1, x.2.2.2.2.2.2.1, x.2.2.2.2.2.2.2.1, x.2.2.2.2.2.2.2.2.1, x.2.2.2.2.2.2.2.2.2.1) = p114 ∧ Stp [11, 12, 13, 14, 15] O78 wd79 x.2.2.2.2.2.2.2.2.2.2.1 w' ∧ OwnSl 1004 Rep.b 5 x.2.2.2.2.2.2.2.2.2.2.1 w' x.2.2.2.2.2.2.2.2.2.2.2.1 x.1 ∧ Blk 11 x.2.2.2.2.2.2.2.2.2.2.1 w' p13 86 [x.2.2.2.2.2.2.2.2.2.2.2.1, vi x.2.1] ∧ OwnSl 1005 Rep.u 22 x.2.2.2.2.2.2.2.2.2.2.1 w' x.2.2.2.2.2.2.2.2.2.2.2.2.1 x.2.2.2.2.2.2.1 ∧ OwnSl 1006 Rep.u 22 x.2.2.2.2.2.2.2.2.2.2.1 w' x.2.2.2.2.2.2.2.2.2.2.2.2.2 x.2.2.2.2.2.2.2.2.1 ∧ Blk 13 x.2.2.2.2.2.2.2.2.2.2.1 w' p29 88 [vi x.2.2.1, vi x.2.2.2.1, vu x.2.2.2.2.1, vi x.2.2.2.2.2.1, x.2.2.2.2.2.2.2.2.2.2.2.2.1, vi x.2.2.2.2.2.2.2.1, x.2.2.2.2.2.2.2.2.2.2.2.2.2]) (fun x => [(1, Value.pointer (some ⟨p13, 0, none⟩)), (2, Value.pointer (some ⟨p29, 0, none⟩)), (29, Value.bool x.2.2.2.2.2.2.2.2.2.1)]) ?_ ?_
  ·rcases cnd h with ⟨hE116, h⟩ | ⟨hE116, h⟩
   ·refine WL.ren 23 rfl (congrArg Value.bool hE116) ?_
    refine WL.gS rfl rfl rfl rfl ?_
    refine WL.gS rfl rfl rfl rfl ?_
    refine WL.gS rfl rfl rfl rfl ?_
    refine WL.gS rfl rfl rfl rfl ?_
    refine WL.gS rfl rfl rfl rfl ?_
    refine WL.y (Y.pick (b := true) rfl rfl) rfl ?_
    have hf117 := ho75.st hst80 rfl rfl rfl
    obtain ⟨O118, hst119, ho120⟩ := OwnSl.rlb 1004 rfl hf117
    have hf121 := ho72.st hst80 rfl rfl rfl
    have hf122 := hf121.st hst119 rfl rfl rfl
    obtain ⟨O123, hst124, ho125⟩ := OwnSl.rlb 1005 rfl hf122
    have hf126 := ho73.st hst80 rfl rfl rfl
    have hf127 := hf126.st hst119 rfl rfl rfl
    have hf128 := hf127.st hst124 rfl rfl rfl
    obtain ⟨O129, hst130, ho131⟩ := OwnSl.rlb 1006 rfl hf128
    have hf132 := ho120.st hst124 rfl rfl rfl
    have hf133 := hf132.st hst130 rfl rfl rfl
    have hf134 := hb76.st hst80 rfl
    have hf135 := hf134.st hst119 rfl
    have hf136 := hf135.st hst124 rfl
    have hf137 := hf136.st hst130 rfl
    have hf138 := ho125.st hst130 rfl rfl rfl
    have hf139 := hb74.st hst80 rfl
    have hf140 := hf139.st hst119 rfl
    have hf141 := hf140.st hst124 rfl
    have hf142 := hf141.st hst130 rfl
    exact WL.nil (At.join (σ := (List UInt8 × Int × Int × Int × UInt64 × Int × List UInt64 × Int × List UInt64 × Bool × Own × Value × Value × Value)) (r52.b, r52.n, r51.n, r51.last.Scale, r51.last.Zero, r51.last.Pos.Offset, r51.last.Pos.Counts, r51.last.Neg.Offset, r51.last.Neg.Counts, true, O129, z56, z54, z55) ⟨some1 h, (Stp.trans (Stp.up hst119 rfl) (Stp.trans (Stp.up hst124 rfl) (Stp.up hst130 rfl))), hf133, hf137, hf138, ho131, hf142⟩ (.cons rfl (.cons rfl (.cons rfl .nil))))
   ·refine WL.ren 23 rfl (congrArg Value.bool hE116) ?_
    refine WL.ung rfl rfl ?_
    refine WL.y (Y.move rfl) rfl ?_
    refine WL.ung rfl rfl ?_
    refine WL.y (Y.move rfl) rfl ?_
    refine WL.ung rfl rfl ?_
    refine WL.y (Y.build (vals := []) (cells := [vi 0, vu 0, vi 0, Value.slice none 0 0, vi 0, Value.slice none 0 0]) (Fits.evalp rfl) (by kernel_rfl)) rfl ?_
    refine WL.ung rfl rfl ?_
    have hf143 := ho72.st hst80 rfl rfl rfl
    have hf144 := ho73.st hst80 rfl rfl rfl
    have hf145 := ho75.st hst80 rfl rfl rfl
    have hf146 := hb74.st hst80 rfl
    have hf147 := hb76.st hst80 rfl
    obtain ⟨⟨r148, r149, r150⟩, hp151, h⟩ := bnd h
    refine WL.call (vals := [Value.pointer (some ⟨p29, 0, none⟩), Value.pointer (some ⟨p13, 0, none⟩), Value.agg (List.toArray [vi 0, vu 0, vi 0, Value.slice none 0 0, vi 0, Value.slice none 0 0])]) kok34 rfl rfl (c_histbits_Row_Put (A := out [13, 14, 15, 11, 12] O78) (a0 := r51) (a1 := r52) (a2 := (api_Hist.mk 0 0 (api_Side.mk 0 []) (api_Side.mk 0 []))) hf143.row hf144.row hf146.blk hf145.row hf147.blk (Or.inl ⟨rfl, rfl⟩) (Or.inl ⟨rfl, rfl⟩) (ne_lab hf143 hf146.lab rfl) (ne_lab hf144 hf146.lab rfl) (ne_blk hf146.lab hf147.lab rfl) (ne_lab hf145 hf146.lab rfl) (ne_own hf143 hf144 rfl) (ne_lab hf143 hf147.lab rfl) (ne_own hf143 hf145 rfl) (ne_lab hf144 hf147.lab rfl) (ne_own hf144 hf145 rfl) (ne_lab hf145 hf147.lab rfl) (fun k hk => ⟨out_ne hf146.lab rfl k hk, out_neV (w := wd79) hf143.labs rfl k hk, out_neV (w := wd79) hf144.labs rfl k hk, out_ne hf147.lab rfl k hk, out_neV (w := wd79) hf145.labs rfl k hk⟩) hp151) ?_
    rintro vr165 wd164 ⟨z152, z153, z154, rfl, hm163, f155, f156, f157, f158, f159, f160, f161, f162⟩
    obtain ⟨O166, hold167, hnew168, hst169⟩ := adopt O78 (fun k => if Value.ownBlock z152 = some k then 14 else if Value.ownBlock z153 = some k then 15 else if Value.ownBlock z154 = some k then 12 else 1) [13, 14, 15, 11, 12] hm163 (memOr (memB hf146.lab rfl) (memOr (memV hf143.labs rfl) (memOr (memV hf144.labs rfl) (memOr (memB hf147.lab rfl) (memV hf145.labs rfl)))))
    have ho170 : OwnSl 14 Rep.u 22 O166 wd164 z152 r149.last.Pos.Counts := RowG.adopt Flat.u hf143.labs f155 hold167 hnew168 (fun k hk => if_pos hk)
    have ho171 : OwnSl 15 Rep.u 22 O166 wd164 z153 r149.last.Neg.Counts := RowG.adopt Flat.u hf144.labs f156 hold167 hnew168 (fun k hk => (if_neg (fun (e : Value.ownBlock z152 = some k) => f160 k e hk)).trans (if_pos hk))
    have hb172 : Blk 13 O166 wd164 p29 88 [vi r149.n, vi r149.last.Scale, vu r149.last.Zero, vi r149.last.Pos.Offset, z152, vi r149.last.Neg.Offset, z153] := Blk.adopt hf146 hold167 f157
    have ho173 : OwnSl 12 Rep.b 5 O166 wd164 z154 r150.b := RowG.adopt Flat.b hf145.labs f158 hold167 hnew168 (fun k hk => (if_neg (fun (e : Value.ownBlock z152 = some k) => f161 k e hk)).trans ((if_neg (fun (e : Value.ownBlock z153 = some k) => f162 k e hk)).trans (if_pos hk)))
    have hb174 : Blk 11 O166 wd164 p13 86 [z154, vi r150.n] := Blk.adopt hf147 hold167 f159
    refine WL.ung rfl rfl ?_
    refine WL.y (Y.neq_i rfl rfl) rfl ?_
    refine WL.y (Y.pick (b := false) rfl rfl) rfl ?_
    obtain ⟨O175, hst176, ho177⟩ := OwnSl.rlb 1004 rfl ho173
    have hf178 := ho170.st hst176 rfl rfl rfl
    obtain ⟨O179, hst180, ho181⟩ := OwnSl.rlb 1005 rfl hf178
    have hf182 := ho171.st hst176 rfl rfl rfl
    have hf183 := hf182.st hst180 rfl rfl rfl
    obtain ⟨O184, hst185, ho186⟩ := OwnSl.rlb 1006 rfl hf183
    have hf187 := ho177.st hst180 rfl rfl rfl
    have hf188 := hf187.st hst185 rfl rfl rfl
    have hf189 := hb174.st hst176 rfl
    have hf190 := hf189.st hst180 rfl
    have hf191 := hf190.st hst185 rfl
    have hf192 := ho181.st hst185 rfl rfl rfl
    have hf193 := hb172.st hst176 rfl
    have hf194 := hf193.st hst180 rfl
    have hf195 := hf194.st hst185 rfl
    exact WL.nil (At.join (σ := (List UInt8 × Int × Int × Int × UInt64 × Int × List UInt64 × Int × List UInt64 × Bool × Own × Value × Value × Value)) (r150.b, r150.n, r149.n, r149.last.Scale, r149.last.Zero, r149.last.Pos.Offset, r149.last.Pos.Counts, r149.last.Neg.Offset, r149.last.Neg.Counts, (!decide (r148 = 0)), O184, z154, z152, z153) ⟨some1 h, (Stp.trans (Stp.up hst169 rfl) (Stp.trans (Stp.up hst176 rfl) (Stp.trans (Stp.up hst180 rfl) (Stp.up hst185 rfl)))), hf188, hf191, hf192, ho186, hf195⟩ (.cons rfl (.cons rfl (.cons rfl .nil))))
  ·rintro ⟨c94, c97, c99, c100, c101, c102, c103, c106, c107, x110, O111, v95, v104, v108⟩ wd112 ⟨rfl, hst113, hf96, hb93, hf105, hf109, hb98⟩
   replace h := hk115
   try dsimp only at h hst113 hf96 hb93 hf105 hf109 hb98
   refine (show WL _ _ _ _ _ [(1, Value.pointer (some ⟨p13, 0, none⟩)), (2, Value.pointer (some ⟨p29, 0, none⟩)), (29, Value.bool x110)] _ from ?_)
   refine WL.nil ?_
   refine At.then ?_
   rcases cnd h with ⟨hc196, h⟩ | ⟨hc196, h⟩
   ·refine WC.condT' rfl hc196 ?_
    refine WC.seq ?_
    refine WC.region ?_
    refine WL.y (Y.assign rfl) rfl ?_
    refine WL.nil ?_
    refine At.then ?_
    refine WC.ret ?_
    refine At.thenR ?_
    obtain rfl := some1 h
    have hs197 : Stp [11, 12, 13, 14, 15] (Lg.O0 (fun _ => False)) w O111 wd112 := (Stp.trans (Stp.up hst24 rfl) (Stp.trans (Stp.up hst44 rfl) (Stp.trans (Stp.up hst71 rfl) (Stp.trans (Stp.up hst80 rfl) (Stp.up hst113 rfl)))))
    exact At.res (.inl rfl) rfl (.tmp rfl .nil) ⟨rfl, (Stp.ext hs197 rfl rfl)⟩
   ·refine WC.condF' rfl hc196 ?_
    refine WC.skip ?_
    refine At.then ?_
    refine WC.seq ?_
    refine WC.region ?_
    refine WL.y (Y.move rfl) rfl ?_
    obtain ⟨r198, hp199, h⟩ := bnd h
    refine WL.call (vals := [Value.pointer (some ⟨p13, 0, none⟩)]) kok35 rfl rfl (c_bitio_Writer_Len (A := fun _ => True) (a0 := (bitio_Writer.mk c94 c97)) (hf96.src.sl) hb93.blk trivial hp199) ?_
    rintro vr202 wd201 ⟨rfl, hm200⟩
    obtain ⟨O203, hold204, hnew205, hst206⟩ := adoptE O111 (fun k => 1) hm200
    refine WL.y (Y.eql_i rfl rfl) rfl ?_
    refine WL.y (Y.move rfl) rfl ?_
    obtain ⟨p211, h, hk212⟩ := bnd h
    refine WL.cut 4 (σ := (Bool × Own)) (fun x w' => x.1 = p211 ∧ Stp [] O203 wd201 x.2 w') (fun x => [(1, Value.pointer (some ⟨p13, 0, none⟩)), (2, Value.pointer (some ⟨p29, 0, none⟩)), (37, Value.bool x.1)]) ?_ ?_
    ·rcases cnd h with ⟨hE213, h⟩ | ⟨hE213, h⟩
     ·refine WL.ren 33 rfl (congrArg Value.bool hE213) ?_
      refine WL.ung rfl rfl ?_
      refine WL.y (Y.move rfl) rfl ?_
      refine WL.ung rfl rfl ?_
      have hf214 := hb98.st hst206 rfl
      have hf215 := hf105.st hst206 rfl rfl rfl
      have hf216 := hf109.st hst206 rfl rfl rfl
      obtain ⟨r217, hp218, h⟩ := bnd h
      refine WL.call (vals := [Value.pointer (some ⟨p29, 0, none⟩)]) kok36 rfl rfl (c_histbits_Row_Len (A := fun _ => True) (a0 := (histbits_Row.mk c99 (api_Hist.mk c100 c101 (api_Side.mk c102 c103) (api_Side.mk c106 c107)))) (hf215.src.sl) (hf216.src.sl) hf214.blk trivial hp218) ?_
      rintro vr221 wd220 ⟨rfl, hm219⟩
      obtain ⟨O222, hold223, hnew224, hst225⟩ := adoptE O203 (fun k => 1) hm219
      refine WL.ung rfl rfl ?_
      refine WL.y (Y.eql_i rfl rfl) rfl ?_
      refine WL.y (Y.pick (b := true) rfl rfl) rfl ?_
      exact WL.nil (At.join (σ := (Bool × Own)) (decide (r217 = 2), O222) ⟨some1 h, (Stp.up hst225 rfl)⟩ (.cons rfl (.cons rfl (.cons rfl .nil))))
     ·refine WL.ren 33 rfl (congrArg Value.bool hE213) ?_
      refine WL.gS rfl rfl rfl rfl ?_
      refine WL.gS rfl rfl rfl rfl ?_
      refine WL.gS rfl rfl rfl rfl ?_
      refine WL.y (Y.pick (b := false) rfl rfl) rfl ?_
      exact WL.nil (At.join (σ := (Bool × Own)) (false, O203) ⟨some1 h, (Stp.refl _ _ _)⟩ (.cons rfl (.cons rfl (.cons rfl .nil))))
    ·rintro ⟨x207, O208⟩ wd209 ⟨rfl, hst210⟩
     replace h := hk212
     try dsimp only at h hst210
     refine (show WL _ _ _ _ _ [(1, Value.pointer (some ⟨p13, 0, none⟩)), (2, Value.pointer (some ⟨p29, 0, none⟩)), (37, Value.bool x207)] _ from ?_)
     refine WL.y (Y.move rfl) rfl ?_
     obtain ⟨p230, h, hk231⟩ := bnd h
     refine WL.cut 5 (σ := (Bool × Own)) (fun x w' => x.1 = p230 ∧ Stp [] O208 wd209 x.2 w') (fun x => [(1, Value.pointer (some ⟨p13, 0, none⟩)), (2, Value.pointer (some ⟨p29, 0, none⟩)), (43, Value.bool x.1)]) ?_ ?_
     ·rcases cnd h with ⟨hE232, h⟩ | ⟨hE232, h⟩
      ·refine WL.ren 38 rfl (congrArg Value.bool hE232) ?_
       refine WL.ung rfl rfl ?_
       refine WL.y (Y.move rfl) rfl ?_
       refine WL.ung rfl rfl ?_
       have hf233 := hb93.st hst206 rfl
       have hf234 := hf233.st hst210 rfl
       have hf235 := hf96.st hst206 rfl rfl rfl
       have hf236 := hf235.st hst210 rfl rfl rfl
       obtain ⟨r237, hp238, h⟩ := bnd h
       refine WL.call (vals := [Value.pointer (some ⟨p13, 0, none⟩)]) kok52 rfl rfl (c_bitio_Writer_Bytes (A := fun _ => True) (a0 := (bitio_Writer.mk c94 c97)) (hf236.src.sl) hf234.blk trivial hp238) ?_
       rintro vr243 wd242 ⟨_, rfl, hm241, f240⟩
       obtain ⟨O244, hold245, hnew246, hst247⟩ := adoptE O208 (fun k => if Value.ownBlock vr243 = some k then 16 else 1) hm241
       have hf248 : OwnSl 16 Rep.b 5 O244 wd242 vr243 r237 := RowF.adopt 16 Flat.b f240 hnew246 (fun k hk => if_pos hk)
       refine WL.ung rfl rfl ?_
       refine WL.y (Y.b2s ty60 ty5 ty9 rfl hf248.src.sl) rfl ?_
       refine WL.ung rfl rfl ?_
       refine WL.y (Y.eql_s (b := [40, 0, 0, 128]) rfl rfl) rfl ?_
       refine WL.y (Y.pick (b := true) rfl rfl) rfl ?_
       exact WL.nil (At.join (σ := (Bool × Own)) (decide (r237 = [40, 0, 0, 128]), O244) ⟨some1 h, (Stp.up hst247 rfl)⟩ (.cons rfl (.cons rfl (.cons rfl .nil))))
      ·refine WL.ren 38 rfl (congrArg Value.bool hE232) ?_
       refine WL.gS rfl rfl rfl rfl ?_
       refine WL.gS rfl rfl rfl rfl ?_
       refine WL.gS rfl rfl rfl rfl ?_
       refine WL.gS rfl rfl rfl rfl ?_
       refine WL.y (Y.pick (b := false) rfl rfl) rfl ?_
       exact WL.nil (At.join (σ := (Bool × Own)) (false, O208) ⟨some1 h, (Stp.refl _ _ _)⟩ (.cons rfl (.cons rfl (.cons rfl .nil))))
     ·rintro ⟨x226, O227⟩ wd228 ⟨rfl, hst229⟩
      replace h := hk231
      try dsimp only at h hst229
      refine (show WL _ _ _ _ _ [(1, Value.pointer (some ⟨p13, 0, none⟩)), (2, Value.pointer (some ⟨p29, 0, none⟩)), (43, Value.bool x226)] _ from ?_)
      refine WL.y (Y.move rfl) rfl ?_
      obtain ⟨p253, h, hk254⟩ := bnd h
      refine WL.cut 6 (σ := (Bool × Own)) (fun x w' => x.1 = p253 ∧ Stp [11, 13, 1004, 1005, 1006] O227 wd228 x.2 w') (fun x => [(50, Value.bool x.1)]) ?_ ?_
      ·rcases cnd h with ⟨hE255, h⟩ | ⟨hE255, h⟩
       ·refine WL.ren 44 rfl (congrArg Value.bool hE255) ?_
        refine WL.ung rfl rfl ?_
        refine WL.y (Y.move rfl) rfl ?_
        refine WL.ung rfl rfl ?_
        refine WL.y (Y.move rfl) rfl ?_
        refine WL.ung rfl rfl ?_
        refine WL.y (Y.build (vals := [(0, vi 99)]) (cells := [vi 99, vu 0, vi 0, Value.slice none 0 0, vi 0, Value.slice none 0 0]) (Fits.evalp rfl) (by kernel_rfl)) rfl ?_
        refine WL.ung rfl rfl ?_
        have hf256 := hf105.st hst206 rfl rfl rfl
        have hf257 := hf256.st hst210 rfl rfl rfl
        have hf258 := hf257.st hst229 rfl rfl rfl
        have hf259 := hf109.st hst206 rfl rfl rfl
        have hf260 := hf259.st hst210 rfl rfl rfl
        have hf261 := hf260.st hst229 rfl rfl rfl
        have hf262 := hf96.st hst206 rfl rfl rfl
        have hf263 := hf262.st hst210 rfl rfl rfl
        have hf264 := hf263.st hst229 rfl rfl rfl
        have hf265 := hb98.st hst206 rfl
        have hf266 := hf265.st hst210 rfl
        have hf267 := hf266.st hst229 rfl
        have hf268 := hb93.st hst206 rfl
        have hf269 := hf268.st hst210 rfl
        have hf270 := hf269.st hst229 rfl
        obtain ⟨⟨r271, r272, r273⟩, hp274, h⟩ := bnd h
        refine WL.call (vals := [Value.pointer (some ⟨p29, 0, none⟩), Value.pointer (some ⟨p13, 0, none⟩), Value.agg (List.toArray [vi 99, vu 0, vi 0, Value.slice none 0 0, vi 0, Value.slice none 0 0])]) kok34 rfl rfl (c_histbits_Row_Put (A := out [13, 1005, 1006, 11, 1004] O227) (a0 := (histbits_Row.mk c99 (api_Hist.mk c100 c101 (api_Side.mk c102 c103) (api_Side.mk c106 c107)))) (a1 := (bitio_Writer.mk c94 c97)) (a2 := (api_Hist.mk 99 0 (api_Side.mk 0 []) (api_Side.mk 0 []))) hf258.row hf261.row hf267.blk hf264.row hf270.blk (Or.inl ⟨rfl, rfl⟩) (Or.inl ⟨rfl, rfl⟩) (ne_lab hf258 hf267.lab rfl) (ne_lab hf261 hf267.lab rfl) (ne_blk hf267.lab hf270.lab rfl) (ne_lab hf264 hf267.lab rfl) (ne_own hf258 hf261 rfl) (ne_lab hf258 hf270.lab rfl) (ne_own hf258 hf264 rfl) (ne_lab hf261 hf270.lab rfl) (ne_own hf261 hf264 rfl) (ne_lab hf264 hf270.lab rfl) (fun k hk => ⟨out_ne hf267.lab rfl k hk, out_neV (w := wd228) hf258.labs rfl k hk, out_neV (w := wd228) hf261.labs rfl k hk, out_ne hf270.lab rfl k hk, out_neV (w := wd228) hf264.labs rfl k hk⟩) hp274) ?_
        rintro vr288 wd287 ⟨z275, z276, z277, rfl, hm286, f278, f279, f280, f281, f282, f283, f284, f285⟩
        obtain ⟨O289, hold290, hnew291, hst292⟩ := adopt O227 (fun k => if Value.ownBlock z275 = some k then 1005 else if Value.ownBlock z276 = some k then 1006 else if Value.ownBlock z277 = some k then 1004 else 1) [13, 1005, 1006, 11, 1004] hm286 (memOr (memB hf267.lab rfl) (memOr (memV hf258.labs rfl) (memOr (memV hf261.labs rfl) (memOr (memB hf270.lab rfl) (memV hf264.labs rfl)))))
        have ho293 : OwnSl 1005 Rep.u 22 O289 wd287 z275 r272.last.Pos.Counts := RowG.adopt Flat.u hf258.labs f278 hold290 hnew291 (fun k hk => if_pos hk)
        have ho294 : OwnSl 1006 Rep.u 22 O289 wd287 z276 r272.last.Neg.Counts := RowG.adopt Flat.u hf261.labs f279 hold290 hnew291 (fun k hk => (if_neg (fun (e : Value.ownBlock z275 = some k) => f283 k e hk)).trans (if_pos hk))
        have hb295 : Blk 13 O289 wd287 p29 88 [vi r272.n, vi r272.last.Scale, vu r272.last.Zero, vi r272.last.Pos.Offset, z275, vi r272.last.Neg.Offset, z276] := Blk.adopt hf267 hold290 f280
        have ho296 : OwnSl 1004 Rep.b 5 O289 wd287 z277 r273.b := RowG.adopt Flat.b hf264.labs f281 hold290 hnew291 (fun k hk => (if_neg (fun (e : Value.ownBlock z275 = some k) => f284 k e hk)).trans ((if_neg (fun (e : Value.ownBlock z276 = some k) => f285 k e hk)).trans (if_pos hk)))
        have hb297 : Blk 11 O289 wd287 p13 86 [z277, vi r273.n] := Blk.adopt hf270 hold290 f282
        refine WL.ung rfl rfl ?_
        refine WL.y (Y.eql_i rfl rfl) rfl ?_
        refine WL.y (Y.pick (b := true) rfl rfl) rfl ?_
        exact WL.nil (At.join (σ := (Bool × Own)) (decide (r271 = 1), O289) ⟨some1 h, (Stp.up hst292 rfl)⟩ (.cons rfl .nil))
       ·refine WL.ren 44 rfl (congrArg Value.bool hE255) ?_
        refine WL.gS rfl rfl rfl rfl ?_
        refine WL.gS rfl rfl rfl rfl ?_
        refine WL.gS rfl rfl rfl rfl ?_
        refine WL.gS rfl rfl rfl rfl ?_
        refine WL.gS rfl rfl rfl rfl ?_
        refine WL.y (Y.pick (b := false) rfl rfl) rfl ?_
        exact WL.nil (At.join (σ := (Bool × Own)) (false, O227) ⟨some1 h, (Stp.refl _ _ _)⟩ (.cons rfl .nil))
      ·rintro ⟨x249, O250⟩ wd251 ⟨rfl, hst252⟩
       replace h := hk254
       try dsimp only at h hst252
       refine (show WL _ _ _ _ _ [(50, Value.bool x249)] _ from ?_)
       refine WL.y (Y.assign rfl) rfl ?_
       refine WL.nil ?_
       refine At.then ?_
       refine WC.ret ?_
       obtain rfl := some1 h
       have hs298 : Stp [11, 12, 13, 14, 15, 1004, 1005, 1006] (Lg.O0 (fun _ => False)) w O250 wd251 := (Stp.trans (Stp.up hst24 rfl) (Stp.trans (Stp.up hst44 rfl) (Stp.trans (Stp.up hst71 rfl) (Stp.trans (Stp.up hst80 rfl) (Stp.trans (Stp.up hst113 rfl) (Stp.trans (Stp.up hst206 rfl) (Stp.trans (Stp.up hst210 rfl) (Stp.trans (Stp.up hst229 rfl) (Stp.up hst252 rfl)))))))))
       exact At.res (.inl rfl) rfl (.tmp rfl .nil) ⟨rfl, (Stp.ext hs298 rfl rfl)⟩
theorem c_law10_some {A : Nat → Prop} {a0 : List api_Hist} {v0 : Value} {w : World} (hs0 : Sl rep_api_Hist w A v0 a0) {r0 : Bool} (h : law10_some a0 = some r0) : Rets Try.prog 31 [v0] w (fun v w' => v = Value.bool r0 ∧ Ext w w') := by
 unfold law10_some at h
 refine Rets.enter Try.func31 rfl rfl ?_
 have hf11 : Sl rep_api_Hist w (imm (Lg.O0 A)) v0 a0 := (Sl.start hs0)
 refine (show WC _ _ _ _ [(0, v0)] _ from ?_)
 refine WC.seq ?_
 refine WC.region ?_
 refine WL.y (Y.assign rfl) rfl ?_
 refine WL.nil ?_
 refine At.then ?_
 refine WC.seq ?_
 refine WC.seq ?_
 refine WC.region ?_
 refine WL.y (Y.move rfl) rfl ?_
 refine WL.y (Y.len ty45 rfl hf11) rfl ?_
 refine WL.y (Y.gtr_i rfl rfl) rfl ?_
 refine WL.nil ?_
 refine At.then ?_
 rcases cnd h with ⟨hc12, h⟩ | ⟨hc12, h⟩
 ·refine WC.condT' rfl hc12 ?_
  refine WC.seq ?_
  refine WC.region ?_
  refine WL.y (Y.assign rfl) rfl ?_
  refine WL.nil ?_
  refine At.then ?_
  refine WC.ret ?_
  refine At.thenR ?_
  obtain rfl := some1 h
  have hs13 : Stp [] (Lg.O0 A) w (Lg.O0 A) w := (Stp.refl _ _ _)
  exact At.res (.inl rfl) rfl (.tmp rfl .nil) ⟨rfl, (Stp.ext hs13 rfl rfl)⟩
 ·refine WC.condF' rfl hc12 ?_
  refine WC.skip ?_
  refine At.then ?_
  refine WC.seq ?_
  refine WC.seq ?_
  refine WC.region ?_
  refine WL.y (Y.assign rfl) rfl ?_
  refine WL.nil ?_
  refine At.then ?_
  refine WC.block ?_
  obtain ⟨p15, h, hk17⟩ := flow1 h
  obtain ⟨k16, h⟩ := loop_some h
  refine WC.joinB 0 (σ := Unit) (fun x w' => p15 = .go () ∧ w = w') (fun x => []) ?_ ?_
  ·refine WC.loop (σ := Int) (fun x k w' => loopN k (law10_some_lp1 a0) x = some p15 ∧ w = w') (fun x => [(0, v0), (3, vi x)]) 0 k16 (.cons rfl (.cons rfl .nil)) ⟨h, rfl⟩ ?_
   rintro i14 k16 _ ⟨h, rfl⟩
   obtain ⟨j18, q19, rfl, h, hn20⟩ := rnd1 h
   unfold law10_some_lp1 at h
   try dsimp only at h
   refine (show WC _ _ _ _ [(0, v0), (3, vi i14)] _ from ?_)
   refine WC.seq ?_
   refine WC.seq ?_
   refine WC.region ?_
   refine WL.y (Y.move rfl) rfl ?_
   refine WL.y (Y.move rfl) rfl ?_
   refine WL.y (Y.len ty45 rfl hf11) rfl ?_
   refine WL.y (Y.lss_i rfl rfl) rfl ?_
   refine WL.nil ?_
   refine At.then ?_
   rcases cnd h with ⟨hc21, h⟩ | ⟨hc21, h⟩
   ·refine WC.condT' rfl hc21 ?_
    refine WC.skip ?_
    refine At.then ?_
    refine WC.seq ?_
    refine WC.block ?_
    refine WC.seq ?_
    refine WC.region ?_
    refine WL.y (Y.move rfl) rfl ?_
    refine WL.y (Y.move rfl) rfl ?_
    obtain ⟨e22, he22, h⟩ := bnd h
    obtain ⟨b23, off35, cap30, cs29, hv24, hi25, hl26, hc27, hok28, hA36⟩ := Sl.at2 hf11 he22
    obtain ⟨_, _, rfl, rfl, ⟨_, _, rfl, rfl, ⟨_, _, rfl, ⟨_, _, rfl, rfl, ⟨v31, rfl, hf32⟩⟩, ⟨_, _, rfl, rfl, ⟨v33, rfl, hf34⟩⟩⟩⟩⟩ := hok28
    replace hc27 : CellsAt _ _ _ [vi e22.Scale, vu e22.Zero, vi e22.Pos.Offset, v31, vi e22.Neg.Offset, v33] := hc27
    have hca37 := CAt.imm hc27 hA36
    refine WL.y (Y.indexAddr ty45 ty27 rfl hv24 rfl hi25 hl26) rfl ?_
    refine WL.y (Y.fieldAddr fo27_2 rfl) rfl ?_
    refine WL.y (Y.fieldAddr fo25_1 rfl) rfl ?_
    refine WL.y (Y.loadSc ty23 rfl rfl (hca37.at_.sub 3 [v31] rfl)) rfl ?_
    refine WL.y (Y.len ty23 rfl hf32) rfl ?_
    refine WL.y (Y.gtr_i rfl rfl) rfl ?_
    refine WL.y (Y.move rfl) rfl ?_
    obtain ⟨p39, h, hk40⟩ := bnd h
    refine WL.cut 9 (σ := Bool) (fun x w' => x = p39 ∧ w = w') (fun x => [(0, v0), (3, vi i14), (30, Value.bool x)]) ?_ ?_
    ·rcases cnd h with ⟨hE41, h⟩ | ⟨hE41, h⟩
     ·refine WL.ren 21 rfl (congrArg Value.bool hE41) ?_
      refine WL.gS rfl rfl rfl rfl ?_
      refine WL.gS rfl rfl rfl rfl ?_
      refine WL.gS rfl rfl rfl rfl ?_
      refine WL.gS rfl rfl rfl rfl ?_
      refine WL.gS rfl rfl rfl rfl ?_
      refine WL.gS rfl rfl rfl rfl ?_
      refine WL.gS rfl rfl rfl rfl ?_
      refine WL.gS rfl rfl rfl rfl ?_
      refine WL.y (Y.pick (b := true) rfl rfl) rfl ?_
      exact WL.nil (At.join (σ := Bool) true ⟨some1 h, rfl⟩ (.cons rfl (.cons rfl (.cons rfl .nil))))
     ·refine WL.ren 21 rfl (congrArg Value.bool hE41) ?_
      refine WL.ung rfl rfl ?_
      refine WL.y (Y.move rfl) rfl ?_
      refine WL.ung rfl rfl ?_
      refine WL.y (Y.move rfl) rfl ?_
      refine WL.ung rfl rfl ?_
      obtain ⟨e42, he42, h⟩ := bnd h
      obtain ⟨b43, off55, cap50, cs49, hv44, hi45, hl46, hc47, hok48, hA56⟩ := Sl.at2 hf11 he42
      obtain ⟨_, _, rfl, rfl, ⟨_, _, rfl, rfl, ⟨_, _, rfl, ⟨_, _, rfl, rfl, ⟨v51, rfl, hf52⟩⟩, ⟨_, _, rfl, rfl, ⟨v53, rfl, hf54⟩⟩⟩⟩⟩ := hok48
      replace hc47 : CellsAt _ _ _ [vi e42.Scale, vu e42.Zero, vi e42.Pos.Offset, v51, vi e42.Neg.Offset, v53] := hc47
      have hca57 := CAt.imm hc47 hA56
      refine WL.y (Y.indexAddr ty45 ty27 rfl hv44 rfl hi45 hl46) rfl ?_
      refine WL.ung rfl rfl ?_
      refine WL.y (Y.fieldAddr fo27_3 rfl) rfl ?_
      refine WL.ung rfl rfl ?_
      refine WL.y (Y.fieldAddr fo25_1 rfl) rfl ?_
      refine WL.ung rfl rfl ?_
      refine WL.y (Y.loadSc ty23 rfl rfl (hca57.at_.sub 5 [v53] rfl)) rfl ?_
      refine WL.ung rfl rfl ?_
      refine WL.y (Y.len ty23 rfl hf54) rfl ?_
      refine WL.ung rfl rfl ?_
      refine WL.y (Y.gtr_i rfl rfl) rfl ?_
      refine WL.y (Y.pick (b := false) rfl rfl) rfl ?_
      exact WL.nil (At.join (σ := Bool) (decide (170 < (e42.Neg.Counts.length : Int))) ⟨some1 h, rfl⟩ (.cons rfl (.cons rfl (.cons rfl .nil))))
    ·rintro x38 _ ⟨rfl, rfl⟩
     replace h := hk40
     try dsimp only at h
     refine (show WL _ _ _ _ _ [(0, v0), (3, vi i14), (30, Value.bool x38)] _ from ?_)
     refine WL.nil ?_
     refine At.then ?_
     rcases cnd h with ⟨hc58, h⟩ | ⟨hc58, h⟩
     ·refine WC.condT' rfl hc58 ?_
      refine WC.seq ?_
      refine WC.region ?_
      refine WL.y (Y.assign rfl) rfl ?_
      refine WL.nil ?_
      refine At.then ?_
      refine WC.ret ?_
      refine At.inBlockR ?_
      refine At.thenR ?_
      refine At.loopR ?_
      have h := outr1 h hn20 hk17
      refine At.joinBR ?_
      refine At.inBlockR ?_
      refine At.thenR ?_
      obtain rfl := some1 h
      have hs59 : Stp [] (Lg.O0 A) w (Lg.O0 A) w := (Stp.refl _ _ _)
      exact At.res (.inl rfl) rfl (.tmp rfl .nil) ⟨rfl, (Stp.ext hs59 rfl rfl)⟩
     ·refine WC.condF' rfl hc58 ?_
      refine WC.skip ?_
      refine At.inBlock ?_
      refine At.then ?_
      refine WC.region ?_
      refine WL.y (Y.move rfl) rfl ?_
      refine WL.y (Y.add_i rfl rfl) rfl ?_
      obtain ⟨i60, hi60, h⟩ := lt1 h
      refine WL.yE (Y.assign rfl) (congrArg vi hi60.symm) rfl ?_
      refine WL.nil ?_
      exact At.round i60 j18 (Nat.lt_succ_self _) ⟨next1 h hn20, rfl⟩ (.cons rfl (.cons rfl .nil))
   ·refine WC.condF' rfl hc21 ?_
    refine WC.exit ?_
    refine At.thenX ?_
    refine At.loopX ?_
    exact At.hitB (σ := Unit) () ⟨brk1 h hn20, rfl⟩ .nil
  ·rintro _ _ ⟨rfl, rfl⟩
   replace h := flowK_go hk17
   refine (show At _ _ _ [] _ from ?_)
   refine At.inBlockHit ?_
   refine At.then ?_
   refine WC.seq ?_
   refine WC.region ?_
   refine WL.y (Y.assign rfl) rfl ?_
   refine WL.nil ?_
   refine At.then ?_
   refine WC.ret ?_
   obtain rfl := some1 h
   have hs61 : Stp [] (Lg.O0 A) w (Lg.O0 A) w := (Stp.refl _ _ _)
   exact At.res (.inl rfl) rfl (.tmp rfl .nil) ⟨rfl, (Stp.ext hs61 rfl rfl)⟩
theorem c_bitio_NewReader {A : Nat → Prop} {a0 : List UInt8} {v0 : Value} {a1 : Int} {w : World} (hs0 : Sl Rep.b w A v0 a0) {r0 : Option bitio_Reader} {r1 : Int} (h : bitio_NewReader a0 a1 = some (r0, r1)) : Rets Try.prog 47 [v0, vi a1] w (fun v w' => ∃ (u0 : Value), v = Value.tuple (List.toArray [u0, vi r1]) ∧ Ext w w' ∧ OptP u0 r0 fun d => ∃ (p0 : Nat) (u0_0 : Value), u0 = .pointer (some ⟨p0, 0, none⟩) ∧ (w'.heap[p0]? = some (.cells (List.toArray [u0_0, vi d.n, vi d.at_]) 107 (0, 0)) ∧ w.heap.size ≤ p0) ∧ Sl Rep.b w' (fun k => w.heap.size ≤ k ∧ k ≠ p0) u0_0 d.b) := by
 unfold bitio_NewReader at h
 refine Rets.enter Try.func47 rfl rfl ?_
 have hf11 : Sl Rep.b w (imm (Lg.O0 A)) v0 a0 := (Sl.start hs0)
 refine (show WC _ _ _ _ [(0, v0), (1, vi a1)] _ from ?_)
 refine WC.seq ?_
 refine WC.region ?_
 refine WL.y (Y.assign rfl) rfl ?_
 refine WL.y (Y.assign rfl) rfl ?_
 refine WL.nil ?_
 refine At.then ?_
 refine WC.seq ?_
 refine WC.block ?_
 refine WC.seq ?_
 refine WC.region ?_
 refine WL.y (Y.move rfl) rfl ?_
 refine WL.y (Y.lss_i rfl rfl) rfl ?_
 obtain ⟨t12, ht12, h⟩ := lt1 h
 refine WL.yE (Y.assign rfl) (congrArg Value.bool ht12.symm) rfl ?_
 refine WL.nil ?_
 refine At.then ?_
 rcases cnd h with ⟨hc13, h⟩ | ⟨hc13, h⟩
 ·refine WC.condT' rfl hc13 ?_
  refine WC.seq ?_
  refine WC.region ?_
  refine WL.y (Y.assign rfl) rfl ?_
  refine WL.y (Y.assign rfl) rfl ?_
  refine WL.nil ?_
  refine At.then ?_
  refine WC.ret ?_
  refine At.inBlockR ?_
  refine At.thenR ?_
  obtain ⟨rfl, rfl⟩ := tup2 h
  have hs14 : Stp [] (Lg.O0 A) w (Lg.O0 A) w := (Stp.refl _ _ _)
  exact At.res (.inl rfl) rfl (.tmp rfl (.tmp rfl .nil)) ⟨Value.pointer none, rfl, (Stp.ext hs14 rfl rfl), rfl⟩
 ·refine WC.condF' rfl hc13 ?_
  refine WC.seq ?_
  refine WC.region ?_
  refine WL.y (Y.move rfl) rfl ?_
  refine WL.y (Y.len ty60 rfl hf11) rfl ?_
  refine WL.y (Y.move rfl) rfl ?_
  refine WL.y (Y.quo_i (by decide) rfl rfl) rfl ?_
  refine WL.y (Y.lss_i rfl rfl) rfl ?_
  refine WL.y (Y.move rfl) rfl ?_
  refine WL.cut 11 (σ := Unit) (fun _ w' => w = w') (fun _ => [(0, v0), (1, vi a1), (26, Value.bool ((decide ((a0.length : Int) < w64 (a1.tdiv 8))) || ((decide ((a0.length : Int) = w64 (a1.tdiv 8))) && (decide (0 < a1.tmod 8)))))]) ?_ ?_
  ·refine WL.part 15 rfl (fun hE15 => ?_) (fun hE15 => ?_)
   ·refine WL.gS rfl rfl rfl rfl ?_
    refine WL.gS rfl rfl rfl rfl ?_
    refine WL.gS rfl rfl rfl rfl ?_
    refine WL.gS rfl rfl rfl rfl ?_
    refine WL.gS rfl rfl rfl rfl ?_
    refine WL.gS rfl rfl rfl rfl ?_
    refine WL.gS rfl rfl rfl rfl ?_
    refine WL.gS rfl rfl rfl rfl ?_
    refine WL.gS rfl rfl rfl rfl ?_
    refine WL.gS rfl rfl rfl rfl ?_
    refine WL.y (Y.pick (b := true) rfl rfl) rfl ?_
    refine WL.ren (v' := Value.bool ((decide ((a0.length : Int) < w64 (a1.tdiv 8))) || ((decide ((a0.length : Int) = w64 (a1.tdiv 8))) && (decide (0 < a1.tmod 8))))) 26 rfl (congrArg Value.bool (orT hE15)) ?_
    exact WL.nil (At.join () rfl (.cons rfl (.cons rfl (.cons rfl .nil))))
   ·refine WL.ung rfl rfl ?_
    refine WL.y (Y.move rfl) rfl ?_
    refine WL.ung rfl rfl ?_
    refine WL.y (Y.len ty60 rfl hf11) rfl ?_
    refine WL.ung rfl rfl ?_
    refine WL.y (Y.move rfl) rfl ?_
    refine WL.ung rfl rfl ?_
    refine WL.y (Y.quo_i (by decide) rfl rfl) rfl ?_
    refine WL.ung rfl rfl ?_
    refine WL.y (Y.eql_i rfl rfl) rfl ?_
    refine WL.ung rfl rfl ?_
    refine WL.y (Y.move rfl) rfl ?_
    refine WL.cut 4 (σ := Unit) (fun _ w' => w = w') (fun _ => [(0, v0), (1, vi a1), (15, Value.bool false), (25, Value.bool ((decide ((a0.length : Int) = w64 (a1.tdiv 8))) && (decide (0 < a1.tmod 8))))]) ?_ ?_
    ·refine WL.part 21 rfl (fun hE16 => ?_) (fun hE16 => ?_)
     ·refine WL.ung rfl rfl ?_
      refine WL.y (Y.move rfl) rfl ?_
      refine WL.ung rfl rfl ?_
      refine WL.y (Y.rem_i (by decide) rfl rfl) rfl ?_
      refine WL.ung rfl rfl ?_
      refine WL.y (Y.gtr_i rfl rfl) rfl ?_
      refine WL.ung rfl rfl ?_
      refine WL.y (Y.pick (b := true) rfl rfl) rfl ?_
      refine WL.ren (v' := Value.bool ((decide ((a0.length : Int) = w64 (a1.tdiv 8))) && (decide (0 < a1.tmod 8)))) 25 rfl (congrArg Value.bool (andT hE16)) ?_
      exact WL.nil (At.join () rfl (.cons rfl (.cons rfl (.cons rfl (.cons rfl .nil)))))
     ·refine WL.gS rfl rfl rfl rfl ?_
      refine WL.gS rfl rfl rfl rfl ?_
      refine WL.gS rfl rfl rfl rfl ?_
      refine WL.ung rfl rfl ?_
      refine WL.y (Y.pick (b := false) rfl rfl) rfl ?_
      refine WL.ren (v' := Value.bool ((decide ((a0.length : Int) = w64 (a1.tdiv 8))) && (decide (0 < a1.tmod 8)))) 25 rfl (congrArg Value.bool (andF hE16)) ?_
      exact WL.nil (At.join () rfl (.cons rfl (.cons rfl (.cons rfl (.cons rfl .nil)))))
    ·rintro _ _ rfl
     refine (show WL _ _ _ _ _ [(0, v0), (1, vi a1), (15, Value.bool false), (25, Value.bool ((decide ((a0.length : Int) = w64 (a1.tdiv 8))) && (decide (0 < a1.tmod 8))))] _ from ?_)
     refine WL.y (Y.pick (b := false) rfl rfl) rfl ?_
     refine WL.ren (v' := Value.bool ((decide ((a0.length : Int) < w64 (a1.tdiv 8))) || ((decide ((a0.length : Int) = w64 (a1.tdiv 8))) && (decide (0 < a1.tmod 8))))) 26 rfl (congrArg Value.bool (orF hE15)) ?_
     exact WL.nil (At.join () rfl (.cons rfl (.cons rfl (.cons rfl .nil))))
  ·rintro _ _ rfl
   refine (show WL _ _ _ _ _ [(0, v0), (1, vi a1), (26, Value.bool ((decide ((a0.length : Int) < w64 (a1.tdiv 8))) || ((decide ((a0.length : Int) = w64 (a1.tdiv 8))) && (decide (0 < a1.tmod 8)))))] _ from ?_)
   obtain ⟨t17, ht17, h⟩ := lt1 h
   refine WL.yE (Y.assign rfl) (congrArg Value.bool ht17.symm) rfl ?_
   refine WL.nil ?_
   refine At.then ?_
   rcases cnd h with ⟨hc18, h⟩ | ⟨hc18, h⟩
   ·refine WC.condT' rfl hc18 ?_
    refine WC.seq ?_
    refine WC.region ?_
    refine WL.y (Y.assign rfl) rfl ?_
    refine WL.y (Y.assign rfl) rfl ?_
    refine WL.nil ?_
    refine At.then ?_
    refine WC.ret ?_
    refine At.inBlockR ?_
    refine At.thenR ?_
    obtain ⟨rfl, rfl⟩ := tup2 h
    have hs19 : Stp [] (Lg.O0 A) w (Lg.O0 A) w := (Stp.refl _ _ _)
    exact At.res (.inl rfl) rfl (.tmp rfl (.tmp rfl .nil)) ⟨Value.pointer none, rfl, (Stp.ext hs19 rfl rfl), rfl⟩
   ·refine WC.condF' rfl hc18 ?_
    refine WC.seq ?_
    refine WC.region ?_
    refine WL.y (Y.move rfl) rfl ?_
    refine WL.y (Y.len ty60 rfl hf11) rfl ?_
    refine WL.y (Y.move rfl) rfl ?_
    refine WL.y (Y.add_i rfl rfl) rfl ?_
    refine WL.y (Y.quo_i (by decide) rfl rfl) rfl ?_
    refine WL.y (Y.gtr_i rfl rfl) rfl ?_
    obtain ⟨t20, ht20, h⟩ := lt1 h
    refine WL.yE (Y.assign rfl) (congrArg Value.bool ht20.symm) rfl ?_
    refine WL.nil ?_
    refine At.then ?_
    rcases cnd h with ⟨hc21, h⟩ | ⟨hc21, h⟩
    ·refine WC.condT' rfl hc21 ?_
     refine WC.seq ?_
     refine WC.region ?_
     refine WL.y (Y.assign rfl) rfl ?_
     refine WL.y (Y.assign rfl) rfl ?_
     refine WL.nil ?_
     refine At.then ?_
     refine WC.ret ?_
     refine At.inBlockR ?_
     refine At.thenR ?_
     obtain ⟨rfl, rfl⟩ := tup2 h
     have hs22 : Stp [] (Lg.O0 A) w (Lg.O0 A) w := (Stp.refl _ _ _)
     exact At.res (.inl rfl) rfl (.tmp rfl (.tmp rfl .nil)) ⟨Value.pointer none, rfl, (Stp.ext hs22 rfl rfl), rfl⟩
    ·refine WC.condF' rfl hc21 ?_
     refine WC.seq ?_
     refine WC.region ?_
     refine WL.y (Y.move rfl) rfl ?_
     refine WL.y (Y.rem_i (by decide) rfl rfl) rfl ?_
     refine WL.y (Y.gtr_i rfl rfl) rfl ?_
     refine WL.y (Y.move rfl) rfl ?_
     obtain ⟨p24, h, hk25⟩ := bnd h
     refine WL.cut 11 (σ := Bool) (fun x w' => x = p24 ∧ w = w') (fun x => [(0, v0), (1, vi a1), (49, Value.bool x)]) ?_ ?_
     ·rcases cnd h with ⟨hE26, h⟩ | ⟨hE26, h⟩
      ·refine WL.ren 38 rfl (congrArg Value.bool hE26) ?_
       refine WL.ung rfl rfl ?_
       refine WL.y (Y.move rfl) rfl ?_
       refine WL.ung rfl rfl ?_
       refine WL.y (Y.move rfl) rfl ?_
       refine WL.ung rfl rfl ?_
       refine WL.y (Y.quo_i (by decide) rfl rfl) rfl ?_
       refine WL.ung rfl rfl ?_
       obtain ⟨e27, he27, h⟩ := bnd h
       obtain ⟨b28, off36, cap35, cs34, hv29, hi30, hl31, hc32, hok33, hA37⟩ := Sl.at2 hf11 he27
       obtain rfl := hok33
       replace hc32 : CellsAt _ _ _ [vb e27] := hc32
       have hca38 := CAt.imm hc32 hA37
       refine WL.y (Y.indexAddr ty60 ty5 rfl hv29 rfl hi30 hl31) rfl ?_
       refine WL.ung rfl rfl ?_
       refine WL.y (Y.loadSc ty5 rfl rfl hca38.at_) rfl ?_
       refine WL.ung rfl rfl ?_
       refine WL.y (Y.move rfl) rfl ?_
       refine WL.ung rfl rfl ?_
       refine WL.y (Y.rem_i (by decide) rfl rfl) rfl ?_
       refine WL.ung rfl rfl ?_
       refine WL.y (Y.conv_iu ty3.u ty82.u rfl) rfl ?_
       refine WL.ung rfl rfl ?_
       refine WL.y (Y.shl_bu rfl rfl) rfl ?_
       refine WL.ung rfl rfl ?_
       refine WL.y (Y.neq_b (b := 0) rfl rfl) rfl ?_
       refine WL.y (Y.pick (b := true) rfl rfl) rfl ?_
       exact WL.nil (At.join (σ := Bool) (!decide (shlB e27 ((toU64 (a1.tmod 8)).toNat) = 0)) ⟨some1 h, rfl⟩ (.cons rfl (.cons rfl (.cons rfl .nil))))
      ·refine WL.ren 38 rfl (congrArg Value.bool hE26) ?_
       refine WL.gS rfl rfl rfl rfl ?_
       refine WL.gS rfl rfl rfl rfl ?_
       refine WL.gS rfl rfl rfl rfl ?_
       refine WL.gS rfl rfl rfl rfl ?_
       refine WL.gS rfl rfl rfl rfl ?_
       refine WL.gS rfl rfl rfl rfl ?_
       refine WL.gS rfl rfl rfl rfl ?_
       refine WL.gS rfl rfl rfl rfl ?_
       refine WL.gS rfl rfl rfl rfl ?_
       refine WL.gS rfl rfl rfl rfl ?_
       refine WL.y (Y.pick (b := false) rfl rfl) rfl ?_
       exact WL.nil (At.join (σ := Bool) false ⟨some1 h, rfl⟩ (.cons rfl (.cons rfl (.cons rfl .nil))))
     ·rintro x23 _ ⟨rfl, rfl⟩
      replace h := hk25
      try dsimp only at h
      refine (show WL _ _ _ _ _ [(0, v0), (1, vi a1), (49, Value.bool x23)] _ from ?_)
      refine WL.y (Y.assign rfl) rfl ?_
      refine WL.nil ?_
      refine At.then ?_
      rcases cnd h with ⟨hc39, h⟩ | ⟨hc39, h⟩
      ·refine WC.condT' rfl hc39 ?_
       refine WC.seq ?_
       refine WC.region ?_
       refine WL.y (Y.assign rfl) rfl ?_
       refine WL.y (Y.assign rfl) rfl ?_
       refine WL.nil ?_
       refine At.then ?_
       refine WC.ret ?_
       refine At.inBlockR ?_
       refine At.thenR ?_
       obtain ⟨rfl, rfl⟩ := tup2 h
       have hs40 : Stp [] (Lg.O0 A) w (Lg.O0 A) w := (Stp.refl _ _ _)
       exact At.res (.inl rfl) rfl (.tmp rfl (.tmp rfl .nil)) ⟨Value.pointer none, rfl, (Stp.ext hs40 rfl rfl), rfl⟩
      ·refine WC.condF' rfl hc39 ?_
       refine WC.skip ?_
       refine At.inBlock ?_
       refine At.then ?_
       refine WC.seq ?_
       refine WC.region ?_
       refine WL.y (Y.move rfl) rfl ?_
       obtain ⟨r41, hp42, h⟩ := bnd h
       refine WL.call (vals := [v0]) kok75 rfl rfl (c_bytes_Clone (A := fun _ => True) (Sl.all hf11) hp42) ?_
       rintro vr47 wd46 ⟨_, rfl, hm45, f44⟩
       obtain ⟨O48, hold49, hnew50, hst51⟩ := adoptE (Lg.O0 A) (fun k => if Value.ownBlock vr47 = some k then 11 else 1) hm45
       have hf52 : OwnSl 11 Rep.b 5 O48 wd46 vr47 r41 := RowF.adopt 11 Flat.b f44 hnew50 (fun k hk => if_pos hk)
       refine WL.y (Y.move rfl) rfl ?_
       have hh56 := h
       obtain ⟨p53, m54, c55, rfl⟩ := hf52.shape
       have h := hh56
       refine WL.y (Y.build (vals := [(0, (Value.slice p53 m54 c55)), (1, vi a1)]) (cells := [(Value.slice p53 m54 c55), vi a1, vi 0]) (Fits.evalp rfl) (by kernel_rfl)) rfl ?_
       refine WL.box (O := O48) 12 [(Value.slice p53 m54 c55), vi a1, vi 0] rfl rfl rfl ?_
       intro p58 O59 wd60 hst61 hb57
       refine WL.y (Y.assign rfl) rfl ?_
       refine WL.y (Y.assign rfl) rfl ?_
       refine WL.nil ?_
       refine At.then ?_
       refine WC.ret ?_
       obtain ⟨rfl, rfl⟩ := tup2 h
       have hf62 := hf52.st hst61 rfl rfl rfl
       obtain ⟨O63, hst64, hf65⟩ := OwnSl.giveF rfl Flat.b hf62
       have hs66 : Stp [11] (Lg.O0 A) w O63 wd60 := (Stp.trans (Stp.up hst51 rfl) (Stp.trans (Stp.up hst61 rfl) (Stp.up hst64 rfl)))
       have hf67 := hb57.st hst64 rfl
       exact At.res (.inl rfl) rfl (.tmp rfl (.tmp rfl .nil)) ⟨Value.pointer (some ⟨p58, 0, none⟩), rfl, (Stp.ext hs66 rfl rfl), ⟨p58, (Value.slice p53 m54 c55), rfl, (Blk.outF hf67 hs66 low0 rfl), (Sl.outFN hf65 hs66 low0 hf67.lab rfl)⟩⟩
theorem c_bitio_Reader_At {A : Nat → Prop} {v0_0 : Value} {a0 : bitio_Reader} {b0 : Nat} {w : World} (hs0_0 : Sl Rep.b w A v0_0 a0.b) (hb0 : w.heap[b0]? = some (.cells (List.toArray [v0_0, vi a0.n, vi a0.at_]) 107 (0, 0))) (hm0 : A b0) {r0 : Int} (h : bitio_Reader_At a0 = some r0) : Rets Try.prog 51 [Value.pointer (some ⟨b0, 0, none⟩)] w (fun v w' => v = vi r0 ∧ Ext w w') := by
 unfold bitio_Reader_At at h
 refine Rets.enter Try.func51 rfl rfl ?_
 have hf11 : Sl Rep.b w (imm (Lg.O0 A)) v0_0 a0.b := (Sl.start hs0_0)
 have hb12 : Blk 0 (Lg.O0 A) w b0 107 [v0_0, vi a0.n, vi a0.at_] := ⟨(if_pos hm0), hb0⟩
 refine (show WC _ _ _ _ [(0, Value.pointer (some ⟨b0, 0, none⟩))] _ from ?_)
 refine WC.seq ?_
 refine WC.region ?_
 refine WL.y (Y.assign rfl) rfl ?_
 refine WL.nil ?_
 refine At.then ?_
 refine WC.seq ?_
 refine WC.region ?_
 refine WL.y (Y.move rfl) rfl ?_
 refine WL.y (Y.nilCheck rfl) rfl ?_
 refine WL.y (Y.fieldAddr fo107_2 rfl) rfl ?_
 refine WL.y (Y.loadSc ty3 rfl rfl (hb12.cell 2 _ rfl)) rfl ?_
 refine WL.y (Y.assign rfl) rfl ?_
 refine WL.nil ?_
 refine At.then ?_
 refine WC.ret ?_
 obtain rfl := some1 h
 have hs13 : Stp [] (Lg.O0 A) w (Lg.O0 A) w := (Stp.refl _ _ _)
 exact At.res (.inl rfl) rfl (.tmp rfl .nil) ⟨rfl, (Stp.ext hs13 rfl rfl)⟩
theorem c_bitio_Reader_Left {A : Nat → Prop} {v0_0 : Value} {a0 : bitio_Reader} {b0 : Nat} {w : World} (hs0_0 : Sl Rep.b w A v0_0 a0.b) (hb0 : w.heap[b0]? = some (.cells (List.toArray [v0_0, vi a0.n, vi a0.at_]) 107 (0, 0))) (hm0 : A b0) {r0 : Int} (h : bitio_Reader_Left a0 = some r0) : Rets Try.prog 56 [Value.pointer (some ⟨b0, 0, none⟩)] w (fun v w' => v = vi r0 ∧ Ext w w') := by
 unfold bitio_Reader_Left at h
 refine Rets.enter Try.func56 rfl rfl ?_
 have hf11 : Sl Rep.b w (imm (Lg.O0 A)) v0_0 a0.b := (Sl.start hs0_0)
 have hb12 : Blk 0 (Lg.O0 A) w b0 107 [v0_0, vi a0.n, vi a0.at_] := ⟨(if_pos hm0), hb0⟩
 refine (show WC _ _ _ _ [(0, Value.pointer (some ⟨b0, 0, none⟩))] _ from ?_)
 refine WC.seq ?_
 refine WC.region ?_
 refine WL.y (Y.assign rfl) rfl ?_
 refine WL.nil ?_
 refine At.then ?_
 refine WC.seq ?_
 refine WC.draw 9 (Lg.O0 A) fmix (by kernel_rfl) ?_
 intro wd13 hst14
 refine WS.y (Y.move rfl) rfl ?_
 refine WS.y (Y.nilCheck rfl) rfl ?_
 refine WS.y (Y.fieldAddr fo107_1 rfl) rfl ?_
 have hf15 := hb12.st hst14 rfl
 refine WS.y (Y.loadSc ty3 rfl rfl (hf15.cell 1 _ rfl)) rfl ?_
 refine WS.y (Y.move rfl) rfl ?_
 refine WS.y (Y.nilCheck rfl) rfl ?_
 refine WS.y (Y.fieldAddr fo107_2 rfl) rfl ?_
 refine WS.y (Y.loadSc ty3 rfl rfl (hf15.cell 2 _ rfl)) rfl ?_
 refine WS.y (Y.sub_i rfl rfl) rfl ?_
 refine WS.tail ?_
 obtain ⟨t16, ht16, h⟩ := lt1 h
 refine WL.yE (Y.assign rfl) (congrArg vi ht16.symm) rfl ?_
 refine WL.nil ?_
 refine At.then ?_
 refine WC.ret ?_
 obtain rfl := some1 h
 have hs17 : Stp [] (Lg.O0 A) w (Lg.O0 A) wd13 := (Stp.up hst14 rfl)
 exact At.res (.inl rfl) rfl (.tmp rfl .nil) ⟨rfl, (Stp.ext hs17 rfl rfl)⟩
theorem c_bitio_Reader_Look {A : Nat → Prop} {v0_0 : Value} {a0 : bitio_Reader} {b0 : Nat} {a1 : Int} {w : World} (hs0_0 : Sl Rep.b w A v0_0 a0.b) (hb0 : w.heap[b0]? = some (.cells (List.toArray [v0_0, vi a0.n, vi a0.at_]) 107 (0, 0))) (hm0 : A b0) {r0 : UInt64} {r1 : Bool} (h : bitio_Reader_Look a0 a1 = some (r0, r1)) : Rets Try.prog 110 [Value.pointer (some ⟨b0, 0, none⟩), vi a1] w (fun v w' => v = Value.tuple (List.toArray [vu r0, Value.bool r1]) ∧ Ext w w') := by
 unfold bitio_Reader_Look at h
 refine Rets.enter Try.func110 rfl rfl ?_
 have hf11 : Sl Rep.b w (imm (Lg.O0 A)) v0_0 a0.b := (Sl.start hs0_0)
 have hb12 : Blk 0 (Lg.O0 A) w b0 107 [v0_0, vi a0.n, vi a0.at_] := ⟨(if_pos hm0), hb0⟩
 refine (show WC _ _ _ _ [(0, Value.pointer (some ⟨b0, 0, none⟩)), (1, vi a1)] _ from ?_)
 refine WC.seq ?_
 refine WC.region ?_
 refine WL.y (Y.assign (v := vu 0) rfl) rfl ?_
 refine WL.y (Y.assign rfl) rfl ?_
 refine WL.nil ?_
 refine At.then ?_
 refine WC.seq ?_
 refine WC.seq ?_
 refine WC.region ?_
 refine WL.y (Y.move rfl) rfl ?_
 refine WL.y (Y.lss_i rfl rfl) rfl ?_
 refine WL.y (Y.move rfl) rfl ?_
 refine WL.cut 3 (σ := Unit) (fun _ w' => w = w') (fun _ => [(0, Value.pointer (some ⟨b0, 0, none⟩)), (1, vi a1), (16, Value.bool ((decide (a1 < 0)) || (decide (64 < a1))))]) ?_ ?_
 ·refine WL.part 13 rfl (fun hE13 => ?_) (fun hE13 => ?_)
  ·refine WL.gS rfl rfl rfl rfl ?_
   refine WL.gS rfl rfl rfl rfl ?_
   refine WL.y (Y.pick (b := true) rfl rfl) rfl ?_
   refine WL.ren (v' := Value.bool ((decide (a1 < 0)) || (decide (64 < a1)))) 16 rfl (congrArg Value.bool (orT hE13)) ?_
   exact WL.nil (At.join () rfl (.cons rfl (.cons rfl (.cons rfl .nil))))
  ·refine WL.ung rfl rfl ?_
   refine WL.y (Y.move rfl) rfl ?_
   refine WL.ung rfl rfl ?_
   refine WL.y (Y.gtr_i rfl rfl) rfl ?_
   refine WL.y (Y.pick (b := false) rfl rfl) rfl ?_
   refine WL.ren (v' := Value.bool ((decide (a1 < 0)) || (decide (64 < a1)))) 16 rfl (congrArg Value.bool (orF hE13)) ?_
   exact WL.nil (At.join () rfl (.cons rfl (.cons rfl (.cons rfl .nil))))
 ·rintro _ _ rfl
  refine (show WL _ _ _ _ _ [(0, Value.pointer (some ⟨b0, 0, none⟩)), (1, vi a1), (16, Value.bool ((decide (a1 < 0)) || (decide (64 < a1))))] _ from ?_)
  refine WL.y (Y.move rfl) rfl ?_
  obtain ⟨p18, h, hk19⟩ := bnd h
  refine WL.cut 5 (σ := (Bool × Own)) (fun x w' => x.1 = p18 ∧ Stp [] (Lg.O0 A) w x.2 w') (fun x => [(0, Value.pointer (some ⟨b0, 0, none⟩)), (1, vi a1), (22, Value.bool x.1)]) ?_ ?_
  ·rcases cnd h with ⟨hE20, h⟩ | ⟨hE20, h⟩
   ·refine WL.ren 17 rfl (congrArg Value.bool hE20) ?_
    refine WL.gS rfl rfl rfl rfl ?_
    refine WL.gS rfl rfl rfl rfl ?_
    refine WL.gS rfl rfl rfl rfl ?_
    refine WL.gS rfl rfl rfl rfl ?_
    refine WL.y (Y.pick (b := true) rfl rfl) rfl ?_
    exact WL.nil (At.join (σ := (Bool × Own)) (true, (Lg.O0 A)) ⟨some1 h, (Stp.refl _ _ _)⟩ (.cons rfl (.cons rfl (.cons rfl .nil))))
   ·refine WL.ren 17 rfl (congrArg Value.bool hE20) ?_
    refine WL.ung rfl rfl ?_
    refine WL.y (Y.move rfl) rfl ?_
    refine WL.ung rfl rfl ?_
    refine WL.y (Y.move rfl) rfl ?_
    refine WL.ung rfl rfl ?_
    obtain ⟨r21, hp22, h⟩ := bnd h
    refine WL.call (vals := [Value.pointer (some ⟨b0, 0, none⟩)]) kok56 rfl rfl (c_bitio_Reader_Left (A := fun _ => True) (a0 := a0) (Sl.all hf11) hb12.blk trivial hp22) ?_
    rintro vr25 wd24 ⟨rfl, hm23⟩
    obtain ⟨O26, hold27, hnew28, hst29⟩ := adoptE (Lg.O0 A) (fun k => 1) hm23
    refine WL.ung rfl rfl ?_
    refine WL.y (Y.gtr_i rfl rfl) rfl ?_
    refine WL.y (Y.pick (b := false) rfl rfl) rfl ?_
    exact WL.nil (At.join (σ := (Bool × Own)) (decide (r21 < a1), O26) ⟨some1 h, (Stp.up hst29 rfl)⟩ (.cons rfl (.cons rfl (.cons rfl .nil))))
  ·rintro ⟨x14, O15⟩ wd16 ⟨rfl, hst17⟩
   replace h := hk19
   try dsimp only at h hst17
   refine (show WL _ _ _ _ _ [(0, Value.pointer (some ⟨b0, 0, none⟩)), (1, vi a1), (22, Value.bool x14)] _ from ?_)
   refine WL.nil ?_
   refine At.then ?_
   rcases cnd h with ⟨hc30, h⟩ | ⟨hc30, h⟩
   ·refine WC.condT' rfl hc30 ?_
    refine WC.seq ?_
    refine WC.region ?_
    refine WL.y (Y.assign (v := vu 0) rfl) rfl ?_
    refine WL.y (Y.assign rfl) rfl ?_
    refine WL.nil ?_
    refine At.then ?_
    refine WC.ret ?_
    refine At.thenR ?_
    obtain ⟨rfl, rfl⟩ := tup2 h
    have hs31 : Stp [] (Lg.O0 A) w O15 wd16 := (Stp.up hst17 rfl)
    exact At.res (.inl rfl) rfl (.tmp rfl (.tmp rfl .nil)) ⟨rfl, (Stp.ext hs31 rfl rfl)⟩
   ·refine WC.condF' rfl hc30 ?_
    refine WC.skip ?_
    refine At.then ?_
    refine WC.seq ?_
    refine WC.region ?_
    refine WL.y (Y.assign (v := vu 0) rfl) rfl ?_
    refine WL.nil ?_
    refine At.then ?_
    refine WC.seq ?_
    refine WC.seq ?_
    refine WC.region ?_
    refine WL.y (Y.move rfl) rfl ?_
    refine WL.y (Y.nilCheck rfl) rfl ?_
    refine WL.y (Y.fieldAddr fo107_2 rfl) rfl ?_
    have hf32 := hb12.st hst17 rfl
    refine WL.y (Y.loadSc ty3 rfl rfl (hf32.cell 2 _ rfl)) rfl ?_
    refine WL.y (Y.assign rfl) rfl ?_
    refine WL.nil ?_
    refine At.then ?_
    refine WC.block ?_
    obtain ⟨p37, h, hk39⟩ := flow1 h
    obtain ⟨k38, h⟩ := loop_some h
    refine WC.joinB 0 (σ := UInt64) (fun x w' => p37 = .go x ∧ wd16 = w') (fun x => [(6, vu x)]) ?_ ?_
    ·refine WC.loop (σ := (Int × UInt64 × Int)) (fun x k w' => loopN k (bitio_Reader_Look_lp1 a0) (x.1, x.2.1, x.2.2) = some p37 ∧ wd16 = w') (fun x => [(0, Value.pointer (some ⟨b0, 0, none⟩)), (1, vi x.1), (6, vu x.2.1), (7, vi x.2.2)]) (a1, 0, a0.at_) k38 (.cons rfl (.cons rfl (.cons rfl (.cons rfl .nil)))) ⟨h, rfl⟩ ?_
     rintro ⟨nv33, v34, at35⟩ k38 _ ⟨h, rfl⟩
     obtain ⟨j40, q41, rfl, h, hn42⟩ := rnd1 h
     unfold bitio_Reader_Look_lp1 at h
     try dsimp only at h
     refine (show WC _ _ _ _ [(0, Value.pointer (some ⟨b0, 0, none⟩)), (1, vi nv33), (6, vu v34), (7, vi at35)] _ from ?_)
     refine WC.seq ?_
     refine WC.seq ?_
     refine WC.region ?_
     refine WL.y (Y.move rfl) rfl ?_
     refine WL.y (Y.gtr_i rfl rfl) rfl ?_
     refine WL.nil ?_
     refine At.then ?_
     rcases cnd h with ⟨hc43, h⟩ | ⟨hc43, h⟩
     ·refine WC.condT' rfl hc43 ?_
      refine WC.skip ?_
      refine At.then ?_
      refine WC.block ?_
      refine WC.seq ?_
      refine WC.region ?_
      refine WL.y (Y.move rfl) rfl ?_
      refine WL.y (Y.rem_i (by decide) rfl rfl) rfl ?_
      refine WL.y (Y.sub_i rfl rfl) rfl ?_
      obtain ⟨free44, hfree44, h⟩ := lt1 h
      refine WL.yE (Y.assign rfl) (congrArg vi hfree44.symm) rfl ?_
      refine WL.nil ?_
      refine At.then ?_
      refine WC.seq ?_
      refine WC.region ?_
      refine WL.y (Y.move rfl) rfl ?_
      refine WL.y (Y.move rfl) rfl ?_
      refine WL.y (Y.min_i rfl rfl) rfl ?_
      obtain ⟨k45, hk45, h⟩ := lt1 h
      refine WL.yE (Y.assign rfl) (congrArg vi hk45.symm) rfl ?_
      refine WL.nil ?_
      refine At.then ?_
      refine WC.seq ?_
      refine WC.region ?_
      refine WL.y (Y.move rfl) rfl ?_
      refine WL.y (Y.nilCheck rfl) rfl ?_
      refine WL.y (Y.fieldAddr fo107_0 rfl) rfl ?_
      refine WL.y (Y.loadSc ty60 rfl rfl (hf32.cell 0 _ rfl)) rfl ?_
      refine WL.y (Y.move rfl) rfl ?_
      refine WL.y (Y.quo_i (by decide) rfl rfl) rfl ?_
      obtain ⟨e46, he46, h⟩ := bnd h
      have hf55 := hf11.mono (imm_st hst17 rfl rfl)
      obtain ⟨b47, off56, cap54, cs53, hv48, hi49, hl50, hc51, hok52, hA57⟩ := Sl.at2 hf55 he46
      obtain rfl := hok52
      replace hc51 : CellsAt _ _ _ [vb e46] := hc51
      have hca58 := CAt.imm hc51 hA57
      refine WL.y (Y.indexAddr ty60 ty5 rfl hv48 rfl hi49 hl50) rfl ?_
      refine WL.y (Y.loadSc ty5 rfl rfl hca58.at_) rfl ?_
      refine WL.y (Y.move rfl) rfl ?_
      refine WL.y (Y.move rfl) rfl ?_
      refine WL.y (Y.sub_i rfl rfl) rfl ?_
      refine WL.y (Y.conv_iu ty3.u ty82.u rfl) rfl ?_
      refine WL.y (Y.shr_bu rfl rfl) rfl ?_
      refine WL.y (Y.move rfl) rfl ?_
      refine WL.y (Y.conv_iu ty3.u ty82.u rfl) rfl ?_
      refine WL.y (Y.shl_bu (a := 1) rfl rfl) rfl ?_
      refine WL.y (Y.sub_b (b := 1) rfl rfl) rfl ?_
      refine WL.y (Y.and_b rfl rfl) rfl ?_
      obtain ⟨piece59, hpiece59, h⟩ := lt1 h
      refine WL.yE (Y.assign rfl) (congrArg vb hpiece59.symm) rfl ?_
      refine WL.nil ?_
      refine At.then ?_
      refine WC.seq ?_
      refine WC.region ?_
      refine WL.y (Y.move rfl) rfl ?_
      refine WL.y (Y.move rfl) rfl ?_
      refine WL.y (Y.conv_iu ty3.u ty82.u rfl) rfl ?_
      refine WL.y (Y.shl_uu rfl rfl) rfl ?_
      refine WL.y (Y.move rfl) rfl ?_
      refine WL.y (Y.conv_bu ty5.u ty22.u rfl) rfl ?_
      refine WL.y (Y.or_u rfl rfl) rfl ?_
      obtain ⟨v60, hv60, h⟩ := lt1 h
      refine WL.yE (Y.assign rfl) (congrArg vu hv60.symm) rfl ?_
      refine WL.nil ?_
      refine At.then ?_
      refine WC.seq ?_
      refine WC.region ?_
      refine WL.y (Y.move rfl) rfl ?_
      refine WL.y (Y.move rfl) rfl ?_
      refine WL.y (Y.add_i rfl rfl) rfl ?_
      obtain ⟨at61, hat61, h⟩ := lt1 h
      refine WL.yE (Y.assign rfl) (congrArg vi hat61.symm) rfl ?_
      refine WL.nil ?_
      refine At.then ?_
      refine WC.region ?_
      refine WL.y (Y.move rfl) rfl ?_
      refine WL.y (Y.move rfl) rfl ?_
      refine WL.y (Y.sub_i rfl rfl) rfl ?_
      obtain ⟨nv62, hnv62, h⟩ := lt1 h
      refine WL.yE (Y.assign rfl) (congrArg vi hnv62.symm) rfl ?_
      refine WL.nil ?_
      refine At.inBlock ?_
      exact At.round (nv62, v60, at61) j40 (Nat.lt_succ_self _) ⟨next1 h hn42, rfl⟩ (.cons rfl (.cons rfl (.cons rfl (.cons rfl .nil))))
     ·refine WC.condF' rfl hc43 ?_
      refine WC.exit ?_
      refine At.thenX ?_
      refine At.loopX ?_
      exact At.hitB (σ := UInt64) v34 ⟨brk1 h hn42, rfl⟩ (.cons rfl .nil)
    ·rintro v36 _ ⟨rfl, rfl⟩
     replace h := flowK_go hk39
     try dsimp only at h
     refine (show At _ _ _ [(6, vu v36)] _ from ?_)
     refine At.inBlockHit ?_
     refine At.then ?_
     refine WC.seq ?_
     refine WC.region ?_
     refine WL.y (Y.move rfl) rfl ?_
     refine WL.y (Y.assign rfl) rfl ?_
     refine WL.y (Y.assign rfl) rfl ?_
     refine WL.nil ?_
     refine At.then ?_
     refine WC.ret ?_
     obtain ⟨rfl, rfl⟩ := tup2 h
     have hs63 : Stp [] (Lg.O0 A) w O15 wd16 := (Stp.up hst17 rfl)
     exact At.res (.inl rfl) rfl (.tmp rfl (.tmp rfl .nil)) ⟨rfl, (Stp.ext hs63 rfl rfl)⟩
theorem c_bitio_Reader_Take {A : Nat → Prop} {v0_0 : Value} {a0 : bitio_Reader} {b0 : Nat} {a1 : Int} {w : World} (hs0_0 : Sl Rep.b w A v0_0 a0.b) (hb0 : w.heap[b0]? = some (.cells (List.toArray [v0_0, vi a0.n, vi a0.at_]) 107 (0, 0))) (hA : ∀ k, A k → k ≠ b0) {r0 : UInt64} {r1 : Bool} {q0 : bitio_Reader} (h : bitio_Reader_Take a0 a1 = some (r0, r1, q0)) : Rets Try.prog 103 [Value.pointer (some ⟨b0, 0, none⟩), vi a1] w (fun v w' => ∃ (z0_0 : Value), v = Value.tuple (List.toArray [vu r0, Value.bool r1]) ∧ Mod (fun k => k = b0) w w' ∧ Sl Rep.b w' (fun k => A k ∨ w.heap.size ≤ k) z0_0 q0.b ∧ w'.heap[b0]? = some (.cells (List.toArray [z0_0, vi q0.n, vi q0.at_]) 107 (0, 0))) := by
 unfold bitio_Reader_Take at h
 refine Rets.enter Try.func103 rfl rfl ?_
 have hf11 : Sl Rep.b w (imm (Lg.OB b0 3 (Lg.O0 A))) v0_0 a0.b := (Sl.OB (Sl.start hs0_0) (fun k hk => (hA k (O0_A k hk))))
 have hb12 : Blk 3 (Lg.OB b0 3 (Lg.O0 A)) w b0 107 [v0_0, vi a0.n, vi a0.at_] := ⟨(if_pos rfl), hb0⟩
 refine (show WC _ _ _ _ [(0, Value.pointer (some ⟨b0, 0, none⟩)), (1, vi a1)] _ from ?_)
 refine WC.seq ?_
 refine WC.region ?_
 refine WL.y (Y.assign (v := vu 0) rfl) rfl ?_
 refine WL.y (Y.assign rfl) rfl ?_
 refine WL.nil ?_
 refine At.then ?_
 refine WC.seq ?_
 refine WC.region ?_
 refine WL.y (Y.move rfl) rfl ?_
 refine WL.y (Y.move rfl) rfl ?_
 obtain ⟨⟨r13, r14⟩, hp15, h⟩ := bnd h
 refine WL.call (vals := [Value.pointer (some ⟨b0, 0, none⟩), vi a1]) kok110 rfl rfl (c_bitio_Reader_Look (A := fun _ => True) (a0 := a0) (Sl.all hf11) hb12.blk trivial hp15) ?_
 rintro vr18 wd17 ⟨rfl, hm16⟩
 obtain ⟨O19, hold20, hnew21, hst22⟩ := adoptE (Lg.OB b0 3 (Lg.O0 A)) (fun k => 1) hm16
 refine WL.y (Y.move rfl) rfl ?_
 refine WL.y (Y.extract rfl rfl) rfl ?_
 refine WL.y (Y.extract rfl rfl) rfl ?_
 refine WL.y (Y.assign rfl) rfl ?_
 refine WL.y (Y.assign rfl) rfl ?_
 refine WL.nil ?_
 refine At.then ?_
 refine WC.seq ?_
 refine WC.seq ?_
 refine WC.region ?_
 refine WL.y (Y.move rfl) rfl ?_
 refine WL.nil ?_
 refine At.then ?_
 rcases cnd h with ⟨hc23, h⟩ | ⟨hc23, h⟩
 ·refine WC.condT' rfl hc23 ?_
  refine WC.region ?_
  refine WL.y (Y.move rfl) rfl ?_
  refine WL.y (Y.nilCheck rfl) rfl ?_
  refine WL.y (Y.fieldAddr fo107_2 rfl) rfl ?_
  have hf24 := hb12.st hst22 rfl
  refine WL.y (Y.loadSc ty3 rfl rfl (hf24.cell 2 _ rfl)) rfl ?_
  refine WL.y (Y.move rfl) rfl ?_
  refine WL.y (Y.add_i rfl rfl) rfl ?_
  refine WL.y (Y.nilCheck rfl) rfl ?_
  refine WL.y (Y.fieldAddr fo107_2 rfl) rfl ?_
  obtain ⟨t25, ht25, h⟩ := lt1 h
  refine WL.ren 20 rfl (congrArg vi ht25.symm) ?_
  refine WL.store (v := vi t25) (cells' := [v0_0, vi a0.n, vi t25]) ty3 rfl rfl hf24 rfl (Nat.le_of_ble_eq_true rfl) rfl rfl ?_
  intro wd26 hst27 hb28
  refine WL.nil ?_
  refine At.then ?_
  refine WC.seq ?_
  refine WC.region ?_
  refine WL.y (Y.move rfl) rfl ?_
  refine WL.y (Y.move rfl) rfl ?_
  refine WL.y (Y.assign rfl) rfl ?_
  refine WL.y (Y.assign rfl) rfl ?_
  refine WL.nil ?_
  refine At.then ?_
  refine WC.ret ?_
  obtain ⟨rfl, rfl, rfl⟩ := tup3 h
  have hs29 : Stp [3] (Lg.OB b0 3 (Lg.O0 A)) w O19 wd26 := (Stp.trans (Stp.up hst22 rfl) (Stp.up hst27 rfl))
  have hf30 := hf11.mono (imm_st hst22 rfl rfl)
  have hf31 := hf30.mono (imm_st hst27 rfl rfl)
  exact At.res (.inl rfl) rfl (.tmp rfl (.tmp rfl .nil)) ⟨v0_0, rfl, (Stp.modL hs29 sB1 rfl rfl), (Sl.outI hf31 hs29 (lowB low0 rfl rfl) (aB O0_A rfl)), hb28.blk⟩
 ·refine WC.condF' rfl hc23 ?_
  refine WC.skip ?_
  refine At.then ?_
  refine WC.seq ?_
  refine WC.region ?_
  refine WL.y (Y.move rfl) rfl ?_
  refine WL.y (Y.move rfl) rfl ?_
  refine WL.y (Y.assign rfl) rfl ?_
  refine WL.y (Y.assign rfl) rfl ?_
  refine WL.nil ?_
  refine At.then ?_
  refine WC.ret ?_
  obtain ⟨rfl, rfl, rfl⟩ := tup3 h
  have hs32 : Stp [] (Lg.OB b0 3 (Lg.O0 A)) w O19 wd17 := (Stp.up hst22 rfl)
  have hf33 := hb12.st hst22 rfl
  have hf34 := hf11.mono (imm_st hst22 rfl rfl)
  exact At.res (.inl rfl) rfl (.tmp rfl (.tmp rfl .nil)) ⟨v0_0, rfl, (Stp.modL hs32 sB1 rfl rfl), (Sl.outI hf34 hs32 (lowB low0 rfl rfl) (aB O0_A rfl)), hf33.blk⟩
end Go.Lg
