/- The walks of XorRows and of what it calls, printed by gen.py. -/
import Derived.Test.YtddfmahlbbbljaaDoorLgXorP
import Derived.Test.YtddfmahlbbbljaaDoorProg
set_option linter.unusedVariables false
namespace Go.Lg
open Go Go.Proofs
set_option maxRecDepth 100000
set_option maxHeartbeats 4000000
theorem fmix : Tryd.prog.follows .mixedOrders = true := by kernel_rfl
theorem ty3 : TyOk Tryd.prog 3 (.int .i64) 1 8 (.int .i64 0) := tyOk Tryd.underlying3 (by kernel_rfl)
theorem ty5 : TyOk Tryd.prog 5 (.int .u8) 1 1 (.int .u8 0) := tyOk Tryd.underlying5 (by kernel_rfl)
theorem ty9 : TyOk Tryd.prog 9 .string 1 16 (.string ⟨#[]⟩) := tyOk Tryd.underlying9 (by kernel_rfl)
theorem ty22 : TyOk Tryd.prog 22 (.slice 23) 1 24 (.slice none 0 0) := tyOk Tryd.underlying22 (by kernel_rfl)
theorem ty23 : TyOk Tryd.prog 23 (.int .u64) 1 8 (.int .u64 0) := tyOk Tryd.underlying23 (by kernel_rfl)
theorem ty27 : TyOk Tryd.prog 27 (.slice 5) 1 24 (.slice none 0 0) := tyOk Tryd.underlying27 (by kernel_rfl)
theorem ty28 : TyOk Tryd.prog 28 (.pointer 58) 1 8 (.pointer none) := tyOk Tryd.underlying28 (by kernel_rfl)
theorem ty29 : TyOk Tryd.prog 29 (.int .i64) 1 8 (.int .i64 0) := tyOk Tryd.underlying29 (by kernel_rfl)
theorem ty32 : TyOk Tryd.prog 32 (.slice 3) 1 24 (.slice none 0 0) := tyOk Tryd.underlying32 (by kernel_rfl)
theorem ty34 : TyOk Tryd.prog 34 (.pointer 62) 1 8 (.pointer none) := tyOk Tryd.underlying34 (by kernel_rfl)
theorem ty36 : TyOk Tryd.prog 36 (.pointer 64) 1 8 (.pointer none) := tyOk Tryd.underlying36 (by kernel_rfl)
theorem ty39 : TyOk Tryd.prog 39 (.struct #[(Field.mk "From" 3 0 false "" "" 0), (Field.mk "Size" 3 1 false "" "" 8)]) 2 16 (.agg #[(.int .i64 0), (.int .i64 0)]) := tyOk Tryd.underlying39 (by kernel_rfl)
theorem ty41 : TyOk Tryd.prog 41 (.struct #[(Field.mk "L" 22 0 false "" "" 0), (Field.mk "W" 39 1 false "" "" 24)]) 3 40 (.agg #[(.slice none 0 0), (.int .i64 0), (.int .i64 0)]) := tyOk Tryd.underlying41 (by kernel_rfl)
theorem ty55 : TyOk Tryd.prog 55 (.int .u64) 1 8 (.int .u64 0) := tyOk Tryd.underlying55 (by kernel_rfl)
theorem ty58 : TyOk Tryd.prog 58 (.struct #[(Field.mk "b" 27 0 false "" "limnograph/bitio" 0), (Field.mk "n" 3 1 false "" "limnograph/bitio" 24), (Field.mk "at" 3 2 false "" "limnograph/bitio" 32)]) 3 40 (.agg #[(.slice none 0 0), (.int .i64 0), (.int .i64 0)]) := tyOk Tryd.underlying58 (by kernel_rfl)
theorem ty60 : TyOk Tryd.prog 60 (.struct #[(Field.mk "ahead" 3 0 false "" "limnograph/xor" 0), (Field.mk "size" 3 1 false "" "limnograph/xor" 8)]) 2 16 (.agg #[(.int .i64 0), (.int .i64 0)]) := tyOk Tryd.underlying60 (by kernel_rfl)
theorem ty62 : TyOk Tryd.prog 62 (.struct #[(Field.mk "n" 3 0 false "" "limnograph/xor" 0), (Field.mk "last" 23 1 false "" "limnograph/xor" 8), (Field.mk "win" 60 2 false "" "limnograph/xor" 16)]) 4 32 (.agg #[(.int .i64 0), (.int .u64 0), (.int .i64 0), (.int .i64 0)]) := tyOk Tryd.underlying62 (by kernel_rfl)
theorem ty84 : TyOk Tryd.prog 84 (.array 64 5) 64 64 (.agg #[(.int .u8 0), (.int .u8 0), (.int .u8 0), (.int .u8 0), (.int .u8 0), (.int .u8 0), (.int .u8 0), (.int .u8 0), (.int .u8 0), (.int .u8 0), (.int .u8 0), (.int .u8 0), (.int .u8 0), (.int .u8 0), (.int .u8 0), (.int .u8 0), (.int .u8 0), (.int .u8 0), (.int .u8 0), (.int .u8 0), (.int .u8 0), (.int .u8 0), (.int .u8 0), (.int .u8 0), (.int .u8 0), (.int .u8 0), (.int .u8 0), (.int .u8 0), (.int .u8 0), (.int .u8 0), (.int .u8 0), (.int .u8 0), (.int .u8 0), (.int .u8 0), (.int .u8 0), (.int .u8 0), (.int .u8 0), (.int .u8 0), (.int .u8 0), (.int .u8 0), (.int .u8 0), (.int .u8 0), (.int .u8 0), (.int .u8 0), (.int .u8 0), (.int .u8 0), (.int .u8 0), (.int .u8 0), (.int .u8 0), (.int .u8 0), (.int .u8 0), (.int .u8 0), (.int .u8 0), (.int .u8 0), (.int .u8 0), (.int .u8 0), (.int .u8 0), (.int .u8 0), (.int .u8 0), (.int .u8 0), (.int .u8 0), (.int .u8 0), (.int .u8 0), (.int .u8 0)]) := tyOk Tryd.underlying84 (by kernel_rfl)
theorem fo39_0 : FieldOk Tryd.prog 39 0 0 := fieldOk Tryd.underlying39 rfl rfl (by kernel_rfl)
theorem fo39_1 : FieldOk Tryd.prog 39 1 1 := fieldOk Tryd.underlying39 rfl rfl (by kernel_rfl)
theorem fo41_0 : FieldOk Tryd.prog 41 0 0 := fieldOk Tryd.underlying41 rfl rfl (by kernel_rfl)
theorem fo41_1 : FieldOk Tryd.prog 41 1 1 := fieldOk Tryd.underlying41 rfl rfl (by kernel_rfl)
theorem fo58_0 : FieldOk Tryd.prog 58 0 0 := fieldOk Tryd.underlying58 rfl rfl (by kernel_rfl)
theorem fo58_1 : FieldOk Tryd.prog 58 1 1 := fieldOk Tryd.underlying58 rfl rfl (by kernel_rfl)
theorem fo58_2 : FieldOk Tryd.prog 58 2 2 := fieldOk Tryd.underlying58 rfl rfl (by kernel_rfl)
theorem fo60_0 : FieldOk Tryd.prog 60 0 0 := fieldOk Tryd.underlying60 rfl rfl (by kernel_rfl)
theorem fo60_1 : FieldOk Tryd.prog 60 1 1 := fieldOk Tryd.underlying60 rfl rfl (by kernel_rfl)
theorem fo62_0 : FieldOk Tryd.prog 62 0 0 := fieldOk Tryd.underlying62 rfl rfl (by kernel_rfl)
theorem fo62_1 : FieldOk Tryd.prog 62 1 1 := fieldOk Tryd.underlying62 rfl rfl (by kernel_rfl)
theorem fo62_2 : FieldOk Tryd.prog 62 2 2 := fieldOk Tryd.underlying62 rfl rfl (by kernel_rfl)
theorem fo64_0 : FieldOk Tryd.prog 64 0 0 := fieldOk Tryd.underlying64 rfl rfl (by kernel_rfl)
theorem fo64_1 : FieldOk Tryd.prog 64 1 1 := fieldOk Tryd.underlying64 rfl rfl (by kernel_rfl)
theorem agok60 : AgOk Tryd.prog 60 #[(Field.mk "ahead" 3 0 false "" "limnograph/xor" 0), (Field.mk "size" 3 1 false "" "limnograph/xor" 8)] := ⟨Tryd.underlying60, by kernel_rfl, by kernel_rfl⟩
theorem kok6 : CallOk Tryd.prog 6 := callOk Tryd.func6 (by kernel_rfl) rfl
theorem kok7 : CallOk Tryd.prog 7 := callOk Tryd.func7 (by kernel_rfl) rfl
theorem kok8 : CallOk Tryd.prog 8 := callOk Tryd.func8 (by kernel_rfl) rfl
theorem kok10 : CallOk Tryd.prog 10 := callOk Tryd.func10 (by kernel_rfl) rfl
theorem kok11 : CallOk Tryd.prog 11 := callOk Tryd.func11 (by kernel_rfl) rfl
theorem kok13 : CallOk Tryd.prog 13 := callOk Tryd.func13 (by kernel_rfl) rfl
theorem kok14 : CallOk Tryd.prog 14 := callOk Tryd.func14 (by kernel_rfl) rfl
theorem kok15 : CallOk Tryd.prog 15 := callOk Tryd.func15 (by kernel_rfl) rfl
theorem kok16 : CallOk Tryd.prog 16 := callOk Tryd.func16 (by kernel_rfl) rfl
theorem kok17 : CallOk Tryd.prog 17 := callOk Tryd.func17 (by kernel_rfl) rfl
theorem kok18 : CallOk Tryd.prog 18 := callOk Tryd.func18 (by kernel_rfl) rfl
theorem kok19 : CallOk Tryd.prog 19 := callOk Tryd.func19 (by kernel_rfl) rfl
theorem kok20 : CallOk Tryd.prog 20 := callOk Tryd.func20 (by kernel_rfl) rfl
theorem kok21 : CallOk Tryd.prog 21 := callOk Tryd.func21 (by kernel_rfl) rfl
theorem kok22 : CallOk Tryd.prog 22 := callOk Tryd.func22 (by kernel_rfl) rfl
theorem kok23 : CallOk Tryd.prog 23 := callOk Tryd.func23 (by kernel_rfl) rfl
theorem kok25 : CallOk Tryd.prog 25 := callOk Tryd.func25 (by kernel_rfl) rfl
theorem kok26 : CallOk Tryd.prog 26 := callOk Tryd.func26 (by kernel_rfl) rfl
theorem kok28 : CallOk Tryd.prog 28 := callOk Tryd.func28 (by kernel_rfl) rfl
theorem kok29 : CallOk Tryd.prog 29 := callOk Tryd.func29 (by kernel_rfl) rfl
theorem kok30 : CallOk Tryd.prog 30 := callOk Tryd.func30 (by kernel_rfl) rfl
theorem kok31 : CallOk Tryd.prog 31 := callOk Tryd.func31 (by kernel_rfl) rfl
theorem kok32 : CallOk Tryd.prog 32 := callOk Tryd.func32 (by kernel_rfl) rfl
theorem kok33 : CallOk Tryd.prog 33 := callOk Tryd.func33 (by kernel_rfl) rfl
theorem kok34 : CallOk Tryd.prog 34 := callOk Tryd.func34 (by kernel_rfl) rfl
theorem kok35 : CallOk Tryd.prog 35 := callOk Tryd.func35 (by kernel_rfl) rfl
theorem kok36 : CallOk Tryd.prog 36 := callOk Tryd.func36 (by kernel_rfl) rfl
theorem kok37 : CallOk Tryd.prog 37 := callOk Tryd.func37 (by kernel_rfl) rfl
theorem kok38 : CallOk Tryd.prog 38 := callOk Tryd.func38 (by kernel_rfl) rfl
theorem kok39 : CallOk Tryd.prog 39 := callOk Tryd.func39 (by kernel_rfl) rfl
theorem kok40 : CallOk Tryd.prog 40 := callOk Tryd.func40 (by kernel_rfl) rfl
theorem kok41 : CallOk Tryd.prog 41 := callOk Tryd.func41 (by kernel_rfl) rfl
theorem kok42 : CallOk Tryd.prog 42 := callOk Tryd.func42 (by kernel_rfl) rfl
theorem kok43 : CallOk Tryd.prog 43 := callOk Tryd.func43 (by kernel_rfl) rfl
theorem kok44 : CallOk Tryd.prog 44 := callOk Tryd.func44 (by kernel_rfl) rfl

theorem c_xor_NewRow {w : World} {r0 : xor_Row} (h : xor_NewRow = some r0) : Rets Tryd.prog 10 [] w (fun v w' => ∃ (p0 : Nat), v = Value.pointer (some ⟨p0, 0, none⟩) ∧ Ext w w' ∧ (w'.heap[p0]? = some (.cells (List.toArray [vi r0.n, vu r0.last, vi r0.win.ahead, vi r0.win.size]) 62 (0, 0)) ∧ w.heap.size ≤ p0)) := by
 unfold xor_NewRow at h
 refine Rets.enter Tryd.func10 rfl rfl ?_
 refine (show WC _ _ _ _ [] _ from ?_)
 refine WC.seq ?_
 refine WC.region ?_
 refine WL.y (Y.assign rfl) rfl ?_
 refine WL.nil ?_
 refine At.then ?_
 refine WC.seq ?_
 refine WC.region ?_
 refine WL.y (Y.build (vals := []) (cells := [vi 0, vu 0, vi 0, vi 0]) (Fits.evalp rfl) (by kernel_rfl)) rfl ?_
 refine WL.box (O := (Lg.O0 (fun _ => False))) 11 [vi 0, vu 0, vi 0, vi 0] rfl rfl rfl ?_
 intro p12 O13 wd14 hst15 hb11
 refine WL.y (Y.assign rfl) rfl ?_
 refine WL.nil ?_
 refine At.then ?_
 refine WC.ret ?_
 obtain rfl := some1 h
 have hs16 : Stp [] (Lg.O0 (fun _ => False)) w O13 wd14 := (Stp.up hst15 rfl)
 exact At.res (.inl rfl) rfl (.tmp rfl .nil) ⟨p12, rfl, (Stp.ext hs16 rfl rfl), (Blk.outF hb11 hs16 low0 rfl)⟩

theorem c_bitio_NewWriter {w : World} {r0 : bitio_Writer} (h : bitio_NewWriter = some r0) : Rets Tryd.prog 11 [] w (fun v w' => ∃ (p0 : Nat) (u0_0 : Value), v = Value.pointer (some ⟨p0, 0, none⟩) ∧ Ext w w' ∧ (w'.heap[p0]? = some (.cells (List.toArray [u0_0, vi r0.n]) 64 (0, 0)) ∧ w.heap.size ≤ p0) ∧ RowF Rep.b 5 w w' u0_0 r0.b ∧ Value.ownBlock u0_0 ≠ some p0) := by
 unfold bitio_NewWriter at h
 refine Rets.enter Tryd.func11 rfl rfl ?_
 refine (show WC _ _ _ _ [] _ from ?_)
 refine WC.seq ?_
 refine WC.region ?_
 refine WL.y (Y.assign rfl) rfl ?_
 refine WL.nil ?_
 refine At.then ?_
 refine WC.seq ?_
 refine WC.region ?_
 refine WL.y (Y.build (vals := []) (cells := [Value.slice none 0 0, vi 0]) (Fits.evalp rfl) (by kernel_rfl)) rfl ?_
 refine WL.box (O := (Lg.O0 (fun _ => False))) 11 [Value.slice none 0 0, vi 0] rfl rfl rfl ?_
 intro p12 O13 wd14 hst15 hb11
 refine WL.y (Y.assign rfl) rfl ?_
 refine WL.nil ?_
 refine At.then ?_
 refine WC.ret ?_
 obtain rfl := some1 h
 have hs16 : Stp [] (Lg.O0 (fun _ => False)) w O13 wd14 := (Stp.up hst15 rfl)
 exact At.res (.inl rfl) rfl (.tmp rfl .nil) ⟨p12, Value.slice none 0 0, rfl, (Stp.ext hs16 rfl rfl), (Blk.outF hb11 hs16 low0 rfl), RowF.nil, not_nil⟩

theorem c_bitio_Writer_room {A : Nat → Prop} {v0_0 : Value} {a0 : bitio_Writer} {b0 : Nat} {w : World} (hs0_0 : Sl Rep.b w A v0_0 a0.b) (hb0 : w.heap[b0]? = some (.cells (List.toArray [v0_0, vi a0.n]) 64 (0, 0))) (hm0 : A b0) {r0 : Int} (h : bitio_Writer_room a0 = some r0) : Rets Tryd.prog 39 [Value.pointer (some ⟨b0, 0, none⟩)] w (fun v w' => v = vi r0 ∧ Ext w w') := by
 unfold bitio_Writer_room at h
 refine Rets.enter Tryd.func39 rfl rfl ?_
 have hf11 : Sl Rep.b w (imm (Lg.O0 A)) v0_0 a0.b := (Sl.start hs0_0)
 have hb12 : Blk 0 (Lg.O0 A) w b0 64 [v0_0, vi a0.n] := ⟨(if_pos hm0), hb0⟩
 refine (show WC _ _ _ _ [(0, Value.pointer (some ⟨b0, 0, none⟩))] _ from ?_)
 refine WC.seq ?_
 refine WC.region ?_
 refine WL.y (Y.assign rfl) rfl ?_
 refine WL.nil ?_
 refine At.then ?_
 refine WC.seq ?_
 refine WC.draw 11 (Lg.O0 A) fmix (by kernel_rfl) ?_
 intro wd13 hst14
 refine WS.y (Y.move rfl) rfl ?_
 refine WS.y (Y.nilCheck rfl) rfl ?_
 refine WS.y (Y.fieldAddr fo64_0 rfl) rfl ?_
 have hf15 := hb12.st hst14 rfl
 refine WS.y (Y.loadSc ty27 rfl rfl (hf15.cell 0 _ rfl)) rfl ?_
 have hf16 := hf11.mono (imm_st hst14 rfl rfl)
 refine WS.y (Y.len ty27 rfl hf16) rfl ?_
 refine WS.y (Y.mul_i rfl rfl) rfl ?_
 refine WS.y (Y.move rfl) rfl ?_
 refine WS.y (Y.nilCheck rfl) rfl ?_
 refine WS.y (Y.fieldAddr fo64_1 rfl) rfl ?_
 refine WS.y (Y.loadSc ty3 rfl rfl (hf15.cell 1 _ rfl)) rfl ?_
 refine WS.y (Y.sub_i rfl rfl) rfl ?_
 refine WS.tail ?_
 obtain ⟨t17, ht17, h⟩ := lt1 h
 refine WL.yE (Y.assign rfl) (congrArg vi ht17.symm) rfl ?_
 refine WL.nil ?_
 refine At.then ?_
 refine WC.ret ?_
 obtain rfl := some1 h
 have hs18 : Stp [] (Lg.O0 A) w (Lg.O0 A) wd13 := (Stp.up hst14 rfl)
 exact At.res (.inl rfl) rfl (.tmp rfl .nil) ⟨rfl, (Stp.ext hs18 rfl rfl)⟩

theorem c_bitio_Writer_Put {v0_0 : Value} {a0 : bitio_Writer} {b0 : Nat} {a1 : UInt64} {a2 : Int} {w : World} (hs0_0 : Row Rep.b 5 w v0_0 a0.b) (hb0 : w.heap[b0]? = some (.cells (List.toArray [v0_0, vi a0.n]) 64 (0, 0))) (hne0_1 : Value.ownBlock v0_0 ≠ some b0) {r0 : Bool} {q0 : bitio_Writer} (h : bitio_Writer_Put a0 a1 a2 = some (r0, q0)) : Rets Tryd.prog 30 [Value.pointer (some ⟨b0, 0, none⟩), vu a1, vi a2] w (fun v w' => ∃ (z0_0 : Value), v = Value.bool r0 ∧ Mod (fun k => k = b0 ∨ Value.ownBlock v0_0 = some k) w w' ∧ RowG Rep.b 5 w w' v0_0 z0_0 q0.b ∧ w'.heap[b0]? = some (.cells (List.toArray [z0_0, vi q0.n]) 64 (0, 0))) := by
 unfold bitio_Writer_Put at h
 refine Rets.enter Tryd.func30 rfl rfl ?_
 have ho11 : OwnSl 4 Rep.b 5 (Lg.OB b0 3 (Lg.OV v0_0 4 (Lg.O0 (fun _ => False)))) w v0_0 a0.b := Row.start Flat.b hs0_0 (fun k hk => ((if_neg (fun (e : k = b0) => hne0_1 (e ▸ hk))).trans (if_pos hk)))
 have hb12 : Blk 3 (Lg.OB b0 3 (Lg.OV v0_0 4 (Lg.O0 (fun _ => False)))) w b0 64 [v0_0, vi a0.n] := ⟨(if_pos rfl), hb0⟩
 refine (show WC _ _ _ _ [(0, Value.pointer (some ⟨b0, 0, none⟩)), (1, vu a1), (2, vi a2)] _ from ?_)
 refine WC.seq ?_
 refine WC.region ?_
 refine WL.y (Y.assign rfl) rfl ?_
 refine WL.nil ?_
 refine At.then ?_
 refine WC.seq ?_
 refine WC.seq ?_
 refine WC.region ?_
 refine WL.y (Y.move rfl) rfl ?_
 refine WL.y (Y.lss_i rfl rfl) rfl ?_
 refine WL.y (Y.move rfl) rfl ?_
 refine WL.cut 3 (σ := Unit) (fun _ w' => w = w') (fun _ => [(0, Value.pointer (some ⟨b0, 0, none⟩)), (1, vu a1), (2, vi a2), (15, Value.bool ((decide (a2 < 0)) || (decide (64 < a2))))]) ?_ ?_
 ·refine WL.part 12 rfl (fun hE13 => ?_) (fun hE13 => ?_)
  ·refine WL.gS rfl rfl rfl rfl ?_
   refine WL.gS rfl rfl rfl rfl ?_
   refine WL.y (Y.pick (b := true) rfl rfl) rfl ?_
   refine WL.ren (v' := Value.bool ((decide (a2 < 0)) || (decide (64 < a2)))) 15 rfl (congrArg Value.bool (orT hE13)) ?_
   exact WL.nil (At.join () rfl (.cons rfl (.cons rfl (.cons rfl (.cons rfl .nil)))))
  ·refine WL.ung rfl rfl ?_
   refine WL.y (Y.move rfl) rfl ?_
   refine WL.ung rfl rfl ?_
   refine WL.y (Y.gtr_i rfl rfl) rfl ?_
   refine WL.y (Y.pick (b := false) rfl rfl) rfl ?_
   refine WL.ren (v' := Value.bool ((decide (a2 < 0)) || (decide (64 < a2)))) 15 rfl (congrArg Value.bool (orF hE13)) ?_
   exact WL.nil (At.join () rfl (.cons rfl (.cons rfl (.cons rfl (.cons rfl .nil)))))
 ·rintro _ _ rfl
  refine (show WL _ _ _ _ _ [(0, Value.pointer (some ⟨b0, 0, none⟩)), (1, vu a1), (2, vi a2), (15, Value.bool ((decide (a2 < 0)) || (decide (64 < a2))))] _ from ?_)
  refine WL.y (Y.move rfl) rfl ?_
  refine WL.cut 10 (σ := Unit) (fun _ w' => w = w') (fun _ => [(0, Value.pointer (some ⟨b0, 0, none⟩)), (1, vu a1), (2, vi a2), (26, Value.bool (((decide (a2 < 0)) || (decide (64 < a2))) || ((decide (a2 < 64)) && (!decide (shrU a1 ((toU64 a2).toNat) = 0)))))]) ?_ ?_
  ·refine WL.part 16 rfl (fun hE14 => ?_) (fun hE14 => ?_)
   ·refine WL.gS rfl rfl rfl rfl ?_
    refine WL.gS rfl rfl rfl rfl ?_
    refine WL.gS rfl rfl rfl rfl ?_
    refine WL.gS rfl rfl rfl rfl ?_
    refine WL.gS rfl rfl rfl rfl ?_
    refine WL.gS rfl rfl rfl rfl ?_
    refine WL.gS rfl rfl rfl rfl ?_
    refine WL.gS rfl rfl rfl rfl ?_
    refine WL.gS rfl rfl rfl rfl ?_
    refine WL.y (Y.pick (b := true) rfl rfl) rfl ?_
    refine WL.ren (v' := Value.bool (((decide (a2 < 0)) || (decide (64 < a2))) || ((decide (a2 < 64)) && (!decide (shrU a1 ((toU64 a2).toNat) = 0))))) 26 rfl (congrArg Value.bool (orT hE14)) ?_
    exact WL.nil (At.join () rfl (.cons rfl (.cons rfl (.cons rfl (.cons rfl .nil)))))
   ·refine WL.ung rfl rfl ?_
    refine WL.y (Y.move rfl) rfl ?_
    refine WL.ung rfl rfl ?_
    refine WL.y (Y.lss_i rfl rfl) rfl ?_
    refine WL.ung rfl rfl ?_
    refine WL.y (Y.move rfl) rfl ?_
    refine WL.cut 6 (σ := Unit) (fun _ w' => w = w') (fun _ => [(0, Value.pointer (some ⟨b0, 0, none⟩)), (1, vu a1), (2, vi a2), (16, Value.bool false), (25, Value.bool ((decide (a2 < 64)) && (!decide (shrU a1 ((toU64 a2).toNat) = 0))))]) ?_ ?_
    ·refine WL.part 19 rfl (fun hE15 => ?_) (fun hE15 => ?_)
     ·refine WL.ung rfl rfl ?_
      refine WL.y (Y.move rfl) rfl ?_
      refine WL.ung rfl rfl ?_
      refine WL.y (Y.move rfl) rfl ?_
      refine WL.ung rfl rfl ?_
      refine WL.y (Y.conv_iu ty3.u ty55.u rfl) rfl ?_
      refine WL.ung rfl rfl ?_
      refine WL.y (Y.shr_uu rfl rfl) rfl ?_
      refine WL.ung rfl rfl ?_
      refine WL.y (Y.neq_u (b := 0) rfl rfl) rfl ?_
      refine WL.ung rfl rfl ?_
      refine WL.y (Y.pick (b := true) rfl rfl) rfl ?_
      refine WL.ren (v' := Value.bool ((decide (a2 < 64)) && (!decide (shrU a1 ((toU64 a2).toNat) = 0)))) 25 rfl (congrArg Value.bool (andT hE15)) ?_
      exact WL.nil (At.join () rfl (.cons rfl (.cons rfl (.cons rfl (.cons rfl (.cons rfl .nil))))))
     ·refine WL.gS rfl rfl rfl rfl ?_
      refine WL.gS rfl rfl rfl rfl ?_
      refine WL.gS rfl rfl rfl rfl ?_
      refine WL.gS rfl rfl rfl rfl ?_
      refine WL.gS rfl rfl rfl rfl ?_
      refine WL.ung rfl rfl ?_
      refine WL.y (Y.pick (b := false) rfl rfl) rfl ?_
      refine WL.ren (v' := Value.bool ((decide (a2 < 64)) && (!decide (shrU a1 ((toU64 a2).toNat) = 0)))) 25 rfl (congrArg Value.bool (andF hE15)) ?_
      exact WL.nil (At.join () rfl (.cons rfl (.cons rfl (.cons rfl (.cons rfl (.cons rfl .nil))))))
    ·rintro _ _ rfl
     refine (show WL _ _ _ _ _ [(0, Value.pointer (some ⟨b0, 0, none⟩)), (1, vu a1), (2, vi a2), (16, Value.bool false), (25, Value.bool ((decide (a2 < 64)) && (!decide (shrU a1 ((toU64 a2).toNat) = 0))))] _ from ?_)
     refine WL.y (Y.pick (b := false) rfl rfl) rfl ?_
     refine WL.ren (v' := Value.bool (((decide (a2 < 0)) || (decide (64 < a2))) || ((decide (a2 < 64)) && (!decide (shrU a1 ((toU64 a2).toNat) = 0))))) 26 rfl (congrArg Value.bool (orF hE14)) ?_
     exact WL.nil (At.join () rfl (.cons rfl (.cons rfl (.cons rfl (.cons rfl .nil)))))
  ·rintro _ _ rfl
   refine (show WL _ _ _ _ _ [(0, Value.pointer (some ⟨b0, 0, none⟩)), (1, vu a1), (2, vi a2), (26, Value.bool (((decide (a2 < 0)) || (decide (64 < a2))) || ((decide (a2 < 64)) && (!decide (shrU a1 ((toU64 a2).toNat) = 0)))))] _ from ?_)
   refine WL.nil ?_
   refine At.then ?_
   rcases cnd h with ⟨hc16, h⟩ | ⟨hc16, h⟩
   ·refine WC.condT' rfl hc16 ?_
    refine WC.seq ?_
    refine WC.region ?_
    refine WL.y (Y.assign rfl) rfl ?_
    refine WL.nil ?_
    refine At.then ?_
    refine WC.ret ?_
    refine At.thenR ?_
    obtain ⟨rfl, rfl⟩ := tup2 h
    have hs17 : Stp [] (Lg.OB b0 3 (Lg.OV v0_0 4 (Lg.O0 (fun _ => False)))) w (Lg.OB b0 3 (Lg.OV v0_0 4 (Lg.O0 (fun _ => False)))) w := (Stp.refl _ _ _)
    exact At.res (.inl rfl) rfl (.tmp rfl .nil) ⟨v0_0, rfl, (Stp.modL hs17 (sB sV1) rfl rfl), (OwnSl.outG ho11 hs17 (lowB (lowV low0 rfl rfl) rfl rfl) (lsB (lbV (ln0 rfl)) rfl)), hb12.blk⟩
   ·refine WC.condF' rfl hc16 ?_
    refine WC.skip ?_
    refine At.then ?_
    refine WC.seq ?_
    refine WC.block ?_
    obtain ⟨p35, h, hk37⟩ := flow1 h
    obtain ⟨k36, h⟩ := loop_some h
    refine WC.joinB 0 (σ := (List UInt8 × Int × Own × Value)) (fun x w' => p35 = .go (x.1, x.2.1) ∧ Stp [3, 4] (Lg.OB b0 3 (Lg.OV v0_0 4 (Lg.O0 (fun _ => False)))) w x.2.2.1 w' ∧ OwnSl 4 Rep.b 5 x.2.2.1 w' x.2.2.2 x.1 ∧ Blk 3 x.2.2.1 w' b0 64 [x.2.2.2, vi x.2.1]) (fun x => []) ?_ ?_
    ·refine WC.loop (σ := (List UInt8 × Int × Int × Own × Value)) (fun x k w' => loopN k (bitio_Writer_Put_lp1 a1) (x.1, x.2.1, x.2.2.1) = some p35 ∧ Stp [3, 4] (Lg.OB b0 3 (Lg.OV v0_0 4 (Lg.O0 (fun _ => False)))) w x.2.2.2.1 w' ∧ OwnSl 4 Rep.b 5 x.2.2.2.1 w' x.2.2.2.2 x.1 ∧ Blk 3 x.2.2.2.1 w' b0 64 [x.2.2.2.2, vi x.2.1]) (fun x => [(0, Value.pointer (some ⟨b0, 0, none⟩)), (1, vu a1), (2, vi x.2.2.1)]) (a0.b, a0.n, a2, (Lg.OB b0 3 (Lg.OV v0_0 4 (Lg.O0 (fun _ => False)))), v0_0) k36 (.cons rfl (.cons rfl (.cons rfl .nil))) ⟨h, (Stp.refl _ _ _), ho11, hb12⟩ ?_
     rintro ⟨c19, c22, nv23, O24, v20⟩ k36 wd25 ⟨h, hst26, hf21, hb18⟩
     obtain ⟨j38, q39, rfl, h, hn40⟩ := rnd1 h
     unfold bitio_Writer_Put_lp1 at h
     try dsimp only at h hst26 hf21 hb18
     refine (show WC _ _ _ _ [(0, Value.pointer (some ⟨b0, 0, none⟩)), (1, vu a1), (2, vi nv23)] _ from ?_)
     refine WC.seq ?_
     refine WC.seq ?_
     refine WC.region ?_
     refine WL.y (Y.move rfl) rfl ?_
     refine WL.y (Y.gtr_i rfl rfl) rfl ?_
     refine WL.nil ?_
     refine At.then ?_
     rcases cnd h with ⟨hc41, h⟩ | ⟨hc41, h⟩
     ·refine WC.condT' rfl hc41 ?_
      refine WC.skip ?_
      refine At.then ?_
      obtain ⟨p51, h, hk52⟩ := bnd h
      refine WC.join (σ := (List UInt8 × Int × Int × Own × Value)) (fun x w' => (x.1, x.2.1, x.2.2.1) = p51 ∧ Stp [3, 4] O24 wd25 x.2.2.2.1 w' ∧ OwnSl 4 Rep.b 5 x.2.2.2.1 w' x.2.2.2.2 x.1 ∧ Blk 3 x.2.2.2.1 w' b0 64 [x.2.2.2.2, vi x.2.1]) (fun x => [(0, Value.pointer (some ⟨b0, 0, none⟩)), (1, vu a1), (2, vi x.2.2.1)]) ?_ ?_
      ·refine WC.block ?_
       refine WC.seq ?_
       obtain ⟨p60, h, hk61⟩ := bnd h
       refine WC.join (σ := (List UInt8 × Own × Value)) (fun x w' => x.1 = p60 ∧ Stp [3, 4] O24 wd25 x.2.1 w' ∧ OwnSl 4 Rep.b 5 x.2.1 w' x.2.2 x.1 ∧ Blk 3 x.2.1 w' b0 64 [x.2.2, vi c22]) (fun x => [(0, Value.pointer (some ⟨b0, 0, none⟩)), (1, vu a1), (2, vi nv23)]) ?_ ?_
       ·refine WC.seq ?_
        refine WC.region ?_
        refine WL.y (Y.move rfl) rfl ?_
        obtain ⟨r62, hp63, h⟩ := bnd h
        refine WL.call (vals := [Value.pointer (some ⟨b0, 0, none⟩)]) kok39 rfl rfl (c_bitio_Writer_room (A := fun _ => True) (a0 := (bitio_Writer.mk c19 c22)) (hf21.src.sl) hb18.blk trivial hp63) ?_
        rintro vr66 wd65 ⟨rfl, hm64⟩
        obtain ⟨O67, hold68, hnew69, hst70⟩ := adoptE O24 (fun k => 1) hm64
        refine WL.y (Y.eql_i rfl rfl) rfl ?_
        refine WL.nil ?_
        refine At.then ?_
        rcases cnd h with ⟨hc71, h⟩ | ⟨hc71, h⟩
        ·refine WC.condT' rfl hc71 ?_
         refine WC.region ?_
         refine WL.y (Y.move rfl) rfl ?_
         refine WL.y (Y.move rfl) rfl ?_
         refine WL.y (Y.nilCheck rfl) rfl ?_
         refine WL.y (Y.fieldAddr fo64_0 rfl) rfl ?_
         have hf72 := hb18.st hst70 rfl
         refine WL.y (Y.loadSc ty27 rfl rfl (hf72.cell 0 _ rfl)) rfl ?_
         refine WL.buildSlice (O := O67) (R := Rep.b) (vals := [(0, vb 0)]) 11 [vb 0] (xs := [0]) (by decide) ty27 ty5 (by decide) (by decide) (Fits.evalp rfl) (by kernel_rfl) rfl ⟨[vb 0], [], rfl, rfl, rfl⟩ rfl ?_
         intro v73 O75 wd76 hst77 ho74
         obtain ⟨xs78, hxs78, h⟩ := bnd h
         have hf79 := hf21.st hst70 rfl rfl rfl
         have hf80 := hf79.st hst77 rfl rfl rfl
         refine WL.append (by decide) ty27 ty5 rfl (by decide) rfl rfl hf80 ho74.src hxs78 rfl ?_
         intro v84 O81 wd82 hst83 ho85
         refine WL.y (Y.nilCheck rfl) rfl ?_
         refine WL.y (Y.fieldAddr fo64_0 rfl) rfl ?_
         have hh89 := h
         obtain ⟨p86, m87, c88, rfl⟩ := ho85.shape
         have h := hh89
         have hf90 := hf72.st hst77 rfl
         have hf91 := hf90.st hst83 rfl
         refine WL.store (v := (Value.slice p86 m87 c88)) (cells' := [(Value.slice p86 m87 c88), vi c22]) ty27 rfl rfl hf91 rfl (Nat.le_of_ble_eq_true rfl) rfl rfl ?_
         intro wd92 hst93 hb94
         refine WL.nil ?_
         have hf95 := ho85.st hst93 rfl rfl rfl
         exact At.join (σ := (List UInt8 × Own × Value)) (xs78, O81, (Value.slice p86 m87 c88)) ⟨some1 h, (Stp.trans (Stp.up hst70 rfl) (Stp.trans (Stp.up hst77 rfl) (Stp.trans (Stp.up hst83 rfl) (Stp.up hst93 rfl)))), hf95, hb94⟩ (.cons rfl (.cons rfl (.cons rfl .nil)))
        ·refine WC.condF' rfl hc71 ?_
         refine WC.skip ?_
         have hf96 := hf21.st hst70 rfl rfl rfl
         have hf97 := hb18.st hst70 rfl
         exact At.join (σ := (List UInt8 × Own × Value)) (c19, O67, v20) ⟨some1 h, (Stp.up hst70 rfl), hf96, hf97⟩ (.cons rfl (.cons rfl (.cons rfl .nil)))
       ·rintro ⟨c54, O57, v55⟩ wd58 ⟨rfl, hst59, hf56, hb53⟩
        replace h := hk61
        try dsimp only at h hst59 hf56 hb53
        refine (show At _ _ _ [(0, Value.pointer (some ⟨b0, 0, none⟩)), (1, vu a1), (2, vi nv23)] _ from ?_)
        refine At.then ?_
        refine WC.seq ?_
        refine WC.region ?_
        refine WL.y (Y.move rfl) rfl ?_
        obtain ⟨r98, hp99, h⟩ := bnd h
        refine WL.call (vals := [Value.pointer (some ⟨b0, 0, none⟩)]) kok39 rfl rfl (c_bitio_Writer_room (A := fun _ => True) (a0 := (bitio_Writer.mk c54 c22)) (hf56.src.sl) hb53.blk trivial hp99) ?_
        rintro vr102 wd101 ⟨rfl, hm100⟩
        obtain ⟨O103, hold104, hnew105, hst106⟩ := adoptE O57 (fun k => 1) hm100
        refine WL.y (Y.assign rfl) rfl ?_
        refine WL.nil ?_
        refine At.then ?_
        refine WC.seq ?_
        refine WC.region ?_
        refine WL.y (Y.move rfl) rfl ?_
        refine WL.y (Y.move rfl) rfl ?_
        refine WL.y (Y.min_i rfl rfl) rfl ?_
        obtain ⟨k107, hk107, h⟩ := lt1 h
        refine WL.yE (Y.assign rfl) (congrArg vi hk107.symm) rfl ?_
        refine WL.nil ?_
        refine At.then ?_
        refine WC.seq ?_
        refine WC.region ?_
        refine WL.y (Y.move rfl) rfl ?_
        refine WL.y (Y.move rfl) rfl ?_
        refine WL.y (Y.move rfl) rfl ?_
        refine WL.y (Y.sub_i rfl rfl) rfl ?_
        refine WL.y (Y.conv_iu ty3.u ty55.u rfl) rfl ?_
        refine WL.y (Y.shr_uu rfl rfl) rfl ?_
        obtain ⟨piece108, hpiece108, h⟩ := lt1 h
        refine WL.yE (Y.assign rfl) (congrArg vu hpiece108.symm) rfl ?_
        refine WL.nil ?_
        refine At.then ?_
        refine WC.seq ?_
        obtain ⟨p110, h, hk111⟩ := bnd h
        refine WC.join (σ := UInt64) (fun x w' => x = p110 ∧ wd101 = w') (fun x => [(0, Value.pointer (some ⟨b0, 0, none⟩)), (1, vu a1), (2, vi nv23), (7, vi r98), (8, vi k107), (9, vu x)]) ?_ ?_
        ·refine WC.seq ?_
         refine WC.region ?_
         refine WL.y (Y.move rfl) rfl ?_
         refine WL.y (Y.lss_i rfl rfl) rfl ?_
         refine WL.nil ?_
         refine At.then ?_
         rcases cnd h with ⟨hc112, h⟩ | ⟨hc112, h⟩
         ·refine WC.condT' rfl hc112 ?_
          refine WC.region ?_
          refine WL.y (Y.move rfl) rfl ?_
          refine WL.y (Y.move rfl) rfl ?_
          refine WL.y (Y.conv_iu ty3.u ty55.u rfl) rfl ?_
          refine WL.y (Y.shl_uu (a := 1) rfl rfl) rfl ?_
          refine WL.y (Y.sub_u (b := 1) rfl rfl) rfl ?_
          refine WL.y (Y.and_u rfl rfl) rfl ?_
          obtain ⟨piece113, hpiece113, h⟩ := lt1 h
          refine WL.yE (Y.assign rfl) (congrArg vu hpiece113.symm) rfl ?_
          refine WL.nil ?_
          exact At.join (σ := UInt64) piece113 ⟨some1 h, rfl⟩ (.cons rfl (.cons rfl (.cons rfl (.cons rfl (.cons rfl (.cons rfl .nil))))))
         ·refine WC.condF' rfl hc112 ?_
          refine WC.skip ?_
          exact At.join (σ := UInt64) piece108 ⟨some1 h, rfl⟩ (.cons rfl (.cons rfl (.cons rfl (.cons rfl (.cons rfl (.cons rfl .nil))))))
        ·rintro piece109 _ ⟨rfl, rfl⟩
         replace h := hk111
         try dsimp only at h
         refine (show At _ _ _ [(0, Value.pointer (some ⟨b0, 0, none⟩)), (1, vu a1), (2, vi nv23), (7, vi r98), (8, vi k107), (9, vu piece109)] _ from ?_)
         refine At.then ?_
         refine WC.seq ?_
         refine WC.draw 21 O103 fmix (by kernel_rfl) ?_
         intro wd114 hst115
         refine WS.y (Y.move rfl) rfl ?_
         refine WS.y (Y.nilCheck rfl) rfl ?_
         refine WS.y (Y.fieldAddr fo64_0 rfl) rfl ?_
         have hf116 := hb53.st hst106 rfl
         have hf117 := hf116.st hst115 rfl
         refine WS.y (Y.loadSc ty27 rfl rfl (hf117.cell 0 _ rfl)) rfl ?_
         refine WS.y (Y.move rfl) rfl ?_
         refine WS.y (Y.nilCheck rfl) rfl ?_
         refine WS.y (Y.fieldAddr fo64_0 rfl) rfl ?_
         refine WS.y (Y.loadSc ty27 rfl rfl (hf117.cell 0 _ rfl)) rfl ?_
         have hf118 := hf56.st hst106 rfl rfl rfl
         have hf119 := hf118.st hst115 rfl rfl rfl
         refine WS.y (Y.len ty27 rfl hf119.src.sl) rfl ?_
         refine WS.y (Y.sub_i rfl rfl) rfl ?_
         obtain ⟨e120, he120, h⟩ := bnd h
         obtain ⟨b121, cap128, cs127, hv122, hi123, hl124, hc125, hok126⟩ := OwnSl.at hf119 he120
         obtain rfl := hok126
         replace hc125 : CellsAt _ _ _ [vb e120] := hc125
         have hca129 := CAt.own hf119 hv122 hc125
         refine WS.y (Y.indexAddr ty27 ty5 rfl hv122 rfl hi123 hl124) rfl ?_
         refine WS.y (Y.loadSc ty5 rfl rfl hca129.at_) rfl ?_
         refine WS.y (Y.move rfl) rfl ?_
         refine WS.y (Y.move rfl) rfl ?_
         refine WS.y (Y.move rfl) rfl ?_
         refine WS.y (Y.sub_i rfl rfl) rfl ?_
         refine WS.y (Y.conv_iu ty3.u ty55.u rfl) rfl ?_
         refine WS.y (Y.shl_uu rfl rfl) rfl ?_
         refine WS.y (Y.conv_ub ty23.u ty5.u rfl) rfl ?_
         refine WS.y (Y.or_b rfl rfl) rfl ?_
         obtain ⟨e130, he130, h⟩ := bnd h
         obtain ⟨b131, cap138, cs137, hv132, hi133, hl134, hc135, hok136⟩ := OwnSl.at hf119 he130
         obtain rfl := hok136
         replace hc135 : CellsAt _ _ _ [vb e130] := hc135
         have hca139 := CAt.own hf119 hv132 hc135
         refine WS.y (Y.indexAddr ty27 ty5 rfl hv132 rfl hi133 hl134) rfl ?_
         refine WS.tail ?_
         obtain ⟨t140, ht140, h⟩ := lt1 h
         refine WL.ren 79 rfl (congrArg vb ht140.symm) ?_
         obtain ⟨xs141, hxs141, h⟩ := bnd h
         refine WL.storeOwn (by decide) ty5 rfl rfl rfl hf119 hv132 hxs141 ?_
         intro wd142 hst143 ho144
         refine WL.nil ?_
         refine At.then ?_
         refine WC.seq ?_
         refine WC.region ?_
         refine WL.y (Y.move rfl) rfl ?_
         refine WL.y (Y.nilCheck rfl) rfl ?_
         refine WL.y (Y.fieldAddr fo64_1 rfl) rfl ?_
         have hf145 := hf117.st hst143 rfl
         refine WL.y (Y.loadSc ty3 rfl rfl (hf145.cell 1 _ rfl)) rfl ?_
         refine WL.y (Y.move rfl) rfl ?_
         refine WL.y (Y.add_i rfl rfl) rfl ?_
         refine WL.y (Y.nilCheck rfl) rfl ?_
         refine WL.y (Y.fieldAddr fo64_1 rfl) rfl ?_
         obtain ⟨t146, ht146, h⟩ := lt1 h
         refine WL.ren 86 rfl (congrArg vi ht146.symm) ?_
         refine WL.store (v := vi t146) (cells' := [v55, vi t146]) ty3 rfl rfl hf145 rfl (Nat.le_of_ble_eq_true rfl) rfl rfl ?_
         intro wd147 hst148 hb149
         refine WL.nil ?_
         refine At.then ?_
         refine WC.region ?_
         refine WL.y (Y.move rfl) rfl ?_
         refine WL.y (Y.move rfl) rfl ?_
         refine WL.y (Y.sub_i rfl rfl) rfl ?_
         obtain ⟨nv150, hnv150, h⟩ := lt1 h
         refine WL.yE (Y.assign rfl) (congrArg vi hnv150.symm) rfl ?_
         refine WL.nil ?_
         refine At.inBlock ?_
         have hf151 := ho144.st hst148 rfl rfl rfl
         exact At.join (σ := (List UInt8 × Int × Int × Own × Value)) (xs141, t146, nv150, O103, v55) ⟨some1 h, (Stp.trans (Stp.up hst59 rfl) (Stp.trans (Stp.up hst106 rfl) (Stp.trans (Stp.up hst115 rfl) (Stp.trans (Stp.up hst143 rfl) (Stp.up hst148 rfl))))), hf151, hb149⟩ (.cons rfl (.cons rfl (.cons rfl .nil)))
      ·rintro ⟨c43, c46, nv47, O48, v44⟩ wd49 ⟨rfl, hst50, hf45, hb42⟩
       replace h := hk52
       try dsimp only at h hst50 hf45 hb42
       refine (show At _ _ _ [(0, Value.pointer (some ⟨b0, 0, none⟩)), (1, vu a1), (2, vi nv47)] _ from ?_)
       exact At.round (c43, c46, nv47, O48, v44) j38 (Nat.lt_succ_self _) ⟨next1 h hn40, (Stp.trans (Stp.up hst26 rfl) (Stp.up hst50 rfl)), hf45, hb42⟩ (.cons rfl (.cons rfl (.cons rfl .nil)))
     ·refine WC.condF' rfl hc41 ?_
      refine WC.exit ?_
      refine At.thenX ?_
      refine At.loopX ?_
      exact At.hitB (σ := (List UInt8 × Int × Own × Value)) (c19, c22, O24, v20) ⟨brk1 h hn40, (Stp.up hst26 rfl), hf21, hb18⟩ .nil
    ·rintro ⟨c28, c31, O32, v29⟩ wd33 ⟨rfl, hst34, hf30, hb27⟩
     replace h := flowK_go hk37
     try dsimp only at h hst34 hf30 hb27
     refine (show At _ _ _ [] _ from ?_)
     refine At.inBlockHit ?_
     refine At.then ?_
     refine WC.seq ?_
     refine WC.region ?_
     refine WL.y (Y.assign rfl) rfl ?_
     refine WL.nil ?_
     refine At.then ?_
     refine WC.ret ?_
     obtain ⟨rfl, rfl⟩ := tup2 h
     have hs152 : Stp [3, 4] (Lg.OB b0 3 (Lg.OV v0_0 4 (Lg.O0 (fun _ => False)))) w O32 wd33 := (Stp.up hst34 rfl)
     exact At.res (.inl rfl) rfl (.tmp rfl .nil) ⟨v29, rfl, (Stp.modL hs152 (sB sV1) rfl rfl), (OwnSl.outG hf30 hs152 (lowB (lowV low0 rfl rfl) rfl rfl) (lsB (lbV (ln0 rfl)) rfl)), hb27.blk⟩

theorem c_xor_window_behind {a0 : xor_window} {w : World} {r0 : Int} (h : xor_window_behind a0 = some r0) : Rets Tryd.prog 32 [Value.agg (List.toArray [vi a0.ahead, vi a0.size])] w (fun v w' => v = vi r0 ∧ Ext w w') := by
 unfold xor_window_behind at h
 refine Rets.enter Tryd.func32 rfl rfl ?_
 refine (show WC _ _ _ _ [(0, Value.agg (List.toArray [vi a0.ahead, vi a0.size]))] _ from ?_)
 refine WC.seq ?_
 refine WC.region ?_
 refine WL.box (O := (Lg.O0 (fun _ => False))) 11 [vi a0.ahead, vi a0.size] rfl rfl rfl ?_
 intro p12 O13 wd14 hst15 hb11
 refine WL.y (Y.assign rfl) rfl ?_
 refine WL.nil ?_
 refine At.then ?_
 refine WC.seq ?_
 refine WC.region ?_
 refine WL.y (Y.fieldAddr fo60_0 rfl) rfl ?_
 refine WL.y (Y.loadSc ty3 rfl rfl (hb11.cell 0 _ rfl)) rfl ?_
 refine WL.y (Y.sub_i rfl rfl) rfl ?_
 refine WL.y (Y.fieldAddr fo60_1 rfl) rfl ?_
 refine WL.y (Y.loadSc ty3 rfl rfl (hb11.cell 1 _ rfl)) rfl ?_
 refine WL.y (Y.sub_i rfl rfl) rfl ?_
 obtain ⟨t16, ht16, h⟩ := lt1 h
 refine WL.yE (Y.assign rfl) (congrArg vi ht16.symm) rfl ?_
 refine WL.nil ?_
 refine At.then ?_
 refine WC.ret ?_
 obtain rfl := some1 h
 have hs17 : Stp [] (Lg.O0 (fun _ => False)) w O13 wd14 := (Stp.up hst15 rfl)
 exact At.res (.inl rfl) rfl (.tmp rfl .nil) ⟨rfl, (Stp.ext hs17 rfl rfl)⟩

theorem c_math_bits_Len64 {a0 : UInt64} {w : World} {r0 : Int} (h : math_bits_Len64 a0 = some r0) : Rets Tryd.prog 43 [vu a0] w (fun v w' => v = vi r0 ∧ Ext w w') := by
 unfold math_bits_Len64 at h
 refine Rets.enter Tryd.func43 rfl rfl ?_
 refine (show WC _ _ _ _ [(0, vu a0)] _ from ?_)
 refine WC.seq ?_
 refine WC.region ?_
 refine WL.y (Y.assign rfl) rfl ?_
 refine WL.nil ?_
 refine At.then ?_
 refine WC.seq ?_
 obtain ⟨p13, h, hk14⟩ := bnd h
 refine WC.join (σ := (UInt64 × Int)) (fun x w' => (x.1, x.2) = p13 ∧ w = w') (fun x => [(0, vu x.1), (2, vi x.2)]) ?_ ?_
 ·refine WC.seq ?_
  refine WC.region ?_
  refine WL.y (Y.move rfl) rfl ?_
  refine WL.y (Y.geq_u (b := 4294967296) rfl rfl) rfl ?_
  refine WL.nil ?_
  refine At.then ?_
  rcases cnd h with ⟨hc15, h⟩ | ⟨hc15, h⟩
  ·refine WC.condT' rfl hc15 ?_
   refine WC.seq ?_
   refine WC.region ?_
   refine WL.y (Y.move rfl) rfl ?_
   refine WL.y (Y.shr_uu (m := 32) rfl rfl) rfl ?_
   obtain ⟨x16, hx16, h⟩ := lt1 h
   refine WL.yE (Y.assign rfl) (congrArg vu hx16.symm) rfl ?_
   refine WL.nil ?_
   refine At.then ?_
   refine WC.region ?_
   refine WL.y (Y.assign rfl) rfl ?_
   refine WL.nil ?_
   exact At.join (σ := (UInt64 × Int)) (x16, 32) ⟨some1 h, rfl⟩ (.cons rfl (.cons rfl .nil))
  ·refine WC.condF' rfl hc15 ?_
   refine WC.skip ?_
   exact At.join (σ := (UInt64 × Int)) (a0, 0) ⟨some1 h, rfl⟩ (.cons rfl (.cons rfl .nil))
 ·rintro ⟨x11, nv12⟩ _ ⟨rfl, rfl⟩
  replace h := hk14
  try dsimp only at h
  refine (show At _ _ _ [(0, vu x11), (2, vi nv12)] _ from ?_)
  refine At.then ?_
  refine WC.seq ?_
  obtain ⟨p19, h, hk20⟩ := bnd h
  refine WC.join (σ := (UInt64 × Int)) (fun x w' => (x.1, x.2) = p19 ∧ w = w') (fun x => [(0, vu x.1), (2, vi x.2)]) ?_ ?_
  ·refine WC.seq ?_
   refine WC.region ?_
   refine WL.y (Y.move rfl) rfl ?_
   refine WL.y (Y.geq_u (b := 65536) rfl rfl) rfl ?_
   refine WL.nil ?_
   refine At.then ?_
   rcases cnd h with ⟨hc21, h⟩ | ⟨hc21, h⟩
   ·refine WC.condT' rfl hc21 ?_
    refine WC.seq ?_
    refine WC.region ?_
    refine WL.y (Y.move rfl) rfl ?_
    refine WL.y (Y.shr_uu (m := 16) rfl rfl) rfl ?_
    obtain ⟨x22, hx22, h⟩ := lt1 h
    refine WL.yE (Y.assign rfl) (congrArg vu hx22.symm) rfl ?_
    refine WL.nil ?_
    refine At.then ?_
    refine WC.region ?_
    refine WL.y (Y.move rfl) rfl ?_
    refine WL.y (Y.add_i rfl rfl) rfl ?_
    obtain ⟨nv23, hnv23, h⟩ := lt1 h
    refine WL.yE (Y.assign rfl) (congrArg vi hnv23.symm) rfl ?_
    refine WL.nil ?_
    exact At.join (σ := (UInt64 × Int)) (x22, nv23) ⟨some1 h, rfl⟩ (.cons rfl (.cons rfl .nil))
   ·refine WC.condF' rfl hc21 ?_
    refine WC.skip ?_
    exact At.join (σ := (UInt64 × Int)) (x11, nv12) ⟨some1 h, rfl⟩ (.cons rfl (.cons rfl .nil))
  ·rintro ⟨x17, nv18⟩ _ ⟨rfl, rfl⟩
   replace h := hk20
   try dsimp only at h
   refine (show At _ _ _ [(0, vu x17), (2, vi nv18)] _ from ?_)
   refine At.then ?_
   refine WC.seq ?_
   obtain ⟨p26, h, hk27⟩ := bnd h
   refine WC.join (σ := (UInt64 × Int)) (fun x w' => (x.1, x.2) = p26 ∧ w = w') (fun x => [(0, vu x.1), (2, vi x.2)]) ?_ ?_
   ·refine WC.seq ?_
    refine WC.region ?_
    refine WL.y (Y.move rfl) rfl ?_
    refine WL.y (Y.geq_u (b := 256) rfl rfl) rfl ?_
    refine WL.nil ?_
    refine At.then ?_
    rcases cnd h with ⟨hc28, h⟩ | ⟨hc28, h⟩
    ·refine WC.condT' rfl hc28 ?_
     refine WC.seq ?_
     refine WC.region ?_
     refine WL.y (Y.move rfl) rfl ?_
     refine WL.y (Y.shr_uu (m := 8) rfl rfl) rfl ?_
     obtain ⟨x29, hx29, h⟩ := lt1 h
     refine WL.yE (Y.assign rfl) (congrArg vu hx29.symm) rfl ?_
     refine WL.nil ?_
     refine At.then ?_
     refine WC.region ?_
     refine WL.y (Y.move rfl) rfl ?_
     refine WL.y (Y.add_i rfl rfl) rfl ?_
     obtain ⟨nv30, hnv30, h⟩ := lt1 h
     refine WL.yE (Y.assign rfl) (congrArg vi hnv30.symm) rfl ?_
     refine WL.nil ?_
     exact At.join (σ := (UInt64 × Int)) (x29, nv30) ⟨some1 h, rfl⟩ (.cons rfl (.cons rfl .nil))
    ·refine WC.condF' rfl hc28 ?_
     refine WC.skip ?_
     exact At.join (σ := (UInt64 × Int)) (x17, nv18) ⟨some1 h, rfl⟩ (.cons rfl (.cons rfl .nil))
   ·rintro ⟨x24, nv25⟩ _ ⟨rfl, rfl⟩
    replace h := hk27
    try dsimp only at h
    refine (show At _ _ _ [(0, vu x24), (2, vi nv25)] _ from ?_)
    refine At.then ?_
    refine WC.seq ?_
    refine WC.region ?_
    refine WL.y (Y.move rfl) rfl ?_
    refine WL.y (Y.move rfl) rfl ?_
    refine WL.y (Y.conv_ub ty23.u ty5.u rfl) rfl ?_
    obtain ⟨c31, hc31, h⟩ := bnd h
    refine WL.y (Y.index_s (xs := lit_c95356610d) ty9 rfl rfl hc31) rfl ?_
    refine WL.y (Y.conv_bi ty5.u ty3.u rfl) rfl ?_
    refine WL.y (Y.add_i rfl rfl) rfl ?_
    obtain ⟨nv32, hnv32, h⟩ := lt1 h
    refine WL.yE (Y.assign rfl) (congrArg vi hnv32.symm) rfl ?_
    refine WL.nil ?_
    refine At.then ?_
    refine WC.ret ?_
    obtain rfl := some1 h
    have hs33 : Stp [] (Lg.O0 (fun _ => False)) w (Lg.O0 (fun _ => False)) w := (Stp.refl _ _ _)
    exact At.res (.inl rfl) rfl (.tmp rfl .nil) ⟨rfl, (Stp.ext hs33 rfl rfl)⟩

theorem c_math_bits_LeadingZeros64 {a0 : UInt64} {w : World} {r0 : Int} (h : math_bits_LeadingZeros64 a0 = some r0) : Rets Tryd.prog 40 [vu a0] w (fun v w' => v = vi r0 ∧ Ext w w') := by
 unfold math_bits_LeadingZeros64 at h
 refine Rets.enter Tryd.func40 rfl rfl ?_
 refine (show WC _ _ _ _ [(0, vu a0)] _ from ?_)
 refine WC.seq ?_
 refine WC.region ?_
 refine WL.y (Y.assign rfl) rfl ?_
 refine WL.nil ?_
 refine At.then ?_
 refine WC.seq ?_
 refine WC.region ?_
 refine WL.y (Y.move rfl) rfl ?_
 obtain ⟨r11, hp12, h⟩ := bnd h
 refine WL.call (vals := [vu a0]) kok43 rfl rfl (c_math_bits_Len64 hp12) ?_
 rintro vr15 wd14 ⟨rfl, hm13⟩
 obtain ⟨O16, hold17, hnew18, hst19⟩ := adoptE (Lg.O0 (fun _ => False)) (fun k => 1) hm13
 refine WL.y (Y.sub_i rfl rfl) rfl ?_
 obtain ⟨t20, ht20, h⟩ := lt1 h
 refine WL.yE (Y.assign rfl) (congrArg vi ht20.symm) rfl ?_
 refine WL.nil ?_
 refine At.then ?_
 refine WC.ret ?_
 obtain rfl := some1 h
 have hs21 : Stp [] (Lg.O0 (fun _ => False)) w O16 wd14 := (Stp.up hst19 rfl)
 exact At.res (.inl rfl) rfl (.tmp rfl .nil) ⟨rfl, (Stp.ext hs21 rfl rfl)⟩

theorem c_math_bits_TrailingZeros64 {A : Nat → Prop} {a0 : UInt64} {w : World} (hG1 : CellsAt w 1 0 (gdat1.map vb)) (hGA1 : A 1) {r0 : Int} (h : math_bits_TrailingZeros64 a0 = some r0) : Rets Tryd.prog 41 [vu a0] w (fun v w' => v = vi r0 ∧ Ext w w') := by
 unfold math_bits_TrailingZeros64 at h
 refine Rets.enter Tryd.func41 rfl rfl ?_
 have hG11 : CAt [0, 1] (Lg.O0 A) w 1 0 (gdat1.map vb) := CAt.glob hG1 (if_pos hGA1)
 refine (show WC _ _ _ _ [(0, vu a0)] _ from ?_)
 refine WC.seq ?_
 refine WC.region ?_
 refine WL.y (Y.assign rfl) rfl ?_
 refine WL.nil ?_
 refine At.then ?_
 refine WC.seq ?_
 refine WC.seq ?_
 refine WC.region ?_
 refine WL.y (Y.move rfl) rfl ?_
 refine WL.y (Y.eql_u (b := 0) rfl rfl) rfl ?_
 refine WL.nil ?_
 refine At.then ?_
 rcases cnd h with ⟨hc12, h⟩ | ⟨hc12, h⟩
 ·refine WC.condT' rfl hc12 ?_
  refine WC.seq ?_
  refine WC.region ?_
  refine WL.y (Y.assign rfl) rfl ?_
  refine WL.nil ?_
  refine At.then ?_
  refine WC.ret ?_
  refine At.thenR ?_
  obtain rfl := some1 h
  have hs13 : Stp [] (Lg.O0 A) w (Lg.O0 A) w := (Stp.refl _ _ _)
  exact At.res (.inl rfl) rfl (.tmp rfl .nil) ⟨rfl, (Stp.ext hs13 rfl rfl)⟩
 ·refine WC.condF' rfl hc12 ?_
  refine WC.skip ?_
  refine At.then ?_
  refine WC.seq ?_
  refine WC.region ?_
  refine WL.y (Y.move rfl) rfl ?_
  refine WL.y (Y.move rfl) rfl ?_
  refine WL.y (Y.neg_u rfl) rfl ?_
  refine WL.y (Y.and_u rfl rfl) rfl ?_
  refine WL.y (Y.mul_u (b := 285870213051353865) rfl rfl) rfl ?_
  refine WL.y (Y.shr_uu (m := 58) rfl rfl) rfl ?_
  obtain ⟨e14, he14, h⟩ := bnd h
  obtain ⟨cs15, hca16, hok17, hi18, hl19⟩ := CAt.idx (R := Rep.b) (A := fun _ => True) hG11 (rowsB gdat1) he14
  obtain rfl := hok17
  replace hca16 : CAt _ _ _ _ _ [vb e14] := hca16
  refine WL.y (Y.indexAddrA ty84 ty5 rfl rfl hi18 hl19) rfl ?_
  refine WL.y (Y.loadSc ty5 rfl rfl hca16.at_) rfl ?_
  refine WL.y (Y.conv_bi ty5.u ty3.u rfl) rfl ?_
  obtain ⟨t20, ht20, h⟩ := lt1 h
  refine WL.yE (Y.assign rfl) (congrArg vi ht20.symm) rfl ?_
  refine WL.nil ?_
  refine At.then ?_
  refine WC.ret ?_
  obtain rfl := some1 h
  have hs21 : Stp [] (Lg.O0 A) w (Lg.O0 A) w := (Stp.refl _ _ _)
  exact At.res (.inl rfl) rfl (.tmp rfl .nil) ⟨rfl, (Stp.ext hs21 rfl rfl)⟩

theorem c_xor_window_holds {A : Nat → Prop} {a0 : xor_window} {a1 : UInt64} {w : World} (hG0 : CellsAt w 0 0 [vi 0, vi 0]) (hGA0 : A 0) (hG1 : CellsAt w 1 0 (gdat1.map vb)) (hGA1 : A 1) {r0 : Bool} (h : xor_window_holds a0 a1 = some r0) : Rets Tryd.prog 31 [Value.agg (List.toArray [vi a0.ahead, vi a0.size]), vu a1] w (fun v w' => v = Value.bool r0 ∧ Ext w w') := by
 unfold xor_window_holds at h
 refine Rets.enter Tryd.func31 rfl rfl ?_
 have hG11 : CAt [0, 1] (Lg.O0 A) w 0 0 [vi 0, vi 0] := CAt.glob hG0 (if_pos hGA0)
 have hG12 : CAt [0, 1] (Lg.O0 A) w 1 0 (gdat1.map vb) := CAt.glob hG1 (if_pos hGA1)
 refine (show WC _ _ _ _ [(0, Value.agg (List.toArray [vi a0.ahead, vi a0.size])), (1, vu a1)] _ from ?_)
 refine WC.seq ?_
 refine WC.region ?_
 refine WL.box (O := (Lg.O0 A)) 11 [vi a0.ahead, vi a0.size] rfl rfl rfl ?_
 intro p14 O15 wd16 hst17 hb13
 refine WL.y (Y.assign rfl) rfl ?_
 refine WL.nil ?_
 refine At.then ?_
 refine WC.seq ?_
 refine WC.drawH [] [0, 1, 2, 3, 4, 5, 6, 7, 8, 9, 10, 11, 12, 13, 14, 15, 16, 17] O15 18 fmix rfl (by kernel_rfl) ?_
 intro wd18 hst19
 refine WD.y 0 rfl (by kernel_rfl) (fun wd21 O20 hst22 => have hf23 := hb13.st hst19 rfl; have hf24 := hf23.st hst22 rfl; Y.loadAg ty60 rfl rfl (hf24.cells 0 [vi a0.ahead, vi a0.size] rfl) rfl) rfl ?_
 refine WD.y 1 rfl (by kernel_rfl) (fun wd26 O25 hst27 => have hf28 := hG11.st hst17 rfl; have hf29 := hf28.st hst19 rfl; have hf30 := hf29.st hst27 rfl; Y.loadAg ty60 rfl rfl hf30.at_ rfl) rfl ?_
 refine WD.y 2 rfl (by kernel_rfl) (fun _ _ _ => Y.neq_ag agok60 rfl rfl (EqF.cons (by decide) (fun w => run_part_plain w (by kernel_rfl) rfl) (fun w => run_part_plain w (by kernel_rfl) rfl) (EqV.i (a := a0.ahead) (b := 0) ty3.u) (EqF.cons (by decide) (fun w => run_part_plain w (by kernel_rfl) rfl) (fun w => run_part_plain w (by kernel_rfl) rfl) (EqV.i (a := a0.size) (b := 0) ty3.u) EqF.nil))) rfl ?_
 refine WD.y 3 rfl (by kernel_rfl) (fun _ _ _ => Y.move rfl) rfl ?_
 obtain ⟨p41, h, hk42⟩ := bnd h
 refine WD.join (σ := (Bool × Own)) (f' := 8) [9, 8, 5, 7, 6, 4, 3, 2, 1, 0] (fun x O' w' => x.1 = p41 ∧ Stp [] O15 wd18 x.2 w' ∧ x.2 = O') (fun x => [(1, vu a1), (2, Value.pointer (some ⟨p14, 0, none⟩)), (4, Value.bool false), (14, Value.bool x.1)]) (fun hJ43 => ?_) ?_
 ·rcases cnd h with ⟨hE44, h⟩ | ⟨hE44, h⟩
  ·refine WD.ren 8 rfl (congrArg Value.bool hE44) ?_
   refine WD.gT 4 rfl (by kernel_rfl) rfl rfl (fun _ _ _ => Y.move rfl) rfl ?_
   refine WD.gT 6 rfl (by kernel_rfl) rfl rfl (fun _ _ _ => Y.fieldAddr fo60_0 rfl) rfl ?_
   refine WD.gT 7 rfl (by kernel_rfl) rfl rfl (fun wd52 O51 hst53 => have hf54 := hb13.st hst19 rfl; have hf55 := hf54.st hst53 rfl; Y.loadSc ty3 rfl rfl (hf55.cell 0 _ rfl)) rfl ?_
   refine WD.heavy 5 rfl (by kernel_rfl) ?_
   refine WL.ung rfl rfl ?_
   obtain ⟨r56, hp57, h⟩ := bnd h
   refine WL.call (vals := [vu a1]) kok40 rfl rfl (c_math_bits_LeadingZeros64 hp57) ?_
   rintro vr60 wd59 ⟨rfl, hm58⟩
   obtain ⟨O61, hold62, hnew63, hst64⟩ := adoptE O15 (fun k => 1) hm58
   refine WL.nil ?_
   refine At.dq (Stp.up hst64 rfl) ?_
   refine WD.gT 8 rfl (by kernel_rfl) rfl rfl (fun _ _ _ => Y.geq_i rfl rfl) rfl ?_
   refine WD.y 9 rfl (by kernel_rfl) (fun _ _ _ => Y.pick (b := true) rfl rfl) rfl ?_
   refine WD.ren 8 rfl (congrArg Value.bool hE44.symm) ?_
   exact hJ43 (decide (a0.ahead ≤ r56), O61) _ _ _ ⟨some1 h, (Stp.up hst64 rfl), rfl⟩ (.cons rfl (.cons rfl (.cons rfl (.cons rfl .nil))))
  ·refine WD.ren 8 rfl (congrArg Value.bool hE44) ?_
   refine WD.gS 4 rfl (by kernel_rfl) rfl rfl rfl rfl ?_
   refine WD.gS 6 rfl (by kernel_rfl) rfl rfl rfl rfl ?_
   refine WD.gS 7 rfl (by kernel_rfl) rfl rfl rfl rfl ?_
   refine WD.heavy 5 rfl (by kernel_rfl) ?_
   refine WL.gS rfl rfl rfl rfl ?_
   refine WL.nil ?_
   refine At.dq (Stp.refl _ _ _) ?_
   refine WD.gS 8 rfl (by kernel_rfl) rfl rfl rfl rfl ?_
   refine WD.y 9 rfl (by kernel_rfl) (fun _ _ _ => Y.pick (b := false) rfl rfl) rfl ?_
   refine WD.ren 8 rfl (congrArg Value.bool hE44.symm) ?_
   exact hJ43 (false, O15) _ _ _ ⟨some1 h, (Stp.refl _ _ _), rfl⟩ (.cons rfl (.cons rfl (.cons rfl (.cons rfl .nil))))
 ·rintro ⟨x37, O38⟩ _ wd39 ⟨rfl, hst40, rfl⟩
  replace h := hk42
  try dsimp only at h hst40
  refine (show WD _ _ _ _ _ _ _ _ [(1, vu a1), (2, Value.pointer (some ⟨p14, 0, none⟩)), (4, Value.bool false), (14, Value.bool x37)] _ _ from ?_)
  refine WD.y 10 rfl (by kernel_rfl) (fun _ _ _ => Y.move rfl) rfl ?_
  obtain ⟨p81, h, hk82⟩ := bnd h
  refine WD.join (σ := (Bool × Own)) (f' := 1) [16, 15, 14, 12, 13, 11, 10, 9, 8, 5, 7, 6, 4, 3, 2, 1, 0] (fun x O' w' => x.1 = p81 ∧ Stp [] O38 wd39 x.2 w' ∧ x.2 = O') (fun x => [(4, Value.bool false), (21, Value.bool x.1)]) (fun hJ83 => ?_) ?_
  ·rcases cnd h with ⟨hE84, h⟩ | ⟨hE84, h⟩
   ·refine WD.ren 15 rfl (congrArg Value.bool hE84) ?_
    refine WD.gT 11 rfl (by kernel_rfl) rfl rfl (fun _ _ _ => Y.move rfl) rfl ?_
    refine WD.gT 13 rfl (by kernel_rfl) rfl rfl (fun wd89 O88 hst90 => have hf91 := hb13.st hst19 rfl; have hf92 := hf91.st hst40 rfl; have hf93 := hf92.st hst90 rfl; Y.loadAg ty60 rfl rfl (hf93.cells 0 [vi a0.ahead, vi a0.size] rfl) rfl) rfl ?_
    refine WD.heavy 12 rfl (by kernel_rfl) ?_
    refine WL.ung rfl rfl ?_
    have hf94 := hG12.st hst17 rfl
    have hf95 := hf94.st hst19 rfl
    have hf96 := hf95.st hst40 rfl
    obtain ⟨r97, hp98, h⟩ := bnd h
    refine WL.call (vals := [vu a1]) kok41 rfl rfl (c_math_bits_TrailingZeros64 (A := fun _ => True) hf96.at_ trivial hp98) ?_
    rintro vr101 wd100 ⟨rfl, hm99⟩
    obtain ⟨O102, hold103, hnew104, hst105⟩ := adoptE O38 (fun k => 1) hm99
    refine WL.nil ?_
    refine At.dq (Stp.up hst105 rfl) ?_
    refine WD.heavy 14 rfl (by kernel_rfl) ?_
    refine WL.ung rfl rfl ?_
    obtain ⟨r106, hp107, h⟩ := bnd h
    refine WL.call (vals := [Value.agg (List.toArray [vi a0.ahead, vi a0.size])]) kok32 rfl rfl (c_xor_window_behind (a0 := a0) hp107) ?_
    rintro vr110 wd109 ⟨rfl, hm108⟩
    obtain ⟨O111, hold112, hnew113, hst114⟩ := adoptE O102 (fun k => 1) hm108
    refine WL.nil ?_
    refine At.dq (Stp.up hst114 rfl) ?_
    refine WD.gT 15 rfl (by kernel_rfl) rfl rfl (fun _ _ _ => Y.geq_i rfl rfl) rfl ?_
    refine WD.y 16 rfl (by kernel_rfl) (fun _ _ _ => Y.pick (b := true) rfl rfl) rfl ?_
    refine WD.ren 15 rfl (congrArg Value.bool hE84.symm) ?_
    exact hJ83 (decide (r106 ≤ r97), O111) _ _ _ ⟨some1 h, (Stp.trans (Stp.up hst105 rfl) (Stp.up hst114 rfl)), rfl⟩ (.cons rfl (.cons rfl .nil))
   ·refine WD.ren 15 rfl (congrArg Value.bool hE84) ?_
    refine WD.gS 11 rfl (by kernel_rfl) rfl rfl rfl rfl ?_
    refine WD.gS 13 rfl (by kernel_rfl) rfl rfl rfl rfl ?_
    refine WD.heavy 12 rfl (by kernel_rfl) ?_
    refine WL.gS rfl rfl rfl rfl ?_
    refine WL.nil ?_
    refine At.dq (Stp.refl _ _ _) ?_
    refine WD.heavy 14 rfl (by kernel_rfl) ?_
    refine WL.gS rfl rfl rfl rfl ?_
    refine WL.nil ?_
    refine At.dq (Stp.refl _ _ _) ?_
    refine WD.gS 15 rfl (by kernel_rfl) rfl rfl rfl rfl ?_
    refine WD.y 16 rfl (by kernel_rfl) (fun _ _ _ => Y.pick (b := false) rfl rfl) rfl ?_
    refine WD.ren 15 rfl (congrArg Value.bool hE84.symm) ?_
    exact hJ83 (false, O38) _ _ _ ⟨some1 h, (Stp.refl _ _ _), rfl⟩ (.cons rfl (.cons rfl .nil))
  ·rintro ⟨x77, O78⟩ _ wd79 ⟨rfl, hst80, rfl⟩
   replace h := hk82
   try dsimp only at h hst80
   refine (show WD _ _ _ _ _ _ _ _ [(4, Value.bool false), (21, Value.bool x77)] _ _ from ?_)
   refine WD.y 17 rfl (by kernel_rfl) (fun _ _ _ => Y.assign rfl) rfl ?_
   refine WD.done_ (by kernel_rfl) ?_
   refine At.then ?_
   refine WC.ret ?_
   obtain rfl := some1 h
   have hs127 : Stp [] (Lg.O0 A) w O78 wd79 := (Stp.trans (Stp.up hst17 rfl) (Stp.trans (Stp.up hst19 rfl) (Stp.trans (Stp.up hst40 rfl) (Stp.up hst80 rfl))))
   exact At.res (.inl rfl) rfl (.tmp rfl .nil) ⟨rfl, (Stp.ext hs127 rfl rfl)⟩

theorem c_xor_around {A : Nat → Prop} {a0 : UInt64} {w : World} (hG1 : CellsAt w 1 0 (gdat1.map vb)) (hGA1 : A 1) {r0 : xor_window} (h : xor_around a0 = some r0) : Rets Tryd.prog 33 [vu a0] w (fun v w' => v = Value.agg (List.toArray [vi r0.ahead, vi r0.size]) ∧ Ext w w') := by
 unfold xor_around at h
 refine Rets.enter Tryd.func33 rfl rfl ?_
 have hG11 : CAt [0, 1] (Lg.O0 A) w 1 0 (gdat1.map vb) := CAt.glob hG1 (if_pos hGA1)
 refine (show WC _ _ _ _ [(0, vu a0)] _ from ?_)
 refine WC.seq ?_
 refine WC.region ?_
 refine WL.alloc (O := (Lg.O0 A)) 11 [vi 0, vi 0] ty60 rfl rfl ?_
 intro p13 O14 wd15 hst16 hb12
 refine WL.nil ?_
 refine At.then ?_
 refine WC.seq ?_
 refine WC.region ?_
 refine WL.y (Y.move rfl) rfl ?_
 obtain ⟨r17, hp18, h⟩ := bnd h
 refine WL.call (vals := [vu a0]) kok40 rfl rfl (c_math_bits_LeadingZeros64 hp18) ?_
 rintro vr21 wd20 ⟨rfl, hm19⟩
 obtain ⟨O22, hold23, hnew24, hst25⟩ := adoptE O14 (fun k => 1) hm19
 refine WL.y (Y.min_i rfl rfl) rfl ?_
 obtain ⟨ahead26, hahead26, h⟩ := lt1 h
 refine WL.yE (Y.assign rfl) (congrArg vi hahead26.symm) rfl ?_
 refine WL.nil ?_
 refine At.then ?_
 refine WC.seq ?_
 refine WC.region ?_
 refine WL.y (Y.move rfl) rfl ?_
 refine WL.y (Y.move rfl) rfl ?_
 refine WL.y (Y.sub_i rfl rfl) rfl ?_
 refine WL.y (Y.move rfl) rfl ?_
 have hf27 := hG11.st hst16 rfl
 have hf28 := hf27.st hst25 rfl
 obtain ⟨r29, hp30, h⟩ := bnd h
 refine WL.call (vals := [vu a0]) kok41 rfl rfl (c_math_bits_TrailingZeros64 (A := fun _ => True) hf28.at_ trivial hp30) ?_
 rintro vr33 wd32 ⟨rfl, hm31⟩
 obtain ⟨O34, hold35, hnew36, hst37⟩ := adoptE O22 (fun k => 1) hm31
 refine WL.y (Y.sub_i rfl rfl) rfl ?_
 refine WL.y (Y.build (vals := [(0, vi ahead26), (1, vi (w64 ((w64 (64 - ahead26)) - r29)))]) (cells := [vi ahead26, vi (w64 ((w64 (64 - ahead26)) - r29))]) (Fits.evalp rfl) (by kernel_rfl)) rfl ?_
 have hf38 := hb12.st hst25 rfl
 have hf39 := hf38.st hst37 rfl
 refine WL.store (v := Value.agg (List.toArray [vi ahead26, vi (w64 ((w64 (64 - ahead26)) - r29))])) (cells' := [vi ahead26, vi (w64 ((w64 (64 - ahead26)) - r29))]) ty60 rfl rfl hf39 rfl (Nat.le_of_ble_eq_true rfl) rfl rfl ?_
 intro wd40 hst41 hb42
 refine WL.nil ?_
 refine At.then ?_
 refine WC.ret ?_
 obtain rfl := some1 h
 have hs43 : Stp [11] (Lg.O0 A) w O34 wd40 := (Stp.trans (Stp.up hst16 rfl) (Stp.trans (Stp.up hst25 rfl) (Stp.trans (Stp.up hst37 rfl) (Stp.up hst41 rfl))))
 exact At.res (.inl rfl) rfl (.cell rfl (hb42.runAg 0 [vi ahead26, vi (w64 ((w64 (64 - ahead26)) - r29))] ty60 rfl rfl rfl) .nil) ⟨rfl, (Stp.ext hs43 rfl rfl)⟩

theorem c_xor_Row_Put {A : Nat → Prop} {a0 : xor_Row} {b0 : Nat} {v1_0 : Value} {a1 : bitio_Writer} {b1 : Nat} {a2 : UInt64} {w : World} (hb0 : w.heap[b0]? = some (.cells (List.toArray [vi a0.n, vu a0.last, vi a0.win.ahead, vi a0.win.size]) 62 (0, 0))) (hs1_0 : Row Rep.b 5 w v1_0 a1.b) (hb1 : w.heap[b1]? = some (.cells (List.toArray [v1_0, vi a1.n]) 64 (0, 0))) (hG0 : CellsAt w 0 0 [vi 0, vi 0]) (hGA0 : A 0) (hG1 : CellsAt w 1 0 (gdat1.map vb)) (hGA1 : A 1) (hne0_1 : b0 ≠ b1) (hne0_2 : Value.ownBlock v1_0 ≠ some b0) (hne1_2 : Value.ownBlock v1_0 ≠ some b1) (hA : ∀ k, A k → k ≠ b0 ∧ k ≠ b1 ∧ Value.ownBlock v1_0 ≠ some k) {q0 : xor_Row} {q1 : bitio_Writer} (h : xor_Row_Put a0 a1 a2 = some (q0, q1)) : Rets Tryd.prog 16 [Value.pointer (some ⟨b0, 0, none⟩), Value.pointer (some ⟨b1, 0, none⟩), vu a2] w (fun v w' => ∃ (z1_0 : Value), v = Value.tuple (List.toArray []) ∧ Mod (fun k => k = b0 ∨ k = b1 ∨ Value.ownBlock v1_0 = some k) w w' ∧ w'.heap[b0]? = some (.cells (List.toArray [vi q0.n, vu q0.last, vi q0.win.ahead, vi q0.win.size]) 62 (0, 0)) ∧ RowG Rep.b 5 w w' v1_0 z1_0 q1.b ∧ w'.heap[b1]? = some (.cells (List.toArray [z1_0, vi q1.n]) 64 (0, 0))) := by
 unfold xor_Row_Put at h
 refine Rets.enter Tryd.func16 rfl rfl ?_
 have hb11 : Blk 3 (Lg.OB b0 3 (Lg.OB b1 4 (Lg.OV v1_0 5 (Lg.O0 A)))) w b0 62 [vi a0.n, vu a0.last, vi a0.win.ahead, vi a0.win.size] := ⟨(if_pos rfl), hb0⟩
 have ho12 : OwnSl 5 Rep.b 5 (Lg.OB b0 3 (Lg.OB b1 4 (Lg.OV v1_0 5 (Lg.O0 A)))) w v1_0 a1.b := Row.start Flat.b hs1_0 (fun k hk => ((if_neg (fun (e : k = b0) => hne0_2 (e ▸ hk))).trans ((if_neg (fun (e : k = b1) => hne1_2 (e ▸ hk))).trans (if_pos hk))))
 have hb13 : Blk 4 (Lg.OB b0 3 (Lg.OB b1 4 (Lg.OV v1_0 5 (Lg.O0 A)))) w b1 64 [v1_0, vi a1.n] := ⟨((if_neg (fun (e : b1 = b0) => hne0_1 e.symm)).trans (if_pos rfl)), hb1⟩
 have hG14 : CAt [0, 1] (Lg.OB b0 3 (Lg.OB b1 4 (Lg.OV v1_0 5 (Lg.O0 A)))) w 0 0 [vi 0, vi 0] := CAt.glob hG0 ((if_neg (hA _ hGA0).1).trans ((if_neg (hA _ hGA0).2.1).trans ((if_neg (hA _ hGA0).2.2).trans (if_pos hGA0))))
 have hG15 : CAt [0, 1] (Lg.OB b0 3 (Lg.OB b1 4 (Lg.OV v1_0 5 (Lg.O0 A)))) w 1 0 (gdat1.map vb) := CAt.glob hG1 ((if_neg (hA _ hGA1).1).trans ((if_neg (hA _ hGA1).2.1).trans ((if_neg (hA _ hGA1).2.2).trans (if_pos hGA1))))
 refine (show WC _ _ _ _ [(0, Value.pointer (some ⟨b0, 0, none⟩)), (1, Value.pointer (some ⟨b1, 0, none⟩)), (2, vu a2)] _ from ?_)
 refine WC.seq ?_
 refine WC.region ?_
 refine WL.y (Y.move rfl) rfl ?_
 refine WL.y (Y.move rfl) rfl ?_
 refine WL.y (Y.nilCheck rfl) rfl ?_
 refine WL.y (Y.fieldAddr fo62_1 rfl) rfl ?_
 refine WL.y (Y.loadSc ty23 rfl rfl (hb11.cell 1 _ rfl)) rfl ?_
 refine WL.y (Y.xor_u rfl rfl) rfl ?_
 obtain ⟨d16, hd16, h⟩ := lt1 h
 refine WL.yE (Y.assign rfl) (congrArg vu hd16.symm) rfl ?_
 refine WL.nil ?_
 refine At.then ?_
 refine WC.seq ?_
 obtain ⟨p28, h, hk29⟩ := bnd h
 refine WC.join (σ := (Int × Int × List UInt8 × Int × Own × Value)) (fun x w' => (x.1, x.2.1, x.2.2.1, x.2.2.2.1) = p28 ∧ Stp [3, 4, 5] (Lg.OB b0 3 (Lg.OB b1 4 (Lg.OV v1_0 5 (Lg.O0 A)))) w x.2.2.2.2.1 w' ∧ Blk 3 x.2.2.2.2.1 w' b0 62 [vi a0.n, vu a0.last, vi x.1, vi x.2.1] ∧ OwnSl 5 Rep.b 5 x.2.2.2.2.1 w' x.2.2.2.2.2 x.2.2.1 ∧ Blk 4 x.2.2.2.2.1 w' b1 64 [x.2.2.2.2.2, vi x.2.2.2.1]) (fun x => [(0, Value.pointer (some ⟨b0, 0, none⟩)), (2, vu a2)]) ?_ ?_
 ·refine WC.block ?_
  refine WC.seq ?_
  refine WC.region ?_
  refine WL.y (Y.move rfl) rfl ?_
  refine WL.y (Y.nilCheck rfl) rfl ?_
  refine WL.y (Y.fieldAddr fo62_0 rfl) rfl ?_
  refine WL.y (Y.loadSc ty3 rfl rfl (hb11.cell 0 _ rfl)) rfl ?_
  refine WL.y (Y.eql_i rfl rfl) rfl ?_
  obtain ⟨t30, ht30, h⟩ := lt1 h
  refine WL.yE (Y.assign rfl) (congrArg Value.bool ht30.symm) rfl ?_
  refine WL.nil ?_
  refine At.then ?_
  rcases cnd h with ⟨hc31, h⟩ | ⟨hc31, h⟩
  ·refine WC.condT' rfl hc31 ?_
   refine WC.region ?_
   refine WL.y (Y.move rfl) rfl ?_
   refine WL.y (Y.move rfl) rfl ?_
   obtain ⟨⟨r32, r33⟩, hp34, h⟩ := bnd h
   refine WL.call (vals := [Value.pointer (some ⟨b1, 0, none⟩), vu a2, vi 64]) kok30 rfl rfl (c_bitio_Writer_Put (a0 := a1) ho12.row hb13.blk (ne_lab ho12 hb13.lab rfl) hp34) ?_
   rintro vr40 wd39 ⟨z35, rfl, hm38, f36, f37⟩
   obtain ⟨O41, hold42, hnew43, hst44⟩ := adopt (Lg.OB b0 3 (Lg.OB b1 4 (Lg.OV v1_0 5 (Lg.O0 A)))) (fun k => if Value.ownBlock z35 = some k then 5 else 1) [4, 5] hm38 (memOr (memB hb13.lab rfl) (memV ho12.labs rfl))
   have ho45 : OwnSl 5 Rep.b 5 O41 wd39 z35 r33.b := RowG.adopt Flat.b ho12.labs f36 hold42 hnew43 (fun k hk => if_pos hk)
   have hb46 : Blk 4 O41 wd39 b1 64 [z35, vi r33.n] := Blk.adopt hb13 hold42 f37
   refine WL.nil ?_
   refine At.inBlock ?_
   have hf47 := hb11.st hst44 rfl
   exact At.join (σ := (Int × Int × List UInt8 × Int × Own × Value)) (a0.win.ahead, a0.win.size, r33.b, r33.n, O41, z35) ⟨some1 h, (Stp.up hst44 rfl), hf47, ho45, hb46⟩ (.cons rfl (.cons rfl .nil))
  ·refine WC.condF' rfl hc31 ?_
   refine WC.seq ?_
   refine WC.region ?_
   refine WL.y (Y.move rfl) rfl ?_
   refine WL.y (Y.eql_u (b := 0) rfl rfl) rfl ?_
   obtain ⟨t48, ht48, h⟩ := lt1 h
   refine WL.yE (Y.assign rfl) (congrArg Value.bool ht48.symm) rfl ?_
   refine WL.nil ?_
   refine At.then ?_
   rcases cnd h with ⟨hc49, h⟩ | ⟨hc49, h⟩
   ·refine WC.condT' rfl hc49 ?_
    refine WC.region ?_
    refine WL.y (Y.move rfl) rfl ?_
    obtain ⟨⟨r50, r51⟩, hp52, h⟩ := bnd h
    refine WL.call (vals := [Value.pointer (some ⟨b1, 0, none⟩), vu 0, vi 1]) kok30 rfl rfl (c_bitio_Writer_Put (a0 := a1) ho12.row hb13.blk (ne_lab ho12 hb13.lab rfl) hp52) ?_
    rintro vr58 wd57 ⟨z53, rfl, hm56, f54, f55⟩
    obtain ⟨O59, hold60, hnew61, hst62⟩ := adopt (Lg.OB b0 3 (Lg.OB b1 4 (Lg.OV v1_0 5 (Lg.O0 A)))) (fun k => if Value.ownBlock z53 = some k then 5 else 1) [4, 5] hm56 (memOr (memB hb13.lab rfl) (memV ho12.labs rfl))
    have ho63 : OwnSl 5 Rep.b 5 O59 wd57 z53 r51.b := RowG.adopt Flat.b ho12.labs f54 hold60 hnew61 (fun k hk => if_pos hk)
    have hb64 : Blk 4 O59 wd57 b1 64 [z53, vi r51.n] := Blk.adopt hb13 hold60 f55
    refine WL.nil ?_
    refine At.inBlock ?_
    have hf65 := hb11.st hst62 rfl
    exact At.join (σ := (Int × Int × List UInt8 × Int × Own × Value)) (a0.win.ahead, a0.win.size, r51.b, r51.n, O59, z53) ⟨some1 h, (Stp.up hst62 rfl), hf65, ho63, hb64⟩ (.cons rfl (.cons rfl .nil))
   ·refine WC.condF' rfl hc49 ?_
    refine WC.seq ?_
    refine WC.region ?_
    refine WL.y (Y.move rfl) rfl ?_
    refine WL.y (Y.nilCheck rfl) rfl ?_
    refine WL.y (Y.fieldAddr fo62_2 rfl) rfl ?_
    refine WL.y (Y.loadAg ty60 rfl rfl (hb11.cells 2 [vi a0.win.ahead, vi a0.win.size] rfl) rfl) rfl ?_
    refine WL.y (Y.move rfl) rfl ?_
    obtain ⟨r66, hp67, h⟩ := bnd h
    refine WL.call (vals := [Value.agg (List.toArray [vi a0.win.ahead, vi a0.win.size]), vu d16]) kok31 rfl rfl (c_xor_window_holds (A := fun _ => True) (a0 := a0.win) hG14.at_ trivial hG15.at_ trivial hp67) ?_
    rintro vr70 wd69 ⟨rfl, hm68⟩
    obtain ⟨O71, hold72, hnew73, hst74⟩ := adoptE (Lg.OB b0 3 (Lg.OB b1 4 (Lg.OV v1_0 5 (Lg.O0 A)))) (fun k => 1) hm68
    refine WL.y (Y.assign rfl) rfl ?_
    refine WL.nil ?_
    refine At.then ?_
    rcases cnd h with ⟨hc75, h⟩ | ⟨hc75, h⟩
    ·refine WC.condT' rfl hc75 ?_
     refine WC.seq ?_
     refine WC.region ?_
     refine WL.y (Y.move rfl) rfl ?_
     have hf76 := ho12.st hst74 rfl rfl rfl
     have hf77 := hb13.st hst74 rfl
     obtain ⟨⟨r78, r79⟩, hp80, h⟩ := bnd h
     refine WL.call (vals := [Value.pointer (some ⟨b1, 0, none⟩), vu 2, vi 2]) kok30 rfl rfl (c_bitio_Writer_Put (a0 := a1) hf76.row hf77.blk (ne_lab hf76 hf77.lab rfl) hp80) ?_
     rintro vr86 wd85 ⟨z81, rfl, hm84, f82, f83⟩
     obtain ⟨O87, hold88, hnew89, hst90⟩ := adopt O71 (fun k => if Value.ownBlock z81 = some k then 5 else 1) [4, 5] hm84 (memOr (memB hf77.lab rfl) (memV hf76.labs rfl))
     have ho91 : OwnSl 5 Rep.b 5 O87 wd85 z81 r79.b := RowG.adopt Flat.b hf76.labs f82 hold88 hnew89 (fun k hk => if_pos hk)
     have hb92 : Blk 4 O87 wd85 b1 64 [z81, vi r79.n] := Blk.adopt hf77 hold88 f83
     refine WL.nil ?_
     refine At.then ?_
     refine WC.drawH [4, 5] [0, 1, 2, 3, 4, 5, 6, 7, 8, 9, 10, 11, 12, 13, 14] O87 15 fmix rfl (by kernel_rfl) ?_
     intro wd93 hst94
     refine WD.y 0 rfl (by kernel_rfl) (fun _ _ _ => Y.move rfl) rfl ?_
     refine WD.y 1 rfl (by kernel_rfl) (fun _ _ _ => Y.move rfl) rfl ?_
     refine WD.y 2 rfl (by kernel_rfl) (fun _ _ _ => Y.move rfl) rfl ?_
     refine WD.y 3 rfl (by kernel_rfl) (fun _ _ _ => Y.nilCheck rfl) rfl ?_
     refine WD.y 4 rfl (by kernel_rfl) (fun _ _ _ => Y.fieldAddr fo62_2 rfl) rfl ?_
     refine WD.y 5 rfl (by kernel_rfl) (fun wd111 O110 hst112 => have hf113 := hb11.st hst74 rfl; have hf114 := hf113.st hst90 rfl; have hf115 := hf114.st hst94 rfl; have hf116 := hf115.st hst112 rfl; Y.loadAg ty60 rfl rfl (hf116.cells 2 [vi a0.win.ahead, vi a0.win.size] rfl) rfl) rfl ?_
     refine WD.y 9 rfl (by kernel_rfl) (fun _ _ _ => Y.move rfl) rfl ?_
     refine WD.y 10 rfl (by kernel_rfl) (fun _ _ _ => Y.nilCheck rfl) rfl ?_
     refine WD.y 11 rfl (by kernel_rfl) (fun _ _ _ => Y.fieldAddr fo62_2 rfl) rfl ?_
     refine WD.y 12 rfl (by kernel_rfl) (fun _ _ _ => Y.fieldAddr fo60_1 rfl) rfl ?_
     refine WD.y 13 rfl (by kernel_rfl) (fun wd130 O129 hst131 => have hf132 := hb11.st hst74 rfl; have hf133 := hf132.st hst90 rfl; have hf134 := hf133.st hst94 rfl; have hf135 := hf134.st hst131 rfl; Y.loadSc ty3 rfl rfl (hf135.cell 3 _ rfl)) rfl ?_
     refine WD.heavy 6 rfl (by kernel_rfl) ?_
     obtain ⟨r136, hp137, h⟩ := bnd h
     refine WL.call (vals := [Value.agg (List.toArray [vi a0.win.ahead, vi a0.win.size])]) kok32 rfl rfl (c_xor_window_behind (a0 := a0.win) hp137) ?_
     rintro vr140 wd139 ⟨rfl, hm138⟩
     obtain ⟨O141, hold142, hnew143, hst144⟩ := adoptE O87 (fun k => 1) hm138
     refine WL.nil ?_
     refine At.dq (Stp.up hst144 rfl) ?_
     refine WD.y 7 rfl (by kernel_rfl) (fun _ _ _ => Y.conv_iu ty3.u ty55.u rfl) rfl ?_
     refine WD.y 8 rfl (by kernel_rfl) (fun _ _ _ => Y.shr_uu rfl rfl) rfl ?_
     refine WD.heavy 14 rfl (by kernel_rfl) ?_
     have hf151 := ho91.st hst94 rfl rfl rfl
     have hf152 := hf151.st hst144 rfl rfl rfl
     have hf153 := hb92.st hst94 rfl
     have hf154 := hf153.st hst144 rfl
     obtain ⟨⟨r155, r156⟩, hp157, h⟩ := bnd h
     refine WL.call (vals := [Value.pointer (some ⟨b1, 0, none⟩), vu (shrU d16 ((toU64 r136).toNat)), vi a0.win.size]) kok30 rfl rfl (c_bitio_Writer_Put (a0 := r79) hf152.row hf154.blk (ne_lab hf152 hf154.lab rfl) hp157) ?_
     rintro vr163 wd162 ⟨z158, rfl, hm161, f159, f160⟩
     obtain ⟨O164, hold165, hnew166, hst167⟩ := adopt O141 (fun k => if Value.ownBlock z158 = some k then 5 else 1) [4, 5] hm161 (memOr (memB hf154.lab rfl) (memV hf152.labs rfl))
     have ho168 : OwnSl 5 Rep.b 5 O164 wd162 z158 r156.b := RowG.adopt Flat.b hf152.labs f159 hold165 hnew166 (fun k hk => if_pos hk)
     have hb169 : Blk 4 O164 wd162 b1 64 [z158, vi r156.n] := Blk.adopt hf154 hold165 f160
     refine WL.nil ?_
     refine At.dq (Stp.up hst167 rfl) ?_
     refine WD.done_ (by kernel_rfl) ?_
     refine At.inBlock ?_
     have hf170 := hb11.st hst74 rfl
     have hf171 := hf170.st hst90 rfl
     have hf172 := hf171.st hst94 rfl
     have hf173 := hf172.st hst144 rfl
     have hf174 := hf173.st hst167 rfl
     exact At.join (σ := (Int × Int × List UInt8 × Int × Own × Value)) (a0.win.ahead, a0.win.size, r156.b, r156.n, O164, z158) ⟨some1 h, (Stp.trans (Stp.up hst74 rfl) (Stp.trans (Stp.up hst90 rfl) (Stp.trans (Stp.up hst94 rfl) (Stp.trans (Stp.up hst144 rfl) (Stp.up hst167 rfl))))), hf174, ho168, hb169⟩ (.cons rfl (.cons rfl .nil))
    ·refine WC.condF' rfl hc75 ?_
     refine WC.seq ?_
     refine WC.region ?_
     refine WL.y (Y.move rfl) rfl ?_
     refine WL.y (Y.move rfl) rfl ?_
     have hf175 := hG15.st hst74 rfl
     obtain ⟨r176, hp177, h⟩ := bnd h
     refine WL.call (vals := [vu d16]) kok33 rfl rfl (c_xor_around (A := fun _ => True) hf175.at_ trivial hp177) ?_
     rintro vr180 wd179 ⟨rfl, hm178⟩
     obtain ⟨O181, hold182, hnew183, hst184⟩ := adoptE O71 (fun k => 1) hm178
     refine WL.y (Y.nilCheck rfl) rfl ?_
     refine WL.y (Y.fieldAddr fo62_2 rfl) rfl ?_
     have hf185 := hb11.st hst74 rfl
     have hf186 := hf185.st hst184 rfl
     refine WL.store (v := Value.agg (List.toArray [vi r176.ahead, vi r176.size])) (cells' := [vi a0.n, vu a0.last, vi r176.ahead, vi r176.size]) ty60 rfl rfl hf186 rfl (Nat.le_of_ble_eq_true rfl) rfl rfl ?_
     intro wd187 hst188 hb189
     refine WL.nil ?_
     refine At.then ?_
     refine WC.seq ?_
     refine WC.region ?_
     refine WL.y (Y.move rfl) rfl ?_
     have hf190 := ho12.st hst74 rfl rfl rfl
     have hf191 := hf190.st hst184 rfl rfl rfl
     have hf192 := hf191.st hst188 rfl rfl rfl
     have hf193 := hb13.st hst74 rfl
     have hf194 := hf193.st hst184 rfl
     have hf195 := hf194.st hst188 rfl
     obtain ⟨⟨r196, r197⟩, hp198, h⟩ := bnd h
     refine WL.call (vals := [Value.pointer (some ⟨b1, 0, none⟩), vu 3, vi 2]) kok30 rfl rfl (c_bitio_Writer_Put (a0 := a1) hf192.row hf195.blk (ne_lab hf192 hf195.lab rfl) hp198) ?_
     rintro vr204 wd203 ⟨z199, rfl, hm202, f200, f201⟩
     obtain ⟨O205, hold206, hnew207, hst208⟩ := adopt O181 (fun k => if Value.ownBlock z199 = some k then 5 else 1) [4, 5] hm202 (memOr (memB hf195.lab rfl) (memV hf192.labs rfl))
     have ho209 : OwnSl 5 Rep.b 5 O205 wd203 z199 r197.b := RowG.adopt Flat.b hf192.labs f200 hold206 hnew207 (fun k hk => if_pos hk)
     have hb210 : Blk 4 O205 wd203 b1 64 [z199, vi r197.n] := Blk.adopt hf195 hold206 f201
     refine WL.nil ?_
     refine At.then ?_
     refine WC.seq ?_
     refine WC.region ?_
     refine WL.y (Y.move rfl) rfl ?_
     refine WL.y (Y.move rfl) rfl ?_
     refine WL.y (Y.nilCheck rfl) rfl ?_
     refine WL.y (Y.fieldAddr fo62_2 rfl) rfl ?_
     refine WL.y (Y.fieldAddr fo60_0 rfl) rfl ?_
     have hf211 := hb189.st hst208 rfl
     refine WL.y (Y.loadSc ty3 rfl rfl (hf211.cell 2 _ rfl)) rfl ?_
     refine WL.y (Y.conv_iu ty3.u ty23.u rfl) rfl ?_
     obtain ⟨⟨r212, r213⟩, hp214, h⟩ := bnd h
     refine WL.call (vals := [Value.pointer (some ⟨b1, 0, none⟩), vu (toU64 r176.ahead), vi 5]) kok30 rfl rfl (c_bitio_Writer_Put (a0 := r197) ho209.row hb210.blk (ne_lab ho209 hb210.lab rfl) hp214) ?_
     rintro vr220 wd219 ⟨z215, rfl, hm218, f216, f217⟩
     obtain ⟨O221, hold222, hnew223, hst224⟩ := adopt O205 (fun k => if Value.ownBlock z215 = some k then 5 else 1) [4, 5] hm218 (memOr (memB hb210.lab rfl) (memV ho209.labs rfl))
     have ho225 : OwnSl 5 Rep.b 5 O221 wd219 z215 r213.b := RowG.adopt Flat.b ho209.labs f216 hold222 hnew223 (fun k hk => if_pos hk)
     have hb226 : Blk 4 O221 wd219 b1 64 [z215, vi r213.n] := Blk.adopt hb210 hold222 f217
     refine WL.nil ?_
     refine At.then ?_
     refine WC.seq ?_
     refine WC.region ?_
     refine WL.y (Y.move rfl) rfl ?_
     refine WL.y (Y.move rfl) rfl ?_
     refine WL.y (Y.nilCheck rfl) rfl ?_
     refine WL.y (Y.fieldAddr fo62_2 rfl) rfl ?_
     refine WL.y (Y.fieldAddr fo60_1 rfl) rfl ?_
     have hf227 := hf211.st hst224 rfl
     refine WL.y (Y.loadSc ty3 rfl rfl (hf227.cell 3 _ rfl)) rfl ?_
     refine WL.y (Y.sub_i rfl rfl) rfl ?_
     refine WL.y (Y.conv_iu ty3.u ty23.u rfl) rfl ?_
     obtain ⟨⟨r228, r229⟩, hp230, h⟩ := bnd h
     refine WL.call (vals := [Value.pointer (some ⟨b1, 0, none⟩), vu (toU64 (w64 (r176.size - 1))), vi 6]) kok30 rfl rfl (c_bitio_Writer_Put (a0 := r213) ho225.row hb226.blk (ne_lab ho225 hb226.lab rfl) hp230) ?_
     rintro vr236 wd235 ⟨z231, rfl, hm234, f232, f233⟩
     obtain ⟨O237, hold238, hnew239, hst240⟩ := adopt O221 (fun k => if Value.ownBlock z231 = some k then 5 else 1) [4, 5] hm234 (memOr (memB hb226.lab rfl) (memV ho225.labs rfl))
     have ho241 : OwnSl 5 Rep.b 5 O237 wd235 z231 r229.b := RowG.adopt Flat.b ho225.labs f232 hold238 hnew239 (fun k hk => if_pos hk)
     have hb242 : Blk 4 O237 wd235 b1 64 [z231, vi r229.n] := Blk.adopt hb226 hold238 f233
     refine WL.nil ?_
     refine At.then ?_
     refine WC.drawH [4, 5] [0, 1, 2, 3, 4, 5, 6, 7, 8, 9, 10, 11, 12, 13, 14] O237 15 fmix rfl (by kernel_rfl) ?_
     intro wd243 hst244
     refine WD.y 0 rfl (by kernel_rfl) (fun _ _ _ => Y.move rfl) rfl ?_
     refine WD.y 1 rfl (by kernel_rfl) (fun _ _ _ => Y.move rfl) rfl ?_
     refine WD.y 2 rfl (by kernel_rfl) (fun _ _ _ => Y.move rfl) rfl ?_
     refine WD.y 3 rfl (by kernel_rfl) (fun _ _ _ => Y.nilCheck rfl) rfl ?_
     refine WD.y 4 rfl (by kernel_rfl) (fun _ _ _ => Y.fieldAddr fo62_2 rfl) rfl ?_
     refine WD.y 5 rfl (by kernel_rfl) (fun wd261 O260 hst262 => have hf263 := hf227.st hst240 rfl; have hf264 := hf263.st hst244 rfl; have hf265 := hf264.st hst262 rfl; Y.loadAg ty60 rfl rfl (hf265.cells 2 [vi r176.ahead, vi r176.size] rfl) rfl) rfl ?_
     refine WD.y 9 rfl (by kernel_rfl) (fun _ _ _ => Y.move rfl) rfl ?_
     refine WD.y 10 rfl (by kernel_rfl) (fun _ _ _ => Y.nilCheck rfl) rfl ?_
     refine WD.y 11 rfl (by kernel_rfl) (fun _ _ _ => Y.fieldAddr fo62_2 rfl) rfl ?_
     refine WD.y 12 rfl (by kernel_rfl) (fun _ _ _ => Y.fieldAddr fo60_1 rfl) rfl ?_
     refine WD.y 13 rfl (by kernel_rfl) (fun wd279 O278 hst280 => have hf281 := hf227.st hst240 rfl; have hf282 := hf281.st hst244 rfl; have hf283 := hf282.st hst280 rfl; Y.loadSc ty3 rfl rfl (hf283.cell 3 _ rfl)) rfl ?_
     refine WD.heavy 6 rfl (by kernel_rfl) ?_
     obtain ⟨r284, hp285, h⟩ := bnd h
     refine WL.call (vals := [Value.agg (List.toArray [vi r176.ahead, vi r176.size])]) kok32 rfl rfl (c_xor_window_behind (a0 := r176) hp285) ?_
     rintro vr288 wd287 ⟨rfl, hm286⟩
     obtain ⟨O289, hold290, hnew291, hst292⟩ := adoptE O237 (fun k => 1) hm286
     refine WL.nil ?_
     refine At.dq (Stp.up hst292 rfl) ?_
     refine WD.y 7 rfl (by kernel_rfl) (fun _ _ _ => Y.conv_iu ty3.u ty55.u rfl) rfl ?_
     refine WD.y 8 rfl (by kernel_rfl) (fun _ _ _ => Y.shr_uu rfl rfl) rfl ?_
     refine WD.heavy 14 rfl (by kernel_rfl) ?_
     have hf299 := ho241.st hst244 rfl rfl rfl
     have hf300 := hf299.st hst292 rfl rfl rfl
     have hf301 := hb242.st hst244 rfl
     have hf302 := hf301.st hst292 rfl
     obtain ⟨⟨r303, r304⟩, hp305, h⟩ := bnd h
     refine WL.call (vals := [Value.pointer (some ⟨b1, 0, none⟩), vu (shrU d16 ((toU64 r284).toNat)), vi r176.size]) kok30 rfl rfl (c_bitio_Writer_Put (a0 := r229) hf300.row hf302.blk (ne_lab hf300 hf302.lab rfl) hp305) ?_
     rintro vr311 wd310 ⟨z306, rfl, hm309, f307, f308⟩
     obtain ⟨O312, hold313, hnew314, hst315⟩ := adopt O289 (fun k => if Value.ownBlock z306 = some k then 5 else 1) [4, 5] hm309 (memOr (memB hf302.lab rfl) (memV hf300.labs rfl))
     have ho316 : OwnSl 5 Rep.b 5 O312 wd310 z306 r304.b := RowG.adopt Flat.b hf300.labs f307 hold313 hnew314 (fun k hk => if_pos hk)
     have hb317 : Blk 4 O312 wd310 b1 64 [z306, vi r304.n] := Blk.adopt hf302 hold313 f308
     refine WL.nil ?_
     refine At.dq (Stp.up hst315 rfl) ?_
     refine WD.done_ (by kernel_rfl) ?_
     refine At.inBlock ?_
     have hf318 := hf227.st hst240 rfl
     have hf319 := hf318.st hst244 rfl
     have hf320 := hf319.st hst292 rfl
     have hf321 := hf320.st hst315 rfl
     exact At.join (σ := (Int × Int × List UInt8 × Int × Own × Value)) (r176.ahead, r176.size, r304.b, r304.n, O312, z306) ⟨some1 h, (Stp.trans (Stp.up hst74 rfl) (Stp.trans (Stp.up hst184 rfl) (Stp.trans (Stp.up hst188 rfl) (Stp.trans (Stp.up hst208 rfl) (Stp.trans (Stp.up hst224 rfl) (Stp.trans (Stp.up hst240 rfl) (Stp.trans (Stp.up hst244 rfl) (Stp.trans (Stp.up hst292 rfl) (Stp.up hst315 rfl))))))))), hf321, ho316, hb317⟩ (.cons rfl (.cons rfl .nil))
 ·rintro ⟨c18, c19, c21, c24, O25, v22⟩ wd26 ⟨rfl, hst27, hb17, hf23, hb20⟩
  replace h := hk29
  try dsimp only at h hst27 hb17 hf23 hb20
  refine (show At _ _ _ [(0, Value.pointer (some ⟨b0, 0, none⟩)), (2, vu a2)] _ from ?_)
  refine At.then ?_
  refine WC.seq ?_
  refine WC.region ?_
  refine WL.y (Y.move rfl) rfl ?_
  refine WL.y (Y.nilCheck rfl) rfl ?_
  refine WL.y (Y.fieldAddr fo62_0 rfl) rfl ?_
  refine WL.y (Y.loadSc ty3 rfl rfl (hb17.cell 0 _ rfl)) rfl ?_
  refine WL.y (Y.add_i rfl rfl) rfl ?_
  refine WL.y (Y.nilCheck rfl) rfl ?_
  refine WL.y (Y.fieldAddr fo62_0 rfl) rfl ?_
  obtain ⟨t322, ht322, h⟩ := lt1 h
  refine WL.ren 94 rfl (congrArg vi ht322.symm) ?_
  refine WL.store (v := vi t322) (cells' := [vi t322, vu a0.last, vi c18, vi c19]) ty3 rfl rfl hb17 rfl (Nat.le_of_ble_eq_true rfl) rfl rfl ?_
  intro wd323 hst324 hb325
  refine WL.nil ?_
  refine At.then ?_
  refine WC.region ?_
  refine WL.y (Y.move rfl) rfl ?_
  refine WL.y (Y.move rfl) rfl ?_
  refine WL.y (Y.nilCheck rfl) rfl ?_
  refine WL.y (Y.fieldAddr fo62_1 rfl) rfl ?_
  refine WL.store (v := vu a2) (cells' := [vi t322, vu a2, vi c18, vi c19]) ty23 rfl rfl hb325 rfl (Nat.le_of_ble_eq_true rfl) rfl rfl ?_
  intro wd326 hst327 hb328
  refine WL.nil ?_
  obtain ⟨rfl, rfl⟩ := tup2 h
  have hs329 : Stp [3, 4, 5] (Lg.OB b0 3 (Lg.OB b1 4 (Lg.OV v1_0 5 (Lg.O0 A)))) w O25 wd326 := (Stp.trans (Stp.up hst27 rfl) (Stp.trans (Stp.up hst324 rfl) (Stp.up hst327 rfl)))
  have hf330 := hb20.st hst324 rfl
  have hf331 := hf330.st hst327 rfl
  have hf332 := hf23.st hst324 rfl rfl rfl
  have hf333 := hf332.st hst327 rfl rfl rfl
  exact At.res (.inr rfl) rfl .nil ⟨v22, rfl, (Stp.modL hs329 (sB (sB sV1)) rfl rfl), hb328.blk, (OwnSl.outG hf333 hs329 (lowB (lowB (lowV low0 rfl rfl) rfl rfl) rfl rfl) (lsB (lsB (lbV (ln0 rfl)) rfl) rfl)), hf331.blk⟩

theorem c_bitio_Writer_Len {A : Nat → Prop} {v0_0 : Value} {a0 : bitio_Writer} {b0 : Nat} {w : World} (hs0_0 : Sl Rep.b w A v0_0 a0.b) (hb0 : w.heap[b0]? = some (.cells (List.toArray [v0_0, vi a0.n]) 64 (0, 0))) (hm0 : A b0) {r0 : Int} (h : bitio_Writer_Len a0 = some r0) : Rets Tryd.prog 17 [Value.pointer (some ⟨b0, 0, none⟩)] w (fun v w' => v = vi r0 ∧ Ext w w') := by
 unfold bitio_Writer_Len at h
 refine Rets.enter Tryd.func17 rfl rfl ?_
 have hf11 : Sl Rep.b w (imm (Lg.O0 A)) v0_0 a0.b := (Sl.start hs0_0)
 have hb12 : Blk 0 (Lg.O0 A) w b0 64 [v0_0, vi a0.n] := ⟨(if_pos hm0), hb0⟩
 refine (show WC _ _ _ _ [(0, Value.pointer (some ⟨b0, 0, none⟩))] _ from ?_)
 refine WC.seq ?_
 refine WC.region ?_
 refine WL.y (Y.assign rfl) rfl ?_
 refine WL.nil ?_
 refine At.then ?_
 refine WC.seq ?_
 refine WC.region ?_
 refine WL.y (Y.move rfl) rfl ?_
 refine WL.y (Y.nilCheck rfl) rfl ?_
 refine WL.y (Y.fieldAddr fo64_1 rfl) rfl ?_
 refine WL.y (Y.loadSc ty3 rfl rfl (hb12.cell 1 _ rfl)) rfl ?_
 refine WL.y (Y.assign rfl) rfl ?_
 refine WL.nil ?_
 refine At.then ?_
 refine WC.ret ?_
 obtain rfl := some1 h
 have hs13 : Stp [] (Lg.O0 A) w (Lg.O0 A) w := (Stp.refl _ _ _)
 exact At.res (.inl rfl) rfl (.tmp rfl .nil) ⟨rfl, (Stp.ext hs13 rfl rfl)⟩

theorem c_xor_Cost {A : Nat → Prop} {a0 : List UInt64} {v0 : Value} {w : World} (hs0 : Sl Rep.u w A v0 a0) (hG0 : CellsAt w 0 0 [vi 0, vi 0]) (hGA0 : A 0) (hG1 : CellsAt w 1 0 (gdat1.map vb)) (hGA1 : A 1) {r0 : Int} (h : xor_Cost a0 = some r0) : Rets Tryd.prog 7 [v0] w (fun v w' => v = vi r0 ∧ Ext w w') := by
 unfold xor_Cost at h
 refine Rets.enter Tryd.func7 rfl rfl ?_
 have hf11 : Sl Rep.u w (imm (Lg.O0 A)) v0 a0 := (Sl.start hs0)
 have hG12 : CAt [0, 1] (Lg.O0 A) w 0 0 [vi 0, vi 0] := CAt.glob hG0 (if_pos hGA0)
 have hG13 : CAt [0, 1] (Lg.O0 A) w 1 0 (gdat1.map vb) := CAt.glob hG1 (if_pos hGA1)
 refine (show WC _ _ _ _ [(0, v0)] _ from ?_)
 refine WC.seq ?_
 refine WC.region ?_
 refine WL.y (Y.assign rfl) rfl ?_
 refine WL.nil ?_
 refine At.then ?_
 refine WC.seq ?_
 refine WC.region ?_
 obtain ⟨r14, hp15, h⟩ := bnd h
 refine WL.call (vals := []) kok11 rfl rfl (c_bitio_NewWriter hp15) ?_
 rintro vr23 wd22 ⟨p16, u17, rfl, hm21, f18, f19, f20⟩
 obtain ⟨O24, hold25, hnew26, hst27⟩ := adoptE (Lg.O0 A) (fun k => if k = p16 then 11 else if Value.ownBlock u17 = some k then 12 else 1) hm21
 have hf29 : OwnSl 12 Rep.b 5 O24 wd22 u17 r14.b := RowF.adopt 12 Flat.b f19 hnew26 (fun k hk => (if_neg (fun (e : k = p16) => f20 (e ▸ hk))).trans (if_pos hk))
 have hb28 : Blk 11 O24 wd22 p16 64 [u17, vi r14.n] := Blk.new f18 hnew26 (if_pos rfl)
 obtain ⟨r30, hp31, h⟩ := bnd h
 refine WL.call (vals := []) kok10 rfl rfl (c_xor_NewRow hp31) ?_
 rintro vr36 wd35 ⟨p32, rfl, hm34, f33⟩
 obtain ⟨O37, hold38, hnew39, hst40⟩ := adoptE O24 (fun k => if k = p32 then 13 else 1) hm34
 have hb41 : Blk 13 O37 wd35 p32 62 [vi r30.n, vu r30.last, vi r30.win.ahead, vi r30.win.size] := Blk.new f33 hnew39 (if_pos rfl)
 refine WL.y (Y.assign rfl) rfl ?_
 refine WL.y (Y.assign rfl) rfl ?_
 refine WL.nil ?_
 refine At.then ?_
 refine WC.seq ?_
 refine WC.seq ?_
 refine WC.region ?_
 refine WL.y (Y.move rfl) rfl ?_
 have hf42 := hf11.mono (imm_st hst27 rfl rfl)
 have hf43 := hf42.mono (imm_st hst40 rfl rfl)
 refine WL.y (Y.len ty22 rfl hf43) rfl ?_
 refine WL.y (Y.move rfl) rfl ?_
 refine WL.nil ?_
 refine At.then ?_
 refine WC.block ?_
 obtain ⟨p66, h, hk68⟩ := flow1 h
 obtain ⟨k67, h⟩ := loop_some h
 refine WC.joinB 0 (σ := (List UInt8 × Int × Own × Value)) (fun x w' => p66 = .go (x.1, x.2.1) ∧ Stp [11, 12, 13, 1001] O37 wd35 x.2.2.1 w' ∧ OwnSl 1002 Rep.b 5 x.2.2.1 w' x.2.2.2 x.1 ∧ Blk 11 x.2.2.1 w' p16 64 [x.2.2.2, vi x.2.1]) (fun x => [(3, Value.pointer (some ⟨p16, 0, none⟩))]) ?_ ?_
 ·have hf69 := hf29.st hst40 rfl rfl rfl
  obtain ⟨O70, hst71, ho72⟩ := OwnSl.rlb 1001 rfl hf69
  have hf73 := hb28.st hst40 rfl
  have hf74 := hf73.st hst71 rfl
  have hf75 := hb41.st hst71 rfl
  refine WC.loop (σ := (List UInt8 × Int × Int × UInt64 × Int × Int × Int × Own × Value)) (fun x k w' => loopN k (xor_Cost_lp1 a0) (x.1, x.2.1, x.2.2.1, x.2.2.2.1, x.2.2.2.2.1, x.2.2.2.2.2.1, x.2.2.2.2.2.2.1) = some p66 ∧ Stp [11, 12, 13, 1001] O37 wd35 x.2.2.2.2.2.2.2.1 w' ∧ OwnSl 1001 Rep.b 5 x.2.2.2.2.2.2.2.1 w' x.2.2.2.2.2.2.2.2 x.1 ∧ Blk 11 x.2.2.2.2.2.2.2.1 w' p16 64 [x.2.2.2.2.2.2.2.2, vi x.2.1] ∧ Blk 13 x.2.2.2.2.2.2.2.1 w' p32 62 [vi x.2.2.1, vu x.2.2.2.1, vi x.2.2.2.2.1, vi x.2.2.2.2.2.1]) (fun x => [(3, Value.pointer (some ⟨p16, 0, none⟩)), (4, Value.pointer (some ⟨p32, 0, none⟩)), (9, v0), (10, vi (a0.length : Int)), (11, vi x.2.2.2.2.2.2.1)]) (r14.b, r14.n, r30.n, r30.last, r30.win.ahead, r30.win.size, 0, O70, u17) k67 (.cons rfl (.cons rfl (.cons rfl (.cons rfl (.cons rfl .nil))))) ⟨h, (Stp.up hst71 rfl), ho72, hf74, hf75⟩ ?_
  rintro ⟨c45, c48, c50, c51, c52, c53, x54, O55, v46⟩ k67 wd56 ⟨h, hst57, hf47, hb44, hb49⟩
  obtain ⟨j76, q77, rfl, h, hn78⟩ := rnd1 h
  unfold xor_Cost_lp1 at h
  try dsimp only at h hst57 hf47 hb44 hb49
  refine (show WC _ _ _ _ [(3, Value.pointer (some ⟨p16, 0, none⟩)), (4, Value.pointer (some ⟨p32, 0, none⟩)), (9, v0), (10, vi (a0.length : Int)), (11, vi x54)] _ from ?_)
  refine WC.seq ?_
  refine WC.region ?_
  refine WL.y (Y.lss_i rfl rfl) rfl ?_
  refine WL.nil ?_
  refine At.then ?_
  refine WC.seq ?_
  rcases cnd h with ⟨hc79, h⟩ | ⟨hc79, h⟩
  ·refine WC.condT' rfl hc79 ?_
   refine WC.skip ?_
   refine At.then ?_
   refine WC.seq ?_
   refine WC.block ?_
   refine WC.seq ?_
   refine WC.region ?_
   obtain ⟨e80, he80, h⟩ := bnd h
   have hf89 := hf43.mono (imm_st hst57 rfl rfl)
   obtain ⟨b81, off90, cap88, cs87, hv82, hi83, hl84, hc85, hok86, hA91⟩ := Sl.at2 hf89 he80
   obtain rfl := hok86
   replace hc85 : CellsAt _ _ _ [vu e80] := hc85
   have hca92 := CAt.imm hc85 hA91
   refine WL.y (Y.indexAddr ty22 ty23 rfl hv82 rfl hi83 hl84) rfl ?_
   refine WL.y (Y.loadSc ty23 rfl rfl hca92.at_) rfl ?_
   refine WL.y (Y.assign rfl) rfl ?_
   refine WL.nil ?_
   refine At.then ?_
   refine WC.region ?_
   refine WL.y (Y.move rfl) rfl ?_
   refine WL.y (Y.move rfl) rfl ?_
   refine WL.y (Y.move rfl) rfl ?_
   have hf93 := hG12.st hst27 rfl
   have hf94 := hf93.st hst40 rfl
   have hf95 := hf94.st hst57 rfl
   have hf96 := hG13.st hst27 rfl
   have hf97 := hf96.st hst40 rfl
   have hf98 := hf97.st hst57 rfl
   obtain ⟨⟨r99, r100⟩, hp101, h⟩ := bnd h
   refine WL.call (vals := [Value.pointer (some ⟨p32, 0, none⟩), Value.pointer (some ⟨p16, 0, none⟩), vu e80]) kok16 rfl rfl (c_xor_Row_Put (A := out [13, 11, 1001] O55) (a0 := (xor_Row.mk c50 c51 (xor_window.mk c52 c53))) (a1 := (bitio_Writer.mk c45 c48)) hb49.blk hf47.row hb44.blk hf95.at_ (CAt.inO hf95 rfl rfl) hf98.at_ (CAt.inO hf98 rfl rfl) (ne_blk hb49.lab hb44.lab rfl) (ne_lab hf47 hb49.lab rfl) (ne_lab hf47 hb44.lab rfl) (fun k hk => ⟨out_ne hb49.lab rfl k hk, out_ne hb44.lab rfl k hk, out_neV (w := wd56) hf47.labs rfl k hk⟩) hp101) ?_
   rintro vr108 wd107 ⟨z102, rfl, hm106, f103, f104, f105⟩
   obtain ⟨O109, hold110, hnew111, hst112⟩ := adopt O55 (fun k => if Value.ownBlock z102 = some k then 1001 else 1) [13, 11, 1001] hm106 (memOr (memB hb49.lab rfl) (memOr (memB hb44.lab rfl) (memV hf47.labs rfl)))
   have hb113 : Blk 13 O109 wd107 p32 62 [vi r99.n, vu r99.last, vi r99.win.ahead, vi r99.win.size] := Blk.adopt hb49 hold110 f103
   have ho114 : OwnSl 1001 Rep.b 5 O109 wd107 z102 r100.b := RowG.adopt Flat.b hf47.labs f104 hold110 hnew111 (fun k hk => if_pos hk)
   have hb115 : Blk 11 O109 wd107 p16 64 [z102, vi r100.n] := Blk.adopt hb44 hold110 f105
   refine WL.nil ?_
   refine At.inBlock ?_
   refine At.then ?_
   refine WC.region ?_
   refine WL.y (Y.add_i rfl rfl) rfl ?_
   refine WL.y (Y.move rfl) rfl ?_
   refine WL.nil ?_
   exact At.round (r100.b, r100.n, r99.n, r99.last, r99.win.ahead, r99.win.size, w64 (x54 + 1), O109, z102) j76 (Nat.lt_succ_self _) ⟨next1 h hn78, (Stp.trans (Stp.up hst57 rfl) (Stp.up hst112 rfl)), ho114, hb115, hb113⟩ (.cons rfl (.cons rfl (.cons rfl (.cons rfl (.cons rfl .nil)))))
  ·refine WC.condF' rfl hc79 ?_
   refine WC.exit ?_
   refine At.thenX ?_
   refine At.loopX ?_
   obtain ⟨O116, hst117, ho118⟩ := OwnSl.rlb 1002 rfl hf47
   have hf119 := hb44.st hst117 rfl
   exact At.hitB (σ := (List UInt8 × Int × Own × Value)) (c45, c48, O116, v46) ⟨brk1 h hn78, (Stp.trans (Stp.up hst57 rfl) (Stp.up hst117 rfl)), ho118, hf119⟩ (.cons rfl .nil)
 ·rintro ⟨c59, c62, O63, v60⟩ wd64 ⟨rfl, hst65, hf61, hb58⟩
  replace h := flowK_go hk68
  try dsimp only at h hst65 hf61 hb58
  refine (show At _ _ _ [(3, Value.pointer (some ⟨p16, 0, none⟩))] _ from ?_)
  refine At.inBlockHit ?_
  refine At.then ?_
  refine WC.seq ?_
  refine WC.region ?_
  refine WL.y (Y.move rfl) rfl ?_
  obtain ⟨r120, hp121, h⟩ := bnd h
  refine WL.call (vals := [Value.pointer (some ⟨p16, 0, none⟩)]) kok17 rfl rfl (c_bitio_Writer_Len (A := fun _ => True) (a0 := (bitio_Writer.mk c59 c62)) (hf61.src.sl) hb58.blk trivial hp121) ?_
  rintro vr124 wd123 ⟨rfl, hm122⟩
  obtain ⟨O125, hold126, hnew127, hst128⟩ := adoptE O63 (fun k => 1) hm122
  refine WL.y (Y.assign rfl) rfl ?_
  refine WL.nil ?_
  refine At.then ?_
  refine WC.ret ?_
  obtain rfl := some1 h
  have hs129 : Stp [11, 12, 13, 1001] (Lg.O0 A) w O125 wd123 := (Stp.trans (Stp.up hst27 rfl) (Stp.trans (Stp.up hst40 rfl) (Stp.trans (Stp.up hst65 rfl) (Stp.up hst128 rfl))))
  exact At.res (.inl rfl) rfl (.tmp rfl .nil) ⟨rfl, (Stp.ext hs129 rfl rfl)⟩

theorem c_xor_Row_Len {A : Nat → Prop} {a0 : xor_Row} {b0 : Nat} {w : World} (hb0 : w.heap[b0]? = some (.cells (List.toArray [vi a0.n, vu a0.last, vi a0.win.ahead, vi a0.win.size]) 62 (0, 0))) (hm0 : A b0) {r0 : Int} (h : xor_Row_Len a0 = some r0) : Rets Tryd.prog 15 [Value.pointer (some ⟨b0, 0, none⟩)] w (fun v w' => v = vi r0 ∧ Ext w w') := by
 unfold xor_Row_Len at h
 refine Rets.enter Tryd.func15 rfl rfl ?_
 have hb11 : Blk 0 (Lg.O0 A) w b0 62 [vi a0.n, vu a0.last, vi a0.win.ahead, vi a0.win.size] := ⟨(if_pos hm0), hb0⟩
 refine (show WC _ _ _ _ [(0, Value.pointer (some ⟨b0, 0, none⟩))] _ from ?_)
 refine WC.seq ?_
 refine WC.region ?_
 refine WL.y (Y.assign rfl) rfl ?_
 refine WL.nil ?_
 refine At.then ?_
 refine WC.seq ?_
 refine WC.region ?_
 refine WL.y (Y.move rfl) rfl ?_
 refine WL.y (Y.nilCheck rfl) rfl ?_
 refine WL.y (Y.fieldAddr fo62_0 rfl) rfl ?_
 refine WL.y (Y.loadSc ty3 rfl rfl (hb11.cell 0 _ rfl)) rfl ?_
 refine WL.y (Y.assign rfl) rfl ?_
 refine WL.nil ?_
 refine At.then ?_
 refine WC.ret ?_
 obtain rfl := some1 h
 have hs12 : Stp [] (Lg.O0 A) w (Lg.O0 A) w := (Stp.refl _ _ _)
 exact At.res (.inl rfl) rfl (.tmp rfl .nil) ⟨rfl, (Stp.ext hs12 rfl rfl)⟩

theorem c_law07_awake {A : Nat → Prop} {w : World} (hG0 : CellsAt w 0 0 [vi 0, vi 0]) (hGA0 : A 0) (hG1 : CellsAt w 1 0 (gdat1.map vb)) (hGA1 : A 1) {r0 : Bool} (h : law07_awake = some r0) : Rets Tryd.prog 6 [] w (fun v w' => v = Value.bool r0 ∧ Ext w w') := by
 unfold law07_awake at h
 refine Rets.enter Tryd.func6 rfl rfl ?_
 have hG11 : CAt [0, 1] (Lg.O0 A) w 0 0 [vi 0, vi 0] := CAt.glob hG0 (if_pos hGA0)
 have hG12 : CAt [0, 1] (Lg.O0 A) w 1 0 (gdat1.map vb) := CAt.glob hG1 (if_pos hGA1)
 refine (show WC _ _ _ _ [] _ from ?_)
 refine WC.seq ?_
 refine WC.region ?_
 refine WL.y (Y.assign rfl) rfl ?_
 refine WL.nil ?_
 refine At.then ?_
 refine WC.seq ?_
 refine WC.region ?_
 obtain ⟨r13, hp14, h⟩ := bnd h
 refine WL.call (vals := []) kok11 rfl rfl (c_bitio_NewWriter hp14) ?_
 rintro vr22 wd21 ⟨p15, u16, rfl, hm20, f17, f18, f19⟩
 obtain ⟨O23, hold24, hnew25, hst26⟩ := adoptE (Lg.O0 A) (fun k => if k = p15 then 11 else if Value.ownBlock u16 = some k then 12 else 1) hm20
 have hf28 : OwnSl 12 Rep.b 5 O23 wd21 u16 r13.b := RowF.adopt 12 Flat.b f18 hnew25 (fun k hk => (if_neg (fun (e : k = p15) => f19 (e ▸ hk))).trans (if_pos hk))
 have hb27 : Blk 11 O23 wd21 p15 64 [u16, vi r13.n] := Blk.new f17 hnew25 (if_pos rfl)
 refine WL.y (Y.assign rfl) rfl ?_
 refine WL.nil ?_
 refine At.then ?_
 refine WC.seq ?_
 refine WC.region ?_
 obtain ⟨r29, hp30, h⟩ := bnd h
 refine WL.call (vals := []) kok10 rfl rfl (c_xor_NewRow hp30) ?_
 rintro vr35 wd34 ⟨p31, rfl, hm33, f32⟩
 obtain ⟨O36, hold37, hnew38, hst39⟩ := adoptE O23 (fun k => if k = p31 then 13 else 1) hm33
 have hb40 : Blk 13 O36 wd34 p31 62 [vi r29.n, vu r29.last, vi r29.win.ahead, vi r29.win.size] := Blk.new f32 hnew38 (if_pos rfl)
 refine WL.y (Y.assign rfl) rfl ?_
 refine WL.nil ?_
 refine At.then ?_
 refine WC.seq ?_
 refine WC.seq ?_
 refine WC.region ?_
 refine WL.y (Y.move rfl) rfl ?_
 refine WL.y (Y.eql_nil (r := false) ty36.u rfl rfl rfl) rfl ?_
 refine WL.y (Y.move rfl) rfl ?_
 refine WL.ung rfl rfl ?_
 refine WL.y (Y.move rfl) rfl ?_
 refine WL.ung rfl rfl ?_
 refine WL.y (Y.eql_nil (r := false) ty34.u rfl rfl rfl) rfl ?_
 refine WL.y (Y.pick (b := false) rfl rfl) rfl ?_
 refine WL.nil ?_
 refine At.then ?_
 refine WC.condF rfl ?_
 refine WC.skip ?_
 refine At.then ?_
 refine WC.seq ?_
 refine WC.region ?_
 refine WL.y (Y.move rfl) rfl ?_
 refine WL.y (Y.move rfl) rfl ?_
 have hf41 := hf28.st hst39 rfl rfl rfl
 have hf42 := hb27.st hst39 rfl
 have hf43 := hG11.st hst26 rfl
 have hf44 := hf43.st hst39 rfl
 have hf45 := hG12.st hst26 rfl
 have hf46 := hf45.st hst39 rfl
 obtain ⟨⟨r47, r48⟩, hp49, h⟩ := bnd h
 refine WL.call (vals := [Value.pointer (some ⟨p31, 0, none⟩), Value.pointer (some ⟨p15, 0, none⟩), vu 4607182418800017408]) kok16 rfl rfl (c_xor_Row_Put (A := out [13, 11, 12] O36) (a0 := r29) (a1 := r13) hb40.blk hf41.row hf42.blk hf44.at_ (CAt.inO hf44 rfl rfl) hf46.at_ (CAt.inO hf46 rfl rfl) (ne_blk hb40.lab hf42.lab rfl) (ne_lab hf41 hb40.lab rfl) (ne_lab hf41 hf42.lab rfl) (fun k hk => ⟨out_ne hb40.lab rfl k hk, out_ne hf42.lab rfl k hk, out_neV (w := wd34) hf41.labs rfl k hk⟩) hp49) ?_
 rintro vr56 wd55 ⟨z50, rfl, hm54, f51, f52, f53⟩
 obtain ⟨O57, hold58, hnew59, hst60⟩ := adopt O36 (fun k => if Value.ownBlock z50 = some k then 12 else 1) [13, 11, 12] hm54 (memOr (memB hb40.lab rfl) (memOr (memB hf42.lab rfl) (memV hf41.labs rfl)))
 have hb61 : Blk 13 O57 wd55 p31 62 [vi r47.n, vu r47.last, vi r47.win.ahead, vi r47.win.size] := Blk.adopt hb40 hold58 f51
 have ho62 : OwnSl 12 Rep.b 5 O57 wd55 z50 r48.b := RowG.adopt Flat.b hf41.labs f52 hold58 hnew59 (fun k hk => if_pos hk)
 have hb63 : Blk 11 O57 wd55 p15 64 [z50, vi r48.n] := Blk.adopt hf42 hold58 f53
 refine WL.nil ?_
 refine At.then ?_
 refine WC.seq ?_
 refine WC.region ?_
 refine WL.y (Y.move rfl) rfl ?_
 refine WL.y (Y.move rfl) rfl ?_
 have hf64 := hf44.st hst60 rfl
 have hf65 := hf46.st hst60 rfl
 obtain ⟨⟨r66, r67⟩, hp68, h⟩ := bnd h
 refine WL.call (vals := [Value.pointer (some ⟨p31, 0, none⟩), Value.pointer (some ⟨p15, 0, none⟩), vu 4607182418800017408]) kok16 rfl rfl (c_xor_Row_Put (A := out [13, 11, 12] O57) (a0 := r47) (a1 := r48) hb61.blk ho62.row hb63.blk hf64.at_ (CAt.inO hf64 rfl rfl) hf65.at_ (CAt.inO hf65 rfl rfl) (ne_blk hb61.lab hb63.lab rfl) (ne_lab ho62 hb61.lab rfl) (ne_lab ho62 hb63.lab rfl) (fun k hk => ⟨out_ne hb61.lab rfl k hk, out_ne hb63.lab rfl k hk, out_neV (w := wd55) ho62.labs rfl k hk⟩) hp68) ?_
 rintro vr75 wd74 ⟨z69, rfl, hm73, f70, f71, f72⟩
 obtain ⟨O76, hold77, hnew78, hst79⟩ := adopt O57 (fun k => if Value.ownBlock z69 = some k then 12 else 1) [13, 11, 12] hm73 (memOr (memB hb61.lab rfl) (memOr (memB hb63.lab rfl) (memV ho62.labs rfl)))
 have hb80 : Blk 13 O76 wd74 p31 62 [vi r66.n, vu r66.last, vi r66.win.ahead, vi r66.win.size] := Blk.adopt hb61 hold77 f70
 have ho81 : OwnSl 12 Rep.b 5 O76 wd74 z69 r67.b := RowG.adopt Flat.b ho62.labs f71 hold77 hnew78 (fun k hk => if_pos hk)
 have hb82 : Blk 11 O76 wd74 p15 64 [z69, vi r67.n] := Blk.adopt hb63 hold77 f72
 refine WL.nil ?_
 refine At.then ?_
 refine WC.seq ?_
 refine WC.region ?_
 refine WL.y (Y.move rfl) rfl ?_
 refine WL.y (Y.move rfl) rfl ?_
 have hf83 := hf64.st hst79 rfl
 have hf84 := hf65.st hst79 rfl
 obtain ⟨⟨r85, r86⟩, hp87, h⟩ := bnd h
 refine WL.call (vals := [Value.pointer (some ⟨p31, 0, none⟩), Value.pointer (some ⟨p15, 0, none⟩), vu 4611686018427387904]) kok16 rfl rfl (c_xor_Row_Put (A := out [13, 11, 12] O76) (a0 := r66) (a1 := r67) hb80.blk ho81.row hb82.blk hf83.at_ (CAt.inO hf83 rfl rfl) hf84.at_ (CAt.inO hf84 rfl rfl) (ne_blk hb80.lab hb82.lab rfl) (ne_lab ho81 hb80.lab rfl) (ne_lab ho81 hb82.lab rfl) (fun k hk => ⟨out_ne hb80.lab rfl k hk, out_ne hb82.lab rfl k hk, out_neV (w := wd74) ho81.labs rfl k hk⟩) hp87) ?_
 rintro vr94 wd93 ⟨z88, rfl, hm92, f89, f90, f91⟩
 obtain ⟨O95, hold96, hnew97, hst98⟩ := adopt O76 (fun k => if Value.ownBlock z88 = some k then 12 else 1) [13, 11, 12] hm92 (memOr (memB hb80.lab rfl) (memOr (memB hb82.lab rfl) (memV ho81.labs rfl)))
 have hb99 : Blk 13 O95 wd93 p31 62 [vi r85.n, vu r85.last, vi r85.win.ahead, vi r85.win.size] := Blk.adopt hb80 hold96 f89
 have ho100 : OwnSl 12 Rep.b 5 O95 wd93 z88 r86.b := RowG.adopt Flat.b ho81.labs f90 hold96 hnew97 (fun k hk => if_pos hk)
 have hb101 : Blk 11 O95 wd93 p15 64 [z88, vi r86.n] := Blk.adopt hb82 hold96 f91
 refine WL.nil ?_
 refine At.then ?_
 refine WC.seq ?_
 refine WC.region ?_
 refine WL.y (Y.move rfl) rfl ?_
 obtain ⟨r102, hp103, h⟩ := bnd h
 refine WL.call (vals := [Value.pointer (some ⟨p15, 0, none⟩)]) kok17 rfl rfl (c_bitio_Writer_Len (A := fun _ => True) (a0 := r86) (ho100.src.sl) hb101.blk trivial hp103) ?_
 rintro vr106 wd105 ⟨rfl, hm104⟩
 obtain ⟨O107, hold108, hnew109, hst110⟩ := adoptE O95 (fun k => 1) hm104
 refine WL.y (Y.eql_i rfl rfl) rfl ?_
 refine WL.y (Y.move rfl) rfl ?_
 obtain ⟨p115, h, hk116⟩ := bnd h
 refine WL.cut 4 (σ := (Bool × Own)) (fun x w' => x.1 = p115 ∧ Stp [] O107 wd105 x.2 w') (fun x => [(27, Value.bool x.1)]) ?_ ?_
 ·rcases cnd h with ⟨hE117, h⟩ | ⟨hE117, h⟩
  ·refine WL.ren 23 rfl (congrArg Value.bool hE117) ?_
   refine WL.ung rfl rfl ?_
   refine WL.y (Y.move rfl) rfl ?_
   refine WL.ung rfl rfl ?_
   have hf118 := hb99.st hst110 rfl
   obtain ⟨r119, hp120, h⟩ := bnd h
   refine WL.call (vals := [Value.pointer (some ⟨p31, 0, none⟩)]) kok15 rfl rfl (c_xor_Row_Len (A := fun _ => True) (a0 := r85) hf118.blk trivial hp120) ?_
   rintro vr123 wd122 ⟨rfl, hm121⟩
   obtain ⟨O124, hold125, hnew126, hst127⟩ := adoptE O107 (fun k => 1) hm121
   refine WL.ung rfl rfl ?_
   refine WL.y (Y.eql_i rfl rfl) rfl ?_
   refine WL.y (Y.pick (b := true) rfl rfl) rfl ?_
   exact WL.nil (At.join (σ := (Bool × Own)) (decide (r119 = 3), O124) ⟨some1 h, (Stp.up hst127 rfl)⟩ (.cons rfl .nil))
  ·refine WL.ren 23 rfl (congrArg Value.bool hE117) ?_
   refine WL.gS rfl rfl rfl rfl ?_
   refine WL.gS rfl rfl rfl rfl ?_
   refine WL.gS rfl rfl rfl rfl ?_
   refine WL.y (Y.pick (b := false) rfl rfl) rfl ?_
   exact WL.nil (At.join (σ := (Bool × Own)) (false, O107) ⟨some1 h, (Stp.refl _ _ _)⟩ (.cons rfl .nil))
 ·rintro ⟨x111, O112⟩ wd113 ⟨rfl, hst114⟩
  replace h := hk116
  try dsimp only at h hst114
  refine (show WL _ _ _ _ _ [(27, Value.bool x111)] _ from ?_)
  refine WL.y (Y.move rfl) rfl ?_
  obtain ⟨p132, h, hk133⟩ := bnd h
  refine WL.cut 4 (σ := (Bool × Own)) (fun x w' => x.1 = p132 ∧ Stp [] O112 wd113 x.2 w') (fun x => [(32, Value.bool x.1)]) ?_ ?_
  ·rcases cnd h with ⟨hE134, h⟩ | ⟨hE134, h⟩
   ·refine WL.ren 28 rfl (congrArg Value.bool hE134) ?_
    refine WL.ung rfl rfl ?_
    refine WL.buildSlice (O := O112) (R := Rep.u) (vals := [(0, vu 1), (1, vu 1)]) 14 [vu 1, vu 1] (xs := [1, 1]) (by decide) ty22 ty23 (by decide) (by decide) (Fits.evalp rfl) (by kernel_rfl) rfl ⟨[vu 1], [vu 1], rfl, rfl, ⟨[vu 1], [], rfl, rfl, rfl⟩⟩ rfl ?_
    intro v135 O137 wd138 hst139 ho136
    refine WL.ung rfl rfl ?_
    have hf140 := hf83.st hst98 rfl
    have hf141 := hf140.st hst110 rfl
    have hf142 := hf141.st hst114 rfl
    have hf143 := hf142.st hst139 rfl
    have hf144 := hf84.st hst98 rfl
    have hf145 := hf144.st hst110 rfl
    have hf146 := hf145.st hst114 rfl
    have hf147 := hf146.st hst139 rfl
    obtain ⟨r148, hp149, h⟩ := bnd h
    refine WL.call (vals := [v135]) kok7 rfl rfl (c_xor_Cost (A := fun _ => True) (ho136.src.sl) hf143.at_ trivial hf147.at_ trivial hp149) ?_
    rintro vr152 wd151 ⟨rfl, hm150⟩
    obtain ⟨O153, hold154, hnew155, hst156⟩ := adoptE O137 (fun k => 1) hm150
    refine WL.ung rfl rfl ?_
    refine WL.y (Y.eql_i rfl rfl) rfl ?_
    refine WL.y (Y.pick (b := true) rfl rfl) rfl ?_
    exact WL.nil (At.join (σ := (Bool × Own)) (decide (r148 = 65), O153) ⟨some1 h, (Stp.trans (Stp.up hst139 rfl) (Stp.up hst156 rfl))⟩ (.cons rfl .nil))
   ·refine WL.ren 28 rfl (congrArg Value.bool hE134) ?_
    refine WL.gS rfl rfl rfl rfl ?_
    refine WL.gS rfl rfl rfl rfl ?_
    refine WL.gS rfl rfl rfl rfl ?_
    refine WL.y (Y.pick (b := false) rfl rfl) rfl ?_
    exact WL.nil (At.join (σ := (Bool × Own)) (false, O112) ⟨some1 h, (Stp.refl _ _ _)⟩ (.cons rfl .nil))
  ·rintro ⟨x128, O129⟩ wd130 ⟨rfl, hst131⟩
   replace h := hk133
   try dsimp only at h hst131
   refine (show WL _ _ _ _ _ [(32, Value.bool x128)] _ from ?_)
   refine WL.y (Y.assign rfl) rfl ?_
   refine WL.nil ?_
   refine At.then ?_
   refine WC.ret ?_
   obtain rfl := some1 h
   have hs157 : Stp [11, 12, 13] (Lg.O0 A) w O129 wd130 := (Stp.trans (Stp.up hst26 rfl) (Stp.trans (Stp.up hst39 rfl) (Stp.trans (Stp.up hst60 rfl) (Stp.trans (Stp.up hst79 rfl) (Stp.trans (Stp.up hst98 rfl) (Stp.trans (Stp.up hst110 rfl) (Stp.trans (Stp.up hst114 rfl) (Stp.up hst131 rfl))))))))
   exact At.res (.inl rfl) rfl (.tmp rfl .nil) ⟨rfl, (Stp.ext hs157 rfl rfl)⟩

theorem c_bytes_Clone {A : Nat → Prop} {a0 : List UInt8} {v0 : Value} {w : World} (hs0 : Sl Rep.b w A v0 a0) {r0 : List UInt8} (h : bytes_Clone a0 = some r0) : Rets Tryd.prog 23 [v0] w (fun v w' => ∃ (u0 : Value), v = u0 ∧ Ext w w' ∧ RowF Rep.b 5 w w' u0 r0) := by
  unfold bytes_Clone at h
  refine Rets.enter Tryd.func23 rfl rfl ?_
  refine (show WC _ _ _ _ [(0, v0)] _ from ?_)
  refine WC.seq (WC.region (WL.y (Y.assign rfl) rfl (WL.nil (At.then ?_))))
  refine WC.seq (WC.seq (WC.region ?_))
  refine WL.y (Y.move rfl) rfl ?_
  rcases hs0.nilOr with ⟨rfl, rfl⟩ | ⟨q, n, c, rfl⟩
  · refine WL.y (Y.slnil (p := none) (n := 0) (c := 0) ty27.u rfl rfl) rfl (WL.nil (At.then ?_))
    refine WC.condT rfl (WC.seq (WC.region (WL.y (Y.assign rfl) rfl (WL.nil (At.then (WC.ret (At.thenR ?_)))))))
    have : r0 = [] := by simpa [app] using h.symm
    subst this
    exact At.res (.inl rfl) rfl (.tmp rfl .nil) ⟨_, rfl, Ext.refl w, RowF.nil⟩
  · refine WL.y (Y.slnil (p := some _) ty27.u rfl rfl) rfl (WL.nil (At.then ?_))
    refine WC.condF rfl (WC.skip (At.then ?_))
    refine WC.seq (WC.region ?_)
    have hs := hs0
    refine WL.buildSlice (O := Lg.O0 A) (R := Rep.b) (vals := []) 11 [] (xs := []) (by decide) ty27 ty5 (by decide) (by decide) (Fits.evalp rfl) (by kernel_rfl) rfl rfl rfl ?_
    intro v O1 w1 hst1 ho1
    refine WL.y (Y.move rfl) rfl ?_
    have hs1 := (Sl.start hs).mono (imm_st hst1 rfl rfl)
    refine WL.append (by decide) ty27 ty5 rfl (by decide) rfl rfl ho1 hs1.src h rfl ?_
    intro v2 O2 w2 hst2 ho2
    refine WL.y (Y.assign rfl) rfl (WL.nil (At.then (WC.ret ?_)))
    have hs9 : Stp [11] (Lg.O0 A) w O2 w2 := (Stp.trans (Stp.up hst1 rfl) hst2)
    exact At.res (.inl rfl) rfl (.tmp rfl .nil) ⟨_, rfl, Stp.ext hs9 rfl rfl, OwnSl.outF ho2 hs9 low0 rfl⟩

theorem c_bitio_NewReader {A : Nat → Prop} {a0 : List UInt8} {v0 : Value} {a1 : Int} {w : World} (hs0 : Sl Rep.b w A v0 a0) {r0 : Option bitio_Reader} {r1 : Int} (h : bitio_NewReader a0 a1 = some (r0, r1)) : Rets Tryd.prog 8 [v0, vi a1] w (fun v w' => ∃ (u0 : Value), v = Value.tuple (List.toArray [u0, vi r1]) ∧ Ext w w' ∧ OptP u0 r0 fun d => ∃ (p0 : Nat) (u0_0 : Value), u0 = .pointer (some ⟨p0, 0, none⟩) ∧ (w'.heap[p0]? = some (.cells (List.toArray [u0_0, vi d.n, vi d.at_]) 58 (0, 0)) ∧ w.heap.size ≤ p0) ∧ Sl Rep.b w' (fun k => w.heap.size ≤ k ∧ k ≠ p0) u0_0 d.b) := by
 unfold bitio_NewReader at h
 refine Rets.enter Tryd.func8 rfl rfl ?_
 have hf11 : Sl Rep.b w (imm (Lg.O0 A)) v0 a0 := (Sl.start hs0)
 refine (show WC _ _ _ _ [(0, v0), (1, vi a1)] _ from ?_)
 refine WC.seq ?_
 refine WC.region ?_
 refine WL.y (Y.assign rfl) rfl ?_
 refine WL.y (Y.assign rfl) rfl ?_
 refine WL.nil ?_
 refine At.then ?_
 refine WC.seq ?_
 refine WC.block ?_
 refine WC.seq ?_
 refine WC.region ?_
 refine WL.y (Y.move rfl) rfl ?_
 refine WL.y (Y.lss_i rfl rfl) rfl ?_
 obtain ⟨t12, ht12, h⟩ := lt1 h
 refine WL.yE (Y.assign rfl) (congrArg Value.bool ht12.symm) rfl ?_
 refine WL.nil ?_
 refine At.then ?_
 rcases cnd h with ⟨hc13, h⟩ | ⟨hc13, h⟩
 ·refine WC.condT' rfl hc13 ?_
  refine WC.seq ?_
  refine WC.region ?_
  refine WL.y (Y.assign rfl) rfl ?_
  refine WL.y (Y.assign rfl) rfl ?_
  refine WL.nil ?_
  refine At.then ?_
  refine WC.ret ?_
  refine At.inBlockR ?_
  refine At.thenR ?_
  obtain ⟨rfl, rfl⟩ := tup2 h
  have hs14 : Stp [] (Lg.O0 A) w (Lg.O0 A) w := (Stp.refl _ _ _)
  exact At.res (.inl rfl) rfl (.tmp rfl (.tmp rfl .nil)) ⟨Value.pointer none, rfl, (Stp.ext hs14 rfl rfl), rfl⟩
 ·refine WC.condF' rfl hc13 ?_
  refine WC.seq ?_
  refine WC.region ?_
  refine WL.y (Y.move rfl) rfl ?_
  refine WL.y (Y.len ty27 rfl hf11) rfl ?_
  refine WL.y (Y.move rfl) rfl ?_
  refine WL.y (Y.quo_i (by decide) rfl rfl) rfl ?_
  refine WL.y (Y.lss_i rfl rfl) rfl ?_
  refine WL.y (Y.move rfl) rfl ?_
  refine WL.cut 11 (σ := Unit) (fun _ w' => w = w') (fun _ => [(0, v0), (1, vi a1), (26, Value.bool ((decide ((a0.length : Int) < w64 (a1.tdiv 8))) || ((decide ((a0.length : Int) = w64 (a1.tdiv 8))) && (decide (0 < a1.tmod 8)))))]) ?_ ?_
  ·refine WL.part 15 rfl (fun hE15 => ?_) (fun hE15 => ?_)
   ·refine WL.gS rfl rfl rfl rfl ?_
    refine WL.gS rfl rfl rfl rfl ?_
    refine WL.gS rfl rfl rfl rfl ?_
    refine WL.gS rfl rfl rfl rfl ?_
    refine WL.gS rfl rfl rfl rfl ?_
    refine WL.gS rfl rfl rfl rfl ?_
    refine WL.gS rfl rfl rfl rfl ?_
    refine WL.gS rfl rfl rfl rfl ?_
    refine WL.gS rfl rfl rfl rfl ?_
    refine WL.gS rfl rfl rfl rfl ?_
    refine WL.y (Y.pick (b := true) rfl rfl) rfl ?_
    refine WL.ren (v' := Value.bool ((decide ((a0.length : Int) < w64 (a1.tdiv 8))) || ((decide ((a0.length : Int) = w64 (a1.tdiv 8))) && (decide (0 < a1.tmod 8))))) 26 rfl (congrArg Value.bool (orT hE15)) ?_
    exact WL.nil (At.join () rfl (.cons rfl (.cons rfl (.cons rfl .nil))))
   ·refine WL.ung rfl rfl ?_
    refine WL.y (Y.move rfl) rfl ?_
    refine WL.ung rfl rfl ?_
    refine WL.y (Y.len ty27 rfl hf11) rfl ?_
    refine WL.ung rfl rfl ?_
    refine WL.y (Y.move rfl) rfl ?_
    refine WL.ung rfl rfl ?_
    refine WL.y (Y.quo_i (by decide) rfl rfl) rfl ?_
    refine WL.ung rfl rfl ?_
    refine WL.y (Y.eql_i rfl rfl) rfl ?_
    refine WL.ung rfl rfl ?_
    refine WL.y (Y.move rfl) rfl ?_
    refine WL.cut 4 (σ := Unit) (fun _ w' => w = w') (fun _ => [(0, v0), (1, vi a1), (15, Value.bool false), (25, Value.bool ((decide ((a0.length : Int) = w64 (a1.tdiv 8))) && (decide (0 < a1.tmod 8))))]) ?_ ?_
    ·refine WL.part 21 rfl (fun hE16 => ?_) (fun hE16 => ?_)
     ·refine WL.ung rfl rfl ?_
      refine WL.y (Y.move rfl) rfl ?_
      refine WL.ung rfl rfl ?_
      refine WL.y (Y.rem_i (by decide) rfl rfl) rfl ?_
      refine WL.ung rfl rfl ?_
      refine WL.y (Y.gtr_i rfl rfl) rfl ?_
      refine WL.ung rfl rfl ?_
      refine WL.y (Y.pick (b := true) rfl rfl) rfl ?_
      refine WL.ren (v' := Value.bool ((decide ((a0.length : Int) = w64 (a1.tdiv 8))) && (decide (0 < a1.tmod 8)))) 25 rfl (congrArg Value.bool (andT hE16)) ?_
      exact WL.nil (At.join () rfl (.cons rfl (.cons rfl (.cons rfl (.cons rfl .nil)))))
     ·refine WL.gS rfl rfl rfl rfl ?_
      refine WL.gS rfl rfl rfl rfl ?_
      refine WL.gS rfl rfl rfl rfl ?_
      refine WL.ung rfl rfl ?_
      refine WL.y (Y.pick (b := false) rfl rfl) rfl ?_
      refine WL.ren (v' := Value.bool ((decide ((a0.length : Int) = w64 (a1.tdiv 8))) && (decide (0 < a1.tmod 8)))) 25 rfl (congrArg Value.bool (andF hE16)) ?_
      exact WL.nil (At.join () rfl (.cons rfl (.cons rfl (.cons rfl (.cons rfl .nil)))))
    ·rintro _ _ rfl
     refine (show WL _ _ _ _ _ [(0, v0), (1, vi a1), (15, Value.bool false), (25, Value.bool ((decide ((a0.length : Int) = w64 (a1.tdiv 8))) && (decide (0 < a1.tmod 8))))] _ from ?_)
     refine WL.y (Y.pick (b := false) rfl rfl) rfl ?_
     refine WL.ren (v' := Value.bool ((decide ((a0.length : Int) < w64 (a1.tdiv 8))) || ((decide ((a0.length : Int) = w64 (a1.tdiv 8))) && (decide (0 < a1.tmod 8))))) 26 rfl (congrArg Value.bool (orF hE15)) ?_
     exact WL.nil (At.join () rfl (.cons rfl (.cons rfl (.cons rfl .nil))))
  ·rintro _ _ rfl
   refine (show WL _ _ _ _ _ [(0, v0), (1, vi a1), (26, Value.bool ((decide ((a0.length : Int) < w64 (a1.tdiv 8))) || ((decide ((a0.length : Int) = w64 (a1.tdiv 8))) && (decide (0 < a1.tmod 8)))))] _ from ?_)
   obtain ⟨t17, ht17, h⟩ := lt1 h
   refine WL.yE (Y.assign rfl) (congrArg Value.bool ht17.symm) rfl ?_
   refine WL.nil ?_
   refine At.then ?_
   rcases cnd h with ⟨hc18, h⟩ | ⟨hc18, h⟩
   ·refine WC.condT' rfl hc18 ?_
    refine WC.seq ?_
    refine WC.region ?_
    refine WL.y (Y.assign rfl) rfl ?_
    refine WL.y (Y.assign rfl) rfl ?_
    refine WL.nil ?_
    refine At.then ?_
    refine WC.ret ?_
    refine At.inBlockR ?_
    refine At.thenR ?_
    obtain ⟨rfl, rfl⟩ := tup2 h
    have hs19 : Stp [] (Lg.O0 A) w (Lg.O0 A) w := (Stp.refl _ _ _)
    exact At.res (.inl rfl) rfl (.tmp rfl (.tmp rfl .nil)) ⟨Value.pointer none, rfl, (Stp.ext hs19 rfl rfl), rfl⟩
   ·refine WC.condF' rfl hc18 ?_
    refine WC.seq ?_
    refine WC.region ?_
    refine WL.y (Y.move rfl) rfl ?_
    refine WL.y (Y.len ty27 rfl hf11) rfl ?_
    refine WL.y (Y.move rfl) rfl ?_
    refine WL.y (Y.add_i rfl rfl) rfl ?_
    refine WL.y (Y.quo_i (by decide) rfl rfl) rfl ?_
    refine WL.y (Y.gtr_i rfl rfl) rfl ?_
    obtain ⟨t20, ht20, h⟩ := lt1 h
    refine WL.yE (Y.assign rfl) (congrArg Value.bool ht20.symm) rfl ?_
    refine WL.nil ?_
    refine At.then ?_
    rcases cnd h with ⟨hc21, h⟩ | ⟨hc21, h⟩
    ·refine WC.condT' rfl hc21 ?_
     refine WC.seq ?_
     refine WC.region ?_
     refine WL.y (Y.assign rfl) rfl ?_
     refine WL.y (Y.assign rfl) rfl ?_
     refine WL.nil ?_
     refine At.then ?_
     refine WC.ret ?_
     refine At.inBlockR ?_
     refine At.thenR ?_
     obtain ⟨rfl, rfl⟩ := tup2 h
     have hs22 : Stp [] (Lg.O0 A) w (Lg.O0 A) w := (Stp.refl _ _ _)
     exact At.res (.inl rfl) rfl (.tmp rfl (.tmp rfl .nil)) ⟨Value.pointer none, rfl, (Stp.ext hs22 rfl rfl), rfl⟩
    ·refine WC.condF' rfl hc21 ?_
     refine WC.seq ?_
     refine WC.region ?_
     refine WL.y (Y.move rfl) rfl ?_
     refine WL.y (Y.rem_i (by decide) rfl rfl) rfl ?_
     refine WL.y (Y.gtr_i rfl rfl) rfl ?_
     refine WL.y (Y.move rfl) rfl ?_
     obtain ⟨p24, h, hk25⟩ := bnd h
     refine WL.cut 11 (σ := Bool) (fun x w' => x = p24 ∧ w = w') (fun x => [(0, v0), (1, vi a1), (49, Value.bool x)]) ?_ ?_
     ·rcases cnd h with ⟨hE26, h⟩ | ⟨hE26, h⟩
      ·refine WL.ren 38 rfl (congrArg Value.bool hE26) ?_
       refine WL.ung rfl rfl ?_
       refine WL.y (Y.move rfl) rfl ?_
       refine WL.ung rfl rfl ?_
       refine WL.y (Y.move rfl) rfl ?_
       refine WL.ung rfl rfl ?_
       refine WL.y (Y.quo_i (by decide) rfl rfl) rfl ?_
       refine WL.ung rfl rfl ?_
       obtain ⟨e27, he27, h⟩ := bnd h
       obtain ⟨b28, off36, cap35, cs34, hv29, hi30, hl31, hc32, hok33, hA37⟩ := Sl.at2 hf11 he27
       obtain rfl := hok33
       replace hc32 : CellsAt _ _ _ [vb e27] := hc32
       have hca38 := CAt.imm hc32 hA37
       refine WL.y (Y.indexAddr ty27 ty5 rfl hv29 rfl hi30 hl31) rfl ?_
       refine WL.ung rfl rfl ?_
       refine WL.y (Y.loadSc ty5 rfl rfl hca38.at_) rfl ?_
       refine WL.ung rfl rfl ?_
       refine WL.y (Y.move rfl) rfl ?_
       refine WL.ung rfl rfl ?_
       refine WL.y (Y.rem_i (by decide) rfl rfl) rfl ?_
       refine WL.ung rfl rfl ?_
       refine WL.y (Y.conv_iu ty3.u ty55.u rfl) rfl ?_
       refine WL.ung rfl rfl ?_
       refine WL.y (Y.shl_bu rfl rfl) rfl ?_
       refine WL.ung rfl rfl ?_
       refine WL.y (Y.neq_b (b := 0) rfl rfl) rfl ?_
       refine WL.y (Y.pick (b := true) rfl rfl) rfl ?_
       exact WL.nil (At.join (σ := Bool) (!decide (shlB e27 ((toU64 (a1.tmod 8)).toNat) = 0)) ⟨some1 h, rfl⟩ (.cons rfl (.cons rfl (.cons rfl .nil))))
      ·refine WL.ren 38 rfl (congrArg Value.bool hE26) ?_
       refine WL.gS rfl rfl rfl rfl ?_
       refine WL.gS rfl rfl rfl rfl ?_
       refine WL.gS rfl rfl rfl rfl ?_
       refine WL.gS rfl rfl rfl rfl ?_
       refine WL.gS rfl rfl rfl rfl ?_
       refine WL.gS rfl rfl rfl rfl ?_
       refine WL.gS rfl rfl rfl rfl ?_
       refine WL.gS rfl rfl rfl rfl ?_
       refine WL.gS rfl rfl rfl rfl ?_
       refine WL.gS rfl rfl rfl rfl ?_
       refine WL.y (Y.pick (b := false) rfl rfl) rfl ?_
       exact WL.nil (At.join (σ := Bool) false ⟨some1 h, rfl⟩ (.cons rfl (.cons rfl (.cons rfl .nil))))
     ·rintro x23 _ ⟨rfl, rfl⟩
      replace h := hk25
      try dsimp only at h
      refine (show WL _ _ _ _ _ [(0, v0), (1, vi a1), (49, Value.bool x23)] _ from ?_)
      refine WL.y (Y.assign rfl) rfl ?_
      refine WL.nil ?_
      refine At.then ?_
      rcases cnd h with ⟨hc39, h⟩ | ⟨hc39, h⟩
      ·refine WC.condT' rfl hc39 ?_
       refine WC.seq ?_
       refine WC.region ?_
       refine WL.y (Y.assign rfl) rfl ?_
       refine WL.y (Y.assign rfl) rfl ?_
       refine WL.nil ?_
       refine At.then ?_
       refine WC.ret ?_
       refine At.inBlockR ?_
       refine At.thenR ?_
       obtain ⟨rfl, rfl⟩ := tup2 h
       have hs40 : Stp [] (Lg.O0 A) w (Lg.O0 A) w := (Stp.refl _ _ _)
       exact At.res (.inl rfl) rfl (.tmp rfl (.tmp rfl .nil)) ⟨Value.pointer none, rfl, (Stp.ext hs40 rfl rfl), rfl⟩
      ·refine WC.condF' rfl hc39 ?_
       refine WC.skip ?_
       refine At.inBlock ?_
       refine At.then ?_
       refine WC.seq ?_
       refine WC.region ?_
       refine WL.y (Y.move rfl) rfl ?_
       obtain ⟨r41, hp42, h⟩ := bnd h
       refine WL.call (vals := [v0]) kok23 rfl rfl (c_bytes_Clone (A := fun _ => True) (Sl.all hf11) hp42) ?_
       rintro vr47 wd46 ⟨_, rfl, hm45, f44⟩
       obtain ⟨O48, hold49, hnew50, hst51⟩ := adoptE (Lg.O0 A) (fun k => if Value.ownBlock vr47 = some k then 11 else 1) hm45
       have hf52 : OwnSl 11 Rep.b 5 O48 wd46 vr47 r41 := RowF.adopt 11 Flat.b f44 hnew50 (fun k hk => if_pos hk)
       refine WL.y (Y.move rfl) rfl ?_
       have hh56 := h
       obtain ⟨p53, m54, c55, rfl⟩ := hf52.shape
       have h := hh56
       refine WL.y (Y.build (vals := [(0, (Value.slice p53 m54 c55)), (1, vi a1)]) (cells := [(Value.slice p53 m54 c55), vi a1, vi 0]) (Fits.evalp rfl) (by kernel_rfl)) rfl ?_
       refine WL.box (O := O48) 12 [(Value.slice p53 m54 c55), vi a1, vi 0] rfl rfl rfl ?_
       intro p58 O59 wd60 hst61 hb57
       refine WL.y (Y.assign rfl) rfl ?_
       refine WL.y (Y.assign rfl) rfl ?_
       refine WL.nil ?_
       refine At.then ?_
       refine WC.ret ?_
       obtain ⟨rfl, rfl⟩ := tup2 h
       have hf62 := hf52.st hst61 rfl rfl rfl
       obtain ⟨O63, hst64, hf65⟩ := OwnSl.giveF rfl Flat.b hf62
       have hs66 : Stp [11] (Lg.O0 A) w O63 wd60 := (Stp.trans (Stp.up hst51 rfl) (Stp.trans (Stp.up hst61 rfl) (Stp.up hst64 rfl)))
       have hf67 := hb57.st hst64 rfl
       exact At.res (.inl rfl) rfl (.tmp rfl (.tmp rfl .nil)) ⟨Value.pointer (some ⟨p58, 0, none⟩), rfl, (Stp.ext hs66 rfl rfl), ⟨p58, (Value.slice p53 m54 c55), rfl, (Blk.outF hf67 hs66 low0 rfl), (Sl.outFN hf65 hs66 low0 hf67.lab rfl)⟩⟩

theorem c_bitio_Reader_At {A : Nat → Prop} {v0_0 : Value} {a0 : bitio_Reader} {b0 : Nat} {w : World} (hs0_0 : Sl Rep.b w A v0_0 a0.b) (hb0 : w.heap[b0]? = some (.cells (List.toArray [v0_0, vi a0.n, vi a0.at_]) 58 (0, 0))) (hm0 : A b0) {r0 : Int} (h : bitio_Reader_At a0 = some r0) : Rets Tryd.prog 14 [Value.pointer (some ⟨b0, 0, none⟩)] w (fun v w' => v = vi r0 ∧ Ext w w') := by
 unfold bitio_Reader_At at h
 refine Rets.enter Tryd.func14 rfl rfl ?_
 have hf11 : Sl Rep.b w (imm (Lg.O0 A)) v0_0 a0.b := (Sl.start hs0_0)
 have hb12 : Blk 0 (Lg.O0 A) w b0 58 [v0_0, vi a0.n, vi a0.at_] := ⟨(if_pos hm0), hb0⟩
 refine (show WC _ _ _ _ [(0, Value.pointer (some ⟨b0, 0, none⟩))] _ from ?_)
 refine WC.seq ?_
 refine WC.region ?_
 refine WL.y (Y.assign rfl) rfl ?_
 refine WL.nil ?_
 refine At.then ?_
 refine WC.seq ?_
 refine WC.region ?_
 refine WL.y (Y.move rfl) rfl ?_
 refine WL.y (Y.nilCheck rfl) rfl ?_
 refine WL.y (Y.fieldAddr fo58_2 rfl) rfl ?_
 refine WL.y (Y.loadSc ty3 rfl rfl (hb12.cell 2 _ rfl)) rfl ?_
 refine WL.y (Y.assign rfl) rfl ?_
 refine WL.nil ?_
 refine At.then ?_
 refine WC.ret ?_
 obtain rfl := some1 h
 have hs13 : Stp [] (Lg.O0 A) w (Lg.O0 A) w := (Stp.refl _ _ _)
 exact At.res (.inl rfl) rfl (.tmp rfl .nil) ⟨rfl, (Stp.ext hs13 rfl rfl)⟩

theorem c_bitio_Reader_Left {A : Nat → Prop} {v0_0 : Value} {a0 : bitio_Reader} {b0 : Nat} {w : World} (hs0_0 : Sl Rep.b w A v0_0 a0.b) (hb0 : w.heap[b0]? = some (.cells (List.toArray [v0_0, vi a0.n, vi a0.at_]) 58 (0, 0))) (hm0 : A b0) {r0 : Int} (h : bitio_Reader_Left a0 = some r0) : Rets Tryd.prog 22 [Value.pointer (some ⟨b0, 0, none⟩)] w (fun v w' => v = vi r0 ∧ Ext w w') := by
 unfold bitio_Reader_Left at h
 refine Rets.enter Tryd.func22 rfl rfl ?_
 have hf11 : Sl Rep.b w (imm (Lg.O0 A)) v0_0 a0.b := (Sl.start hs0_0)
 have hb12 : Blk 0 (Lg.O0 A) w b0 58 [v0_0, vi a0.n, vi a0.at_] := ⟨(if_pos hm0), hb0⟩
 refine (show WC _ _ _ _ [(0, Value.pointer (some ⟨b0, 0, none⟩))] _ from ?_)
 refine WC.seq ?_
 refine WC.region ?_
 refine WL.y (Y.assign rfl) rfl ?_
 refine WL.nil ?_
 refine At.then ?_
 refine WC.seq ?_
 refine WC.draw 9 (Lg.O0 A) fmix (by kernel_rfl) ?_
 intro wd13 hst14
 refine WS.y (Y.move rfl) rfl ?_
 refine WS.y (Y.nilCheck rfl) rfl ?_
 refine WS.y (Y.fieldAddr fo58_1 rfl) rfl ?_
 have hf15 := hb12.st hst14 rfl
 refine WS.y (Y.loadSc ty3 rfl rfl (hf15.cell 1 _ rfl)) rfl ?_
 refine WS.y (Y.move rfl) rfl ?_
 refine WS.y (Y.nilCheck rfl) rfl ?_
 refine WS.y (Y.fieldAddr fo58_2 rfl) rfl ?_
 refine WS.y (Y.loadSc ty3 rfl rfl (hf15.cell 2 _ rfl)) rfl ?_
 refine WS.y (Y.sub_i rfl rfl) rfl ?_
 refine WS.tail ?_
 obtain ⟨t16, ht16, h⟩ := lt1 h
 refine WL.yE (Y.assign rfl) (congrArg vi ht16.symm) rfl ?_
 refine WL.nil ?_
 refine At.then ?_
 refine WC.ret ?_
 obtain rfl := some1 h
 have hs17 : Stp [] (Lg.O0 A) w (Lg.O0 A) wd13 := (Stp.up hst14 rfl)
 exact At.res (.inl rfl) rfl (.tmp rfl .nil) ⟨rfl, (Stp.ext hs17 rfl rfl)⟩

theorem c_bitio_Reader_Look {A : Nat → Prop} {v0_0 : Value} {a0 : bitio_Reader} {b0 : Nat} {a1 : Int} {w : World} (hs0_0 : Sl Rep.b w A v0_0 a0.b) (hb0 : w.heap[b0]? = some (.cells (List.toArray [v0_0, vi a0.n, vi a0.at_]) 58 (0, 0))) (hm0 : A b0) {r0 : UInt64} {r1 : Bool} (h : bitio_Reader_Look a0 a1 = some (r0, r1)) : Rets Tryd.prog 44 [Value.pointer (some ⟨b0, 0, none⟩), vi a1] w (fun v w' => v = Value.tuple (List.toArray [vu r0, Value.bool r1]) ∧ Ext w w') := by
 unfold bitio_Reader_Look at h
 refine Rets.enter Tryd.func44 rfl rfl ?_
 have hf11 : Sl Rep.b w (imm (Lg.O0 A)) v0_0 a0.b := (Sl.start hs0_0)
 have hb12 : Blk 0 (Lg.O0 A) w b0 58 [v0_0, vi a0.n, vi a0.at_] := ⟨(if_pos hm0), hb0⟩
 refine (show WC _ _ _ _ [(0, Value.pointer (some ⟨b0, 0, none⟩)), (1, vi a1)] _ from ?_)
 refine WC.seq ?_
 refine WC.region ?_
 refine WL.y (Y.assign (v := vu 0) rfl) rfl ?_
 refine WL.y (Y.assign rfl) rfl ?_
 refine WL.nil ?_
 refine At.then ?_
 refine WC.seq ?_
 refine WC.seq ?_
 refine WC.region ?_
 refine WL.y (Y.move rfl) rfl ?_
 refine WL.y (Y.lss_i rfl rfl) rfl ?_
 refine WL.y (Y.move rfl) rfl ?_
 refine WL.cut 3 (σ := Unit) (fun _ w' => w = w') (fun _ => [(0, Value.pointer (some ⟨b0, 0, none⟩)), (1, vi a1), (16, Value.bool ((decide (a1 < 0)) || (decide (64 < a1))))]) ?_ ?_
 ·refine WL.part 13 rfl (fun hE13 => ?_) (fun hE13 => ?_)
  ·refine WL.gS rfl rfl rfl rfl ?_
   refine WL.gS rfl rfl rfl rfl ?_
   refine WL.y (Y.pick (b := true) rfl rfl) rfl ?_
   refine WL.ren (v' := Value.bool ((decide (a1 < 0)) || (decide (64 < a1)))) 16 rfl (congrArg Value.bool (orT hE13)) ?_
   exact WL.nil (At.join () rfl (.cons rfl (.cons rfl (.cons rfl .nil))))
  ·refine WL.ung rfl rfl ?_
   refine WL.y (Y.move rfl) rfl ?_
   refine WL.ung rfl rfl ?_
   refine WL.y (Y.gtr_i rfl rfl) rfl ?_
   refine WL.y (Y.pick (b := false) rfl rfl) rfl ?_
   refine WL.ren (v' := Value.bool ((decide (a1 < 0)) || (decide (64 < a1)))) 16 rfl (congrArg Value.bool (orF hE13)) ?_
   exact WL.nil (At.join () rfl (.cons rfl (.cons rfl (.cons rfl .nil))))
 ·rintro _ _ rfl
  refine (show WL _ _ _ _ _ [(0, Value.pointer (some ⟨b0, 0, none⟩)), (1, vi a1), (16, Value.bool ((decide (a1 < 0)) || (decide (64 < a1))))] _ from ?_)
  refine WL.y (Y.move rfl) rfl ?_
  obtain ⟨p18, h, hk19⟩ := bnd h
  refine WL.cut 5 (σ := (Bool × Own)) (fun x w' => x.1 = p18 ∧ Stp [] (Lg.O0 A) w x.2 w') (fun x => [(0, Value.pointer (some ⟨b0, 0, none⟩)), (1, vi a1), (22, Value.bool x.1)]) ?_ ?_
  ·rcases cnd h with ⟨hE20, h⟩ | ⟨hE20, h⟩
   ·refine WL.ren 17 rfl (congrArg Value.bool hE20) ?_
    refine WL.gS rfl rfl rfl rfl ?_
    refine WL.gS rfl rfl rfl rfl ?_
    refine WL.gS rfl rfl rfl rfl ?_
    refine WL.gS rfl rfl rfl rfl ?_
    refine WL.y (Y.pick (b := true) rfl rfl) rfl ?_
    exact WL.nil (At.join (σ := (Bool × Own)) (true, (Lg.O0 A)) ⟨some1 h, (Stp.refl _ _ _)⟩ (.cons rfl (.cons rfl (.cons rfl .nil))))
   ·refine WL.ren 17 rfl (congrArg Value.bool hE20) ?_
    refine WL.ung rfl rfl ?_
    refine WL.y (Y.move rfl) rfl ?_
    refine WL.ung rfl rfl ?_
    refine WL.y (Y.move rfl) rfl ?_
    refine WL.ung rfl rfl ?_
    obtain ⟨r21, hp22, h⟩ := bnd h
    refine WL.call (vals := [Value.pointer (some ⟨b0, 0, none⟩)]) kok22 rfl rfl (c_bitio_Reader_Left (A := fun _ => True) (a0 := a0) (Sl.all hf11) hb12.blk trivial hp22) ?_
    rintro vr25 wd24 ⟨rfl, hm23⟩
    obtain ⟨O26, hold27, hnew28, hst29⟩ := adoptE (Lg.O0 A) (fun k => 1) hm23
    refine WL.ung rfl rfl ?_
    refine WL.y (Y.gtr_i rfl rfl) rfl ?_
    refine WL.y (Y.pick (b := false) rfl rfl) rfl ?_
    exact WL.nil (At.join (σ := (Bool × Own)) (decide (r21 < a1), O26) ⟨some1 h, (Stp.up hst29 rfl)⟩ (.cons rfl (.cons rfl (.cons rfl .nil))))
  ·rintro ⟨x14, O15⟩ wd16 ⟨rfl, hst17⟩
   replace h := hk19
   try dsimp only at h hst17
   refine (show WL _ _ _ _ _ [(0, Value.pointer (some ⟨b0, 0, none⟩)), (1, vi a1), (22, Value.bool x14)] _ from ?_)
   refine WL.nil ?_
   refine At.then ?_
   rcases cnd h with ⟨hc30, h⟩ | ⟨hc30, h⟩
   ·refine WC.condT' rfl hc30 ?_
    refine WC.seq ?_
    refine WC.region ?_
    refine WL.y (Y.assign (v := vu 0) rfl) rfl ?_
    refine WL.y (Y.assign rfl) rfl ?_
    refine WL.nil ?_
    refine At.then ?_
    refine WC.ret ?_
    refine At.thenR ?_
    obtain ⟨rfl, rfl⟩ := tup2 h
    have hs31 : Stp [] (Lg.O0 A) w O15 wd16 := (Stp.up hst17 rfl)
    exact At.res (.inl rfl) rfl (.tmp rfl (.tmp rfl .nil)) ⟨rfl, (Stp.ext hs31 rfl rfl)⟩
   ·refine WC.condF' rfl hc30 ?_
    refine WC.skip ?_
    refine At.then ?_
    refine WC.seq ?_
    refine WC.region ?_
    refine WL.y (Y.assign (v := vu 0) rfl) rfl ?_
    refine WL.nil ?_
    refine At.then ?_
    refine WC.seq ?_
    refine WC.seq ?_
    refine WC.region ?_
    refine WL.y (Y.move rfl) rfl ?_
    refine WL.y (Y.nilCheck rfl) rfl ?_
    refine WL.y (Y.fieldAddr fo58_2 rfl) rfl ?_
    have hf32 := hb12.st hst17 rfl
    refine WL.y (Y.loadSc ty3 rfl rfl (hf32.cell 2 _ rfl)) rfl ?_
    refine WL.y (Y.assign rfl) rfl ?_
    refine WL.nil ?_
    refine At.then ?_
    refine WC.block ?_
    obtain ⟨p37, h, hk39⟩ := flow1 h
    obtain ⟨k38, h⟩ := loop_some h
    refine WC.joinB 0 (σ := UInt64) (fun x w' => p37 = .go x ∧ wd16 = w') (fun x => [(6, vu x)]) ?_ ?_
    ·refine WC.loop (σ := (Int × UInt64 × Int)) (fun x k w' => loopN k (bitio_Reader_Look_lp1 a0) (x.1, x.2.1, x.2.2) = some p37 ∧ wd16 = w') (fun x => [(0, Value.pointer (some ⟨b0, 0, none⟩)), (1, vi x.1), (6, vu x.2.1), (7, vi x.2.2)]) (a1, 0, a0.at_) k38 (.cons rfl (.cons rfl (.cons rfl (.cons rfl .nil)))) ⟨h, rfl⟩ ?_
     rintro ⟨nv33, v34, at35⟩ k38 _ ⟨h, rfl⟩
     obtain ⟨j40, q41, rfl, h, hn42⟩ := rnd1 h
     unfold bitio_Reader_Look_lp1 at h
     try dsimp only at h
     refine (show WC _ _ _ _ [(0, Value.pointer (some ⟨b0, 0, none⟩)), (1, vi nv33), (6, vu v34), (7, vi at35)] _ from ?_)
     refine WC.seq ?_
     refine WC.seq ?_
     refine WC.region ?_
     refine WL.y (Y.move rfl) rfl ?_
     refine WL.y (Y.gtr_i rfl rfl) rfl ?_
     refine WL.nil ?_
     refine At.then ?_
     rcases cnd h with ⟨hc43, h⟩ | ⟨hc43, h⟩
     ·refine WC.condT' rfl hc43 ?_
      refine WC.skip ?_
      refine At.then ?_
      refine WC.block ?_
      refine WC.seq ?_
      refine WC.region ?_
      refine WL.y (Y.move rfl) rfl ?_
      refine WL.y (Y.rem_i (by decide) rfl rfl) rfl ?_
      refine WL.y (Y.sub_i rfl rfl) rfl ?_
      obtain ⟨free44, hfree44, h⟩ := lt1 h
      refine WL.yE (Y.assign rfl) (congrArg vi hfree44.symm) rfl ?_
      refine WL.nil ?_
      refine At.then ?_
      refine WC.seq ?_
      refine WC.region ?_
      refine WL.y (Y.move rfl) rfl ?_
      refine WL.y (Y.move rfl) rfl ?_
      refine WL.y (Y.min_i rfl rfl) rfl ?_
      obtain ⟨k45, hk45, h⟩ := lt1 h
      refine WL.yE (Y.assign rfl) (congrArg vi hk45.symm) rfl ?_
      refine WL.nil ?_
      refine At.then ?_
      refine WC.seq ?_
      refine WC.region ?_
      refine WL.y (Y.move rfl) rfl ?_
      refine WL.y (Y.nilCheck rfl) rfl ?_
      refine WL.y (Y.fieldAddr fo58_0 rfl) rfl ?_
      refine WL.y (Y.loadSc ty27 rfl rfl (hf32.cell 0 _ rfl)) rfl ?_
      refine WL.y (Y.move rfl) rfl ?_
      refine WL.y (Y.quo_i (by decide) rfl rfl) rfl ?_
      obtain ⟨e46, he46, h⟩ := bnd h
      have hf55 := hf11.mono (imm_st hst17 rfl rfl)
      obtain ⟨b47, off56, cap54, cs53, hv48, hi49, hl50, hc51, hok52, hA57⟩ := Sl.at2 hf55 he46
      obtain rfl := hok52
      replace hc51 : CellsAt _ _ _ [vb e46] := hc51
      have hca58 := CAt.imm hc51 hA57
      refine WL.y (Y.indexAddr ty27 ty5 rfl hv48 rfl hi49 hl50) rfl ?_
      refine WL.y (Y.loadSc ty5 rfl rfl hca58.at_) rfl ?_
      refine WL.y (Y.move rfl) rfl ?_
      refine WL.y (Y.move rfl) rfl ?_
      refine WL.y (Y.sub_i rfl rfl) rfl ?_
      refine WL.y (Y.conv_iu ty3.u ty55.u rfl) rfl ?_
      refine WL.y (Y.shr_bu rfl rfl) rfl ?_
      refine WL.y (Y.move rfl) rfl ?_
      refine WL.y (Y.conv_iu ty3.u ty55.u rfl) rfl ?_
      refine WL.y (Y.shl_bu (a := 1) rfl rfl) rfl ?_
      refine WL.y (Y.sub_b (b := 1) rfl rfl) rfl ?_
      refine WL.y (Y.and_b rfl rfl) rfl ?_
      obtain ⟨piece59, hpiece59, h⟩ := lt1 h
      refine WL.yE (Y.assign rfl) (congrArg vb hpiece59.symm) rfl ?_
      refine WL.nil ?_
      refine At.then ?_
      refine WC.seq ?_
      refine WC.region ?_
      refine WL.y (Y.move rfl) rfl ?_
      refine WL.y (Y.move rfl) rfl ?_
      refine WL.y (Y.conv_iu ty3.u ty55.u rfl) rfl ?_
      refine WL.y (Y.shl_uu rfl rfl) rfl ?_
      refine WL.y (Y.move rfl) rfl ?_
      refine WL.y (Y.conv_bu ty5.u ty23.u rfl) rfl ?_
      refine WL.y (Y.or_u rfl rfl) rfl ?_
      obtain ⟨v60, hv60, h⟩ := lt1 h
      refine WL.yE (Y.assign rfl) (congrArg vu hv60.symm) rfl ?_
      refine WL.nil ?_
      refine At.then ?_
      refine WC.seq ?_
      refine WC.region ?_
      refine WL.y (Y.move rfl) rfl ?_
      refine WL.y (Y.move rfl) rfl ?_
      refine WL.y (Y.add_i rfl rfl) rfl ?_
      obtain ⟨at61, hat61, h⟩ := lt1 h
      refine WL.yE (Y.assign rfl) (congrArg vi hat61.symm) rfl ?_
      refine WL.nil ?_
      refine At.then ?_
      refine WC.region ?_
      refine WL.y (Y.move rfl) rfl ?_
      refine WL.y (Y.move rfl) rfl ?_
      refine WL.y (Y.sub_i rfl rfl) rfl ?_
      obtain ⟨nv62, hnv62, h⟩ := lt1 h
      refine WL.yE (Y.assign rfl) (congrArg vi hnv62.symm) rfl ?_
      refine WL.nil ?_
      refine At.inBlock ?_
      exact At.round (nv62, v60, at61) j40 (Nat.lt_succ_self _) ⟨next1 h hn42, rfl⟩ (.cons rfl (.cons rfl (.cons rfl (.cons rfl .nil))))
     ·refine WC.condF' rfl hc43 ?_
      refine WC.exit ?_
      refine At.thenX ?_
      refine At.loopX ?_
      exact At.hitB (σ := UInt64) v34 ⟨brk1 h hn42, rfl⟩ (.cons rfl .nil)
    ·rintro v36 _ ⟨rfl, rfl⟩
     replace h := flowK_go hk39
     try dsimp only at h
     refine (show At _ _ _ [(6, vu v36)] _ from ?_)
     refine At.inBlockHit ?_
     refine At.then ?_
     refine WC.seq ?_
     refine WC.region ?_
     refine WL.y (Y.move rfl) rfl ?_
     refine WL.y (Y.assign rfl) rfl ?_
     refine WL.y (Y.assign rfl) rfl ?_
     refine WL.nil ?_
     refine At.then ?_
     refine WC.ret ?_
     obtain ⟨rfl, rfl⟩ := tup2 h
     have hs63 : Stp [] (Lg.O0 A) w O15 wd16 := (Stp.up hst17 rfl)
     exact At.res (.inl rfl) rfl (.tmp rfl (.tmp rfl .nil)) ⟨rfl, (Stp.ext hs63 rfl rfl)⟩

theorem c_bitio_Reader_Take {A : Nat → Prop} {v0_0 : Value} {a0 : bitio_Reader} {b0 : Nat} {a1 : Int} {w : World} (hs0_0 : Sl Rep.b w A v0_0 a0.b) (hb0 : w.heap[b0]? = some (.cells (List.toArray [v0_0, vi a0.n, vi a0.at_]) 58 (0, 0))) (hA : ∀ k, A k → k ≠ b0) {r0 : UInt64} {r1 : Bool} {q0 : bitio_Reader} (h : bitio_Reader_Take a0 a1 = some (r0, r1, q0)) : Rets Tryd.prog 42 [Value.pointer (some ⟨b0, 0, none⟩), vi a1] w (fun v w' => ∃ (z0_0 : Value), v = Value.tuple (List.toArray [vu r0, Value.bool r1]) ∧ Mod (fun k => k = b0) w w' ∧ Sl Rep.b w' (fun k => A k ∨ w.heap.size ≤ k) z0_0 q0.b ∧ w'.heap[b0]? = some (.cells (List.toArray [z0_0, vi q0.n, vi q0.at_]) 58 (0, 0))) := by
 unfold bitio_Reader_Take at h
 refine Rets.enter Tryd.func42 rfl rfl ?_
 have hf11 : Sl Rep.b w (imm (Lg.OB b0 3 (Lg.O0 A))) v0_0 a0.b := (Sl.OB (Sl.start hs0_0) (fun k hk => (hA k (O0_A k hk))))
 have hb12 : Blk 3 (Lg.OB b0 3 (Lg.O0 A)) w b0 58 [v0_0, vi a0.n, vi a0.at_] := ⟨(if_pos rfl), hb0⟩
 refine (show WC _ _ _ _ [(0, Value.pointer (some ⟨b0, 0, none⟩)), (1, vi a1)] _ from ?_)
 refine WC.seq ?_
 refine WC.region ?_
 refine WL.y (Y.assign (v := vu 0) rfl) rfl ?_
 refine WL.y (Y.assign rfl) rfl ?_
 refine WL.nil ?_
 refine At.then ?_
 refine WC.seq ?_
 refine WC.region ?_
 refine WL.y (Y.move rfl) rfl ?_
 refine WL.y (Y.move rfl) rfl ?_
 obtain ⟨⟨r13, r14⟩, hp15, h⟩ := bnd h
 refine WL.call (vals := [Value.pointer (some ⟨b0, 0, none⟩), vi a1]) kok44 rfl rfl (c_bitio_Reader_Look (A := fun _ => True) (a0 := a0) (Sl.all hf11) hb12.blk trivial hp15) ?_
 rintro vr18 wd17 ⟨rfl, hm16⟩
 obtain ⟨O19, hold20, hnew21, hst22⟩ := adoptE (Lg.OB b0 3 (Lg.O0 A)) (fun k => 1) hm16
 refine WL.y (Y.move rfl) rfl ?_
 refine WL.y (Y.extract rfl rfl) rfl ?_
 refine WL.y (Y.extract rfl rfl) rfl ?_
 refine WL.y (Y.assign rfl) rfl ?_
 refine WL.y (Y.assign rfl) rfl ?_
 refine WL.nil ?_
 refine At.then ?_
 refine WC.seq ?_
 refine WC.seq ?_
 refine WC.region ?_
 refine WL.y (Y.move rfl) rfl ?_
 refine WL.nil ?_
 refine At.then ?_
 rcases cnd h with ⟨hc23, h⟩ | ⟨hc23, h⟩
 ·refine WC.condT' rfl hc23 ?_
  refine WC.region ?_
  refine WL.y (Y.move rfl) rfl ?_
  refine WL.y (Y.nilCheck rfl) rfl ?_
  refine WL.y (Y.fieldAddr fo58_2 rfl) rfl ?_
  have hf24 := hb12.st hst22 rfl
  refine WL.y (Y.loadSc ty3 rfl rfl (hf24.cell 2 _ rfl)) rfl ?_
  refine WL.y (Y.move rfl) rfl ?_
  refine WL.y (Y.add_i rfl rfl) rfl ?_
  refine WL.y (Y.nilCheck rfl) rfl ?_
  refine WL.y (Y.fieldAddr fo58_2 rfl) rfl ?_
  obtain ⟨t25, ht25, h⟩ := lt1 h
  refine WL.ren 20 rfl (congrArg vi ht25.symm) ?_
  refine WL.store (v := vi t25) (cells' := [v0_0, vi a0.n, vi t25]) ty3 rfl rfl hf24 rfl (Nat.le_of_ble_eq_true rfl) rfl rfl ?_
  intro wd26 hst27 hb28
  refine WL.nil ?_
  refine At.then ?_
  refine WC.seq ?_
  refine WC.region ?_
  refine WL.y (Y.move rfl) rfl ?_
  refine WL.y (Y.move rfl) rfl ?_
  refine WL.y (Y.assign rfl) rfl ?_
  refine WL.y (Y.assign rfl) rfl ?_
  refine WL.nil ?_
  refine At.then ?_
  refine WC.ret ?_
  obtain ⟨rfl, rfl, rfl⟩ := tup3 h
  have hs29 : Stp [3] (Lg.OB b0 3 (Lg.O0 A)) w O19 wd26 := (Stp.trans (Stp.up hst22 rfl) (Stp.up hst27 rfl))
  have hf30 := hf11.mono (imm_st hst22 rfl rfl)
  have hf31 := hf30.mono (imm_st hst27 rfl rfl)
  exact At.res (.inl rfl) rfl (.tmp rfl (.tmp rfl .nil)) ⟨v0_0, rfl, (Stp.modL hs29 sB1 rfl rfl), (Sl.outI hf31 hs29 (lowB low0 rfl rfl) (aB O0_A rfl)), hb28.blk⟩
 ·refine WC.condF' rfl hc23 ?_
  refine WC.skip ?_
  refine At.then ?_
  refine WC.seq ?_
  refine WC.region ?_
  refine WL.y (Y.move rfl) rfl ?_
  refine WL.y (Y.move rfl) rfl ?_
  refine WL.y (Y.assign rfl) rfl ?_
  refine WL.y (Y.assign rfl) rfl ?_
  refine WL.nil ?_
  refine At.then ?_
  refine WC.ret ?_
  obtain ⟨rfl, rfl, rfl⟩ := tup3 h
  have hs32 : Stp [] (Lg.OB b0 3 (Lg.O0 A)) w O19 wd17 := (Stp.up hst22 rfl)
  have hf33 := hb12.st hst22 rfl
  have hf34 := hf11.mono (imm_st hst22 rfl rfl)
  exact At.res (.inl rfl) rfl (.tmp rfl (.tmp rfl .nil)) ⟨v0_0, rfl, (Stp.modL hs32 sB1 rfl rfl), (Sl.outI hf34 hs32 (lowB low0 rfl rfl) (aB O0_A rfl)), hf33.blk⟩

theorem c_bitio_Reader_Skip {A : Nat → Prop} {v0_0 : Value} {a0 : bitio_Reader} {b0 : Nat} {a1 : Int} {w : World} (hs0_0 : Sl Rep.b w A v0_0 a0.b) (hb0 : w.heap[b0]? = some (.cells (List.toArray [v0_0, vi a0.n, vi a0.at_]) 58 (0, 0))) (hA : ∀ k, A k → k ≠ b0) {r0 : Bool} {q0 : bitio_Reader} (h : bitio_Reader_Skip a0 a1 = some (r0, q0)) : Rets Tryd.prog 29 [Value.pointer (some ⟨b0, 0, none⟩), vi a1] w (fun v w' => ∃ (z0_0 : Value), v = Value.bool r0 ∧ Mod (fun k => k = b0) w w' ∧ Sl Rep.b w' (fun k => A k ∨ w.heap.size ≤ k) z0_0 q0.b ∧ w'.heap[b0]? = some (.cells (List.toArray [z0_0, vi q0.n, vi q0.at_]) 58 (0, 0))) := by
 unfold bitio_Reader_Skip at h
 refine Rets.enter Tryd.func29 rfl rfl ?_
 have hf11 : Sl Rep.b w (imm (Lg.OB b0 3 (Lg.O0 A))) v0_0 a0.b := (Sl.OB (Sl.start hs0_0) (fun k hk => (hA k (O0_A k hk))))
 have hb12 : Blk 3 (Lg.OB b0 3 (Lg.O0 A)) w b0 58 [v0_0, vi a0.n, vi a0.at_] := ⟨(if_pos rfl), hb0⟩
 refine (show WC _ _ _ _ [(0, Value.pointer (some ⟨b0, 0, none⟩)), (1, vi a1)] _ from ?_)
 refine WC.seq ?_
 refine WC.region ?_
 refine WL.y (Y.assign rfl) rfl ?_
 refine WL.nil ?_
 refine At.then ?_
 refine WC.seq ?_
 refine WC.seq ?_
 refine WC.region ?_
 refine WL.y (Y.move rfl) rfl ?_
 refine WL.y (Y.lss_i rfl rfl) rfl ?_
 refine WL.y (Y.move rfl) rfl ?_
 obtain ⟨p17, h, hk18⟩ := bnd h
 refine WL.cut 5 (σ := (Bool × Own)) (fun x w' => x.1 = p17 ∧ Stp [] (Lg.OB b0 3 (Lg.O0 A)) w x.2 w') (fun x => [(0, Value.pointer (some ⟨b0, 0, none⟩)), (1, vi a1), (12, Value.bool x.1)]) ?_ ?_
 ·rcases cnd h with ⟨hE19, h⟩ | ⟨hE19, h⟩
  ·refine WL.ren 7 rfl (congrArg Value.bool hE19) ?_
   refine WL.gS rfl rfl rfl rfl ?_
   refine WL.gS rfl rfl rfl rfl ?_
   refine WL.gS rfl rfl rfl rfl ?_
   refine WL.gS rfl rfl rfl rfl ?_
   refine WL.y (Y.pick (b := true) rfl rfl) rfl ?_
   exact WL.nil (At.join (σ := (Bool × Own)) (true, (Lg.OB b0 3 (Lg.O0 A))) ⟨some1 h, (Stp.refl _ _ _)⟩ (.cons rfl (.cons rfl (.cons rfl .nil))))
  ·refine WL.ren 7 rfl (congrArg Value.bool hE19) ?_
   refine WL.ung rfl rfl ?_
   refine WL.y (Y.move rfl) rfl ?_
   refine WL.ung rfl rfl ?_
   refine WL.y (Y.move rfl) rfl ?_
   refine WL.ung rfl rfl ?_
   obtain ⟨r20, hp21, h⟩ := bnd h
   refine WL.call (vals := [Value.pointer (some ⟨b0, 0, none⟩)]) kok22 rfl rfl (c_bitio_Reader_Left (A := fun _ => True) (a0 := a0) (Sl.all hf11) hb12.blk trivial hp21) ?_
   rintro vr24 wd23 ⟨rfl, hm22⟩
   obtain ⟨O25, hold26, hnew27, hst28⟩ := adoptE (Lg.OB b0 3 (Lg.O0 A)) (fun k => 1) hm22
   refine WL.ung rfl rfl ?_
   refine WL.y (Y.gtr_i rfl rfl) rfl ?_
   refine WL.y (Y.pick (b := false) rfl rfl) rfl ?_
   exact WL.nil (At.join (σ := (Bool × Own)) (decide (r20 < a1), O25) ⟨some1 h, (Stp.up hst28 rfl)⟩ (.cons rfl (.cons rfl (.cons rfl .nil))))
 ·rintro ⟨x13, O14⟩ wd15 ⟨rfl, hst16⟩
  replace h := hk18
  try dsimp only at h hst16
  refine (show WL _ _ _ _ _ [(0, Value.pointer (some ⟨b0, 0, none⟩)), (1, vi a1), (12, Value.bool x13)] _ from ?_)
  refine WL.nil ?_
  refine At.then ?_
  rcases cnd h with ⟨hc29, h⟩ | ⟨hc29, h⟩
  ·refine WC.condT' rfl hc29 ?_
   refine WC.seq ?_
   refine WC.region ?_
   refine WL.y (Y.assign rfl) rfl ?_
   refine WL.nil ?_
   refine At.then ?_
   refine WC.ret ?_
   refine At.thenR ?_
   obtain ⟨rfl, rfl⟩ := tup2 h
   have hs30 : Stp [] (Lg.OB b0 3 (Lg.O0 A)) w O14 wd15 := (Stp.up hst16 rfl)
   have hf31 := hb12.st hst16 rfl
   have hf32 := hf11.mono (imm_st hst16 rfl rfl)
   exact At.res (.inl rfl) rfl (.tmp rfl .nil) ⟨v0_0, rfl, (Stp.modL hs30 sB1 rfl rfl), (Sl.outI hf32 hs30 (lowB low0 rfl rfl) (aB O0_A rfl)), hf31.blk⟩
  ·refine WC.condF' rfl hc29 ?_
   refine WC.skip ?_
   refine At.then ?_
   refine WC.seq ?_
   refine WC.region ?_
   refine WL.y (Y.move rfl) rfl ?_
   refine WL.y (Y.nilCheck rfl) rfl ?_
   refine WL.y (Y.fieldAddr fo58_2 rfl) rfl ?_
   have hf33 := hb12.st hst16 rfl
   refine WL.y (Y.loadSc ty3 rfl rfl (hf33.cell 2 _ rfl)) rfl ?_
   refine WL.y (Y.move rfl) rfl ?_
   refine WL.y (Y.add_i rfl rfl) rfl ?_
   refine WL.y (Y.nilCheck rfl) rfl ?_
   refine WL.y (Y.fieldAddr fo58_2 rfl) rfl ?_
   obtain ⟨t34, ht34, h⟩ := lt1 h
   refine WL.ren 18 rfl (congrArg vi ht34.symm) ?_
   refine WL.store (v := vi t34) (cells' := [v0_0, vi a0.n, vi t34]) ty3 rfl rfl hf33 rfl (Nat.le_of_ble_eq_true rfl) rfl rfl ?_
   intro wd35 hst36 hb37
   refine WL.nil ?_
   refine At.then ?_
   refine WC.seq ?_
   refine WC.region ?_
   refine WL.y (Y.assign rfl) rfl ?_
   refine WL.nil ?_
   refine At.then ?_
   refine WC.ret ?_
   obtain ⟨rfl, rfl⟩ := tup2 h
   have hs38 : Stp [3] (Lg.OB b0 3 (Lg.O0 A)) w O14 wd35 := (Stp.trans (Stp.up hst16 rfl) (Stp.up hst36 rfl))
   have hf39 := hf11.mono (imm_st hst16 rfl rfl)
   have hf40 := hf39.mono (imm_st hst36 rfl rfl)
   exact At.res (.inl rfl) rfl (.tmp rfl .nil) ⟨v0_0, rfl, (Stp.modL hs38 sB1 rfl rfl), (Sl.outI hf40 hs38 (lowB low0 rfl rfl) (aB O0_A rfl)), hb37.blk⟩

theorem c_xor_Row_Get {A : Nat → Prop} {a0 : xor_Row} {b0 : Nat} {v1_0 : Value} {a1 : bitio_Reader} {b1 : Nat} {w : World} (hb0 : w.heap[b0]? = some (.cells (List.toArray [vi a0.n, vu a0.last, vi a0.win.ahead, vi a0.win.size]) 62 (0, 0))) (hs1_0 : Sl Rep.b w A v1_0 a1.b) (hb1 : w.heap[b1]? = some (.cells (List.toArray [v1_0, vi a1.n, vi a1.at_]) 58 (0, 0))) (hG0 : CellsAt w 0 0 [vi 0, vi 0]) (hGA0 : A 0) (hG1 : CellsAt w 1 0 (gdat1.map vb)) (hGA1 : A 1) (hne0_1 : b0 ≠ b1) (hA : ∀ k, A k → k ≠ b0 ∧ k ≠ b1) {r0 : UInt64} {r1 : Int} {q0 : xor_Row} {q1 : bitio_Reader} (h : xor_Row_Get a0 a1 = some (r0, r1, q0, q1)) : Rets Tryd.prog 13 [Value.pointer (some ⟨b0, 0, none⟩), Value.pointer (some ⟨b1, 0, none⟩)] w (fun v w' => ∃ (z1_0 : Value), v = Value.tuple (List.toArray [vu r0, vi r1]) ∧ Mod (fun k => k = b0 ∨ k = b1) w w' ∧ w'.heap[b0]? = some (.cells (List.toArray [vi q0.n, vu q0.last, vi q0.win.ahead, vi q0.win.size]) 62 (0, 0)) ∧ Sl Rep.b w' (fun k => A k ∨ w.heap.size ≤ k) z1_0 q1.b ∧ w'.heap[b1]? = some (.cells (List.toArray [z1_0, vi q1.n, vi q1.at_]) 58 (0, 0))) := by
 unfold xor_Row_Get at h
 refine Rets.enter Tryd.func13 rfl rfl ?_
 have hb11 : Blk 3 (Lg.OB b0 3 (Lg.OB b1 4 (Lg.O0 A))) w b0 62 [vi a0.n, vu a0.last, vi a0.win.ahead, vi a0.win.size] := ⟨(if_pos rfl), hb0⟩
 have hf12 : Sl Rep.b w (imm (Lg.OB b0 3 (Lg.OB b1 4 (Lg.O0 A)))) v1_0 a1.b := (Sl.OB (Sl.OB (Sl.start hs1_0) (fun k hk => (hA k (O0_A k hk)).2)) (fun k hk => (hA k ((aB O0_A rfl) k hk)).1))
 have hb13 : Blk 4 (Lg.OB b0 3 (Lg.OB b1 4 (Lg.O0 A))) w b1 58 [v1_0, vi a1.n, vi a1.at_] := ⟨((if_neg (fun (e : b1 = b0) => hne0_1 e.symm)).trans (if_pos rfl)), hb1⟩
 have hG14 : CAt [0, 1] (Lg.OB b0 3 (Lg.OB b1 4 (Lg.O0 A))) w 0 0 [vi 0, vi 0] := CAt.glob hG0 ((if_neg (hA _ hGA0).1).trans ((if_neg (hA _ hGA0).2).trans (if_pos hGA0)))
 have hG15 : CAt [0, 1] (Lg.OB b0 3 (Lg.OB b1 4 (Lg.O0 A))) w 1 0 (gdat1.map vb) := CAt.glob hG1 ((if_neg (hA _ hGA1).1).trans ((if_neg (hA _ hGA1).2).trans (if_pos hGA1)))
 refine (show WC _ _ _ _ [(0, Value.pointer (some ⟨b0, 0, none⟩)), (1, Value.pointer (some ⟨b1, 0, none⟩))] _ from ?_)
 refine WC.seq ?_
 refine WC.region ?_
 refine WL.y (Y.assign (v := vu 0) rfl) rfl ?_
 refine WL.y (Y.assign rfl) rfl ?_
 refine WL.nil ?_
 refine At.then ?_
 refine WC.seq ?_
 refine WC.drawH [11, 12, 13, 14, 1001] [0, 1, 2, 3, 4, 5, 6, 7, 8] (Lg.OB b0 3 (Lg.OB b1 4 (Lg.O0 A))) 10 fmix rfl (by kernel_rfl) ?_
 intro wd16 hst17
 refine WD.y 0 rfl (by kernel_rfl) (fun _ _ _ => Y.move rfl) rfl ?_
 refine WD.y 1 rfl (by kernel_rfl) (fun _ _ _ => Y.nilCheck rfl) rfl ?_
 refine WD.y 2 rfl (by kernel_rfl) (fun wd25 O24 hst26 => have hf27 := hb11.st hst17 rfl; have hf28 := hf27.st hst26 rfl; Y.loadAg ty62 rfl rfl (hf28.cells 0 [vi a0.n, vu a0.last, vi a0.win.ahead, vi a0.win.size] rfl) rfl) rfl ?_
 refine WD.y 3 rfl (by kernel_rfl) (fun _ _ _ => Y.move rfl) rfl ?_
 refine WD.y 4 rfl (by kernel_rfl) (fun _ _ _ => Y.nilCheck rfl) rfl ?_
 refine WD.y 5 rfl (by kernel_rfl) (fun wd36 O35 hst37 => have hf38 := hb13.st hst17 rfl; have hf39 := hf38.st hst37 rfl; Y.loadAg ty58 rfl rfl (hf39.cells 0 [v1_0, vi a1.n, vi a1.at_] rfl) rfl) rfl ?_
 obtain ⟨p47, h, hk48⟩ := bnd h
 refine WD.join (σ := (Own × Nat × Nat)) (f' := 2) [7, 6, 5, 4, 3, 2, 1, 0] (fun x O' w' => () = p47 ∧ Stp [11, 12, 13, 14] (Lg.OB b0 3 (Lg.OB b1 4 (Lg.O0 A))) wd16 x.1 w' ∧ Blk 1001 x.1 w' x.2.1 62 [vi 0, vu 0, vi 0, vi 0] ∧ Blk 1002 x.1 w' x.2.2 58 [Value.slice none 0 0, vi 0, vi 0] ∧ x.1 = O') (fun x => [(0, Value.pointer (some ⟨b0, 0, none⟩)), (1, Value.pointer (some ⟨b1, 0, none⟩)), (6, Value.pointer (some ⟨x.2.1, 0, none⟩)), (7, Value.pointer (some ⟨x.2.2, 0, none⟩)), (12, Value.agg (List.toArray [vi a0.n, vu a0.last, vi a0.win.ahead, vi a0.win.size])), (15, Value.agg (List.toArray [v1_0, vi a1.n, vi a1.at_]))]) (fun hJ49 => ?_) ?_
 ·refine WD.heavy2 6 7 rfl rfl (by kernel_rfl) ?_ ?_
  ·refine WL.alloc (O := (Lg.OB b0 3 (Lg.OB b1 4 (Lg.O0 A)))) 11 [vi 0, vu 0, vi 0, vi 0] ty62 rfl rfl ?_
   intro p51 O52 wd53 hst54 hb50
   refine WL.nil ?_
   refine At.dq (Stp.up hst54 rfl) ?_
   refine WD.heavy 7 rfl (by kernel_rfl) ?_
   refine WL.alloc (O := O52) 12 [Value.slice none 0 0, vi 0, vi 0] ty58 rfl rfl ?_
   intro p56 O57 wd58 hst59 hb55
   refine WL.nil ?_
   refine At.dq (Stp.up hst59 rfl) ?_
   have hf60 := hb50.st hst59 rfl
   obtain ⟨O61, hst62, hb63⟩ := Blk.rlb 1001 rfl hf60
   have hf64 := hb55.st hst62 rfl
   obtain ⟨O65, hst66, hb67⟩ := Blk.rlb 1002 rfl hf64
   have hf68 := hb63.st hst66 rfl
   refine WD.own (Stp.trans (Stp.up hst62 rfl) (Stp.up hst66 rfl)) ?_
   refine WD.perm _ [7, 6, 5, 4, 3, 2, 1, 0] (by kernel_rfl) ?_
   exact hJ49 (O65, p51, p56) _ _ _ ⟨rfl, (Stp.trans (Stp.up hst54 rfl) (Stp.trans (Stp.up hst59 rfl) (Stp.trans (Stp.up hst62 rfl) (Stp.up hst66 rfl)))), hf68, hb67, rfl⟩ (.cons rfl (.cons rfl (.cons rfl (.cons rfl (.cons rfl (.cons rfl .nil))))))
  ·try simp only [Option.bind_assoc] at h
   try simp only [Option.bind_some] at h
   refine WL.alloc (O := (Lg.OB b0 3 (Lg.OB b1 4 (Lg.O0 A)))) 13 [Value.slice none 0 0, vi 0, vi 0] ty58 rfl rfl ?_
   intro p70 O71 wd72 hst73 hb69
   refine WL.nil ?_
   refine At.dq (Stp.up hst73 rfl) ?_
   refine WD.heavy 6 rfl (by kernel_rfl) ?_
   refine WL.alloc (O := O71) 14 [vi 0, vu 0, vi 0, vi 0] ty62 rfl rfl ?_
   intro p75 O76 wd77 hst78 hb74
   refine WL.nil ?_
   refine At.dq (Stp.up hst78 rfl) ?_
   obtain ⟨O79, hst80, hb81⟩ := Blk.rlb 1001 rfl hb74
   have hf82 := hb69.st hst78 rfl
   have hf83 := hf82.st hst80 rfl
   obtain ⟨O84, hst85, hb86⟩ := Blk.rlb 1002 rfl hf83
   have hf87 := hb81.st hst85 rfl
   refine WD.own (Stp.trans (Stp.up hst80 rfl) (Stp.up hst85 rfl)) ?_
   refine WD.perm _ [7, 6, 5, 4, 3, 2, 1, 0] (by kernel_rfl) ?_
   exact hJ49 (O84, p75, p70) _ _ _ ⟨rfl, (Stp.trans (Stp.up hst73 rfl) (Stp.trans (Stp.up hst78 rfl) (Stp.trans (Stp.up hst80 rfl) (Stp.up hst85 rfl)))), hf87, hb86, rfl⟩ (.cons rfl (.cons rfl (.cons rfl (.cons rfl (.cons rfl (.cons rfl .nil))))))
 ·rintro ⟨O44, b40, b42⟩ _ wd45 ⟨rfl, hst46, hb41, hb43, rfl⟩
  replace h := hk48
  try dsimp only at h hst46 hb41 hb43
  refine (show WD _ _ _ _ _ _ _ _ [(0, Value.pointer (some ⟨b0, 0, none⟩)), (1, Value.pointer (some ⟨b1, 0, none⟩)), (6, Value.pointer (some ⟨b40, 0, none⟩)), (7, Value.pointer (some ⟨b42, 0, none⟩)), (12, Value.agg (List.toArray [vi a0.n, vu a0.last, vi a0.win.ahead, vi a0.win.size])), (15, Value.agg (List.toArray [v1_0, vi a1.n, vi a1.at_]))] _ _ from ?_)
  refine WD.heavy 8 rfl (by kernel_rfl) ?_
  refine WL.store (v := Value.agg (List.toArray [vi a0.n, vu a0.last, vi a0.win.ahead, vi a0.win.size])) (cells' := [vi a0.n, vu a0.last, vi a0.win.ahead, vi a0.win.size]) ty62 rfl rfl hb41 rfl (Nat.le_of_ble_eq_true rfl) rfl rfl ?_
  intro wd88 hst89 hb90
  refine WL.nil ?_
  refine At.dq (Stp.up hst89 rfl) ?_
  refine WD.phase [1002] [0, 1, 2, 3, 4, 5, 6, 7, 8, 9] (by kernel_rfl) (by kernel_rfl) ?_
  refine WD.heavy 9 rfl (by kernel_rfl) ?_
  have hf91 := hf12.mono (imm_st hst17 rfl rfl)
  have hf92 := hf91.mono (imm_st hst46 rfl rfl)
  have hf93 := hf92.mono (imm_st hst89 rfl rfl)
  have hh97 := h
  obtain ⟨p94, m95, c96, rfl⟩ := hf93.shape
  have h := hh97
  have hf98 := hb43.st hst89 rfl
  refine WL.store (v := Value.agg (List.toArray [(Value.slice p94 m95 c96), vi a1.n, vi a1.at_])) (cells' := [(Value.slice p94 m95 c96), vi a1.n, vi a1.at_]) ty58 rfl rfl hf98 rfl (Nat.le_of_ble_eq_true rfl) rfl rfl ?_
  intro wd99 hst100 hb101
  refine WL.nil ?_
  refine At.dq (Stp.up hst100 rfl) ?_
  refine WD.done_ (by kernel_rfl) ?_
  refine At.then ?_
  refine WC.seq ?_
  refine WC.region ?_
  refine WL.alloc (O := O44) 15 [vi 0] ty29 rfl rfl ?_
  intro p103 O104 wd105 hst106 hb102
  refine WL.nil ?_
  refine At.then ?_
  refine WC.seq ?_
  refine WC.region ?_
  obtain ⟨p122, h, hk123⟩ := bnd h
  refine WL.callJ (vals := [Value.pointer (some ⟨b40, 0, none⟩), Value.pointer (some ⟨b42, 0, none⟩), Value.pointer (some ⟨p103, 0, none⟩)]) (σ := (Int × Int × List UInt8 × Int × Int × Int × UInt64 × Own × Value)) (fun x w' => (x.1, x.2.1, x.2.2.1, x.2.2.2.1, x.2.2.2.2.1, x.2.2.2.2.2.1, x.2.2.2.2.2.2.1) = p122 ∧ Stp [15, 16, 1001, 1002] O104 wd105 x.2.2.2.2.2.2.2.1 w' ∧ Blk 1001 x.2.2.2.2.2.2.2.1 w' b40 62 [vi a0.n, vu a0.last, vi x.1, vi x.2.1] ∧ Sl Rep.b w' (imm x.2.2.2.2.2.2.2.1) x.2.2.2.2.2.2.2.2 x.2.2.1 ∧ Blk 1002 x.2.2.2.2.2.2.2.1 w' b42 58 [x.2.2.2.2.2.2.2.2, vi x.2.2.2.1, vi x.2.2.2.2.1] ∧ Blk 15 x.2.2.2.2.2.2.2.1 w' p103 29 [vi x.2.2.2.2.2.1]) (fun x => vu x.2.2.2.2.2.2.1) kok28 rfl rfl ?_ ?_
  ·refine Rets.enter Tryd.func28 rfl rfl ?_
   refine (show WC _ _ _ _ [(0, Value.pointer (some ⟨b40, 0, none⟩)), (1, Value.pointer (some ⟨b42, 0, none⟩)), (2, Value.pointer (some ⟨p103, 0, none⟩))] _ from ?_)
   refine WC.seq ?_
   refine WC.region ?_
   refine WL.y (Y.assign (v := vu 0) rfl) rfl ?_
   refine WL.nil ?_
   refine At.then ?_
   refine WC.seq ?_
   refine WC.seq ?_
   refine WC.region ?_
   refine WL.y (Y.move rfl) rfl ?_
   refine WL.y (Y.nilCheck rfl) rfl ?_
   refine WL.y (Y.fieldAddr fo62_0 rfl) rfl ?_
   have hf124 := hb90.st hst100 rfl
   have hf125 := hf124.st hst106 rfl
   refine WL.y (Y.loadSc ty3 rfl rfl (hf125.cell 0 _ rfl)) rfl ?_
   refine WL.y (Y.eql_i rfl rfl) rfl ?_
   refine WL.nil ?_
   refine At.then ?_
   rcases cnd h with ⟨hc126, h⟩ | ⟨hc126, h⟩
   ·refine WC.condT' rfl hc126 ?_
    refine WC.seq ?_
    refine WC.region ?_
    refine WL.y (Y.move rfl) rfl ?_
    refine WL.y (Y.move rfl) rfl ?_
    obtain ⟨p139, h, hk140⟩ := bnd h
    refine WL.callJ (vals := [Value.pointer (some ⟨b42, 0, none⟩), Value.pointer (some ⟨p103, 0, none⟩), vi 64]) (σ := (List UInt8 × Int × Int × Int × UInt64 × Own × Value)) (fun x w' => (x.1, x.2.1, x.2.2.1, x.2.2.2.1, x.2.2.2.2.1) = p139 ∧ Stp [15, 1002] O104 wd105 x.2.2.2.2.2.1 w' ∧ Sl Rep.b w' (imm x.2.2.2.2.2.1) x.2.2.2.2.2.2 x.1 ∧ Blk 1002 x.2.2.2.2.2.1 w' b42 58 [x.2.2.2.2.2.2, vi x.2.1, vi x.2.2.1] ∧ Blk 15 x.2.2.2.2.2.1 w' p103 29 [vi x.2.2.2.1]) (fun x => vu x.2.2.2.2.1) kok38 rfl rfl ?_ ?_
    ·refine Rets.enter Tryd.func38 rfl rfl ?_
     refine (show WC _ _ _ _ [(0, Value.pointer (some ⟨b42, 0, none⟩)), (1, Value.pointer (some ⟨p103, 0, none⟩)), (2, vi 64)] _ from ?_)
     refine WC.seq ?_
     refine WC.region ?_
     refine WL.y (Y.assign (v := vu 0) rfl) rfl ?_
     refine WL.nil ?_
     refine At.then ?_
     refine WC.seq ?_
     refine WC.region ?_
     refine WL.y (Y.move rfl) rfl ?_
     refine WL.y (Y.move rfl) rfl ?_
     have hf141 := hb101.st hst106 rfl
     have hf142 := hf93.mono (imm_st hst100 rfl rfl)
     have hf143 := hf142.mono (imm_st hst106 rfl rfl)
     obtain ⟨⟨r144, r145, r146⟩, hp147, h⟩ := bnd h
     refine WL.call (vals := [Value.pointer (some ⟨b42, 0, none⟩), vi 64]) kok42 rfl rfl (c_bitio_Reader_Take (A := imm O104) (a0 := a1) hf143 hf141.blk (fun k hk => imm_ne hf141.lab rfl k hk) hp147) ?_
     rintro vr153 wd152 ⟨z148, rfl, hm151, f149, f150⟩
     obtain ⟨O154, hold155, hnew156, hst157⟩ := adopt O104 (fun k => 1) [1002] hm151 (memB hf141.lab rfl)
     have hf158 : Sl Rep.b wd152 (imm O154) z148 r146.b := Sl.adoptI (O := O104) f149 (fun _ hk => hk) (fun _ _ => Nat.le_refl _) hold155 hnew156
     have hb159 : Blk 1002 O154 wd152 b42 58 [z148, vi r146.n, vi r146.at_] := Blk.adopt hf141 hold155 f150
     refine WL.y (Y.move rfl) rfl ?_
     refine WL.y (Y.extract rfl rfl) rfl ?_
     refine WL.y (Y.extract rfl rfl) rfl ?_
     refine WL.y (Y.assign rfl) rfl ?_
     refine WL.y (Y.assign rfl) rfl ?_
     refine WL.nil ?_
     refine At.then ?_
     refine WC.seq ?_
     refine WC.seq ?_
     refine WC.region ?_
     refine WL.y (Y.move rfl) rfl ?_
     refine WL.y (Y.not rfl) rfl ?_
     refine WL.y (Y.move rfl) rfl ?_
     refine WL.cut 5 (σ := Unit) (fun _ w' => wd152 = w') (fun _ => [(1, Value.pointer (some ⟨p103, 0, none⟩)), (7, vu r144), (22, Value.bool ((!r145) && (decide (0 = 0))))]) ?_ ?_
     ·refine WL.part 17 rfl (fun hE160 => ?_) (fun hE160 => ?_)
      ·refine WL.ung rfl rfl ?_
       refine WL.y (Y.move rfl) rfl ?_
       refine WL.ung rfl rfl ?_
       refine WL.y (Y.nilCheck rfl) rfl ?_
       refine WL.ung rfl rfl ?_
       have hf161 := hb102.st hst157 rfl
       refine WL.y (Y.loadSc ty29 rfl rfl (hf161.cell 0 _ rfl)) rfl ?_
       refine WL.ung rfl rfl ?_
       refine WL.y (Y.eql_i rfl rfl) rfl ?_
       refine WL.y (Y.pick (b := true) rfl rfl) rfl ?_
       refine WL.ren (v' := Value.bool ((!r145) && (decide (0 = 0)))) 22 rfl (congrArg Value.bool (andT hE160)) ?_
       exact WL.nil (At.join () rfl (.cons rfl (.cons rfl (.cons rfl .nil))))
      ·refine WL.gS rfl rfl rfl rfl ?_
       refine WL.gS rfl rfl rfl rfl ?_
       refine WL.gS rfl rfl rfl rfl ?_
       refine WL.gS rfl rfl rfl rfl ?_
       refine WL.y (Y.pick (b := false) rfl rfl) rfl ?_
       refine WL.ren (v' := Value.bool ((!r145) && (decide (0 = 0)))) 22 rfl (congrArg Value.bool (andF hE160)) ?_
       exact WL.nil (At.join () rfl (.cons rfl (.cons rfl (.cons rfl .nil))))
     ·rintro _ _ rfl
      refine (show WL _ _ _ _ _ [(1, Value.pointer (some ⟨p103, 0, none⟩)), (7, vu r144), (22, Value.bool ((!r145) && (decide (0 = 0))))] _ from ?_)
      refine WL.nil ?_
      refine At.then ?_
      rcases cnd h with ⟨hc162, h⟩ | ⟨hc162, h⟩
      ·refine WC.condT' rfl hc162 ?_
       refine WC.region ?_
       refine WL.y (Y.move rfl) rfl ?_
       refine WL.y (Y.nilCheck rfl) rfl ?_
       have hf163 := hb102.st hst157 rfl
       refine WL.store (v := vi 2) (cells' := [vi 2]) ty29 rfl rfl hf163 rfl (Nat.le_of_ble_eq_true rfl) rfl rfl ?_
       intro wd164 hst165 hb166
       refine WL.nil ?_
       refine At.then ?_
       refine WC.seq ?_
       refine WC.region ?_
       refine WL.y (Y.move rfl) rfl ?_
       refine WL.y (Y.assign rfl) rfl ?_
       refine WL.nil ?_
       refine At.then ?_
       refine WC.ret ?_
       have hf167 := hf158.mono (imm_st hst165 rfl rfl)
       have hf168 := hb159.st hst165 rfl
       exact At.res (.inl rfl) rfl (.tmp rfl .nil) ⟨(r146.b, r146.n, r146.at_, 2, r144, O154, z148), ⟨some1 h, (Stp.trans (Stp.up hst157 rfl) (Stp.up hst165 rfl)), hf167, hf168, hb166⟩, rfl⟩
      ·refine WC.condF' rfl hc162 ?_
       refine WC.skip ?_
       refine At.then ?_
       refine WC.seq ?_
       refine WC.region ?_
       refine WL.y (Y.move rfl) rfl ?_
       refine WL.y (Y.assign rfl) rfl ?_
       refine WL.nil ?_
       refine At.then ?_
       refine WC.ret ?_
       have hf169 := hb102.st hst157 rfl
       exact At.res (.inl rfl) rfl (.tmp rfl .nil) ⟨(r146.b, r146.n, r146.at_, 0, r144, O154, z148), ⟨some1 h, (Stp.up hst157 rfl), hf158, hb159, hf169⟩, rfl⟩
    ·rintro ⟨c128, c131, c132, c134, x135, O136, v129⟩ wd137 ⟨rfl, hst138, hf130, hb127, hb133⟩
     replace h := hk140
     try dsimp only at h hst138 hf130 hb127 hb133
     refine (show WL _ _ _ _ _ ((17, vu x135) :: _) _ from ?_)
     refine WL.y (Y.assign rfl) rfl ?_
     refine WL.nil ?_
     refine At.then ?_
     refine WC.ret ?_
     refine At.thenR ?_
     have hf170 := hf125.st hst138 rfl
     exact At.res (.inl rfl) rfl (.tmp rfl .nil) ⟨(a0.win.ahead, a0.win.size, c128, c131, c132, c134, x135, O136, v129), ⟨some1 h, (Stp.up hst138 rfl), hf170, hf130, hb127, hb133⟩, rfl⟩
   ·refine WC.condF' rfl hc126 ?_
    refine WC.skip ?_
    refine At.then ?_
    refine WC.seq ?_
    refine WC.seq ?_
    refine WC.region ?_
    refine WL.y (Y.move rfl) rfl ?_
    refine WL.y (Y.move rfl) rfl ?_
    obtain ⟨p183, h, hk184⟩ := bnd h
    refine WL.callJ (vals := [Value.pointer (some ⟨b42, 0, none⟩), Value.pointer (some ⟨p103, 0, none⟩), vi 1]) (σ := (List UInt8 × Int × Int × Int × UInt64 × Own × Value)) (fun x w' => (x.1, x.2.1, x.2.2.1, x.2.2.2.1, x.2.2.2.2.1) = p183 ∧ Stp [15, 1002] O104 wd105 x.2.2.2.2.2.1 w' ∧ Sl Rep.b w' (imm x.2.2.2.2.2.1) x.2.2.2.2.2.2 x.1 ∧ Blk 1002 x.2.2.2.2.2.1 w' b42 58 [x.2.2.2.2.2.2, vi x.2.1, vi x.2.2.1] ∧ Blk 15 x.2.2.2.2.2.1 w' p103 29 [vi x.2.2.2.1]) (fun x => vu x.2.2.2.2.1) kok38 rfl rfl ?_ ?_
    ·refine Rets.enter Tryd.func38 rfl rfl ?_
     refine (show WC _ _ _ _ [(0, Value.pointer (some ⟨b42, 0, none⟩)), (1, Value.pointer (some ⟨p103, 0, none⟩)), (2, vi 1)] _ from ?_)
     refine WC.seq ?_
     refine WC.region ?_
     refine WL.y (Y.assign (v := vu 0) rfl) rfl ?_
     refine WL.nil ?_
     refine At.then ?_
     refine WC.seq ?_
     refine WC.region ?_
     refine WL.y (Y.move rfl) rfl ?_
     refine WL.y (Y.move rfl) rfl ?_
     have hf185 := hb101.st hst106 rfl
     have hf186 := hf93.mono (imm_st hst100 rfl rfl)
     have hf187 := hf186.mono (imm_st hst106 rfl rfl)
     obtain ⟨⟨r188, r189, r190⟩, hp191, h⟩ := bnd h
     refine WL.call (vals := [Value.pointer (some ⟨b42, 0, none⟩), vi 1]) kok42 rfl rfl (c_bitio_Reader_Take (A := imm O104) (a0 := a1) hf187 hf185.blk (fun k hk => imm_ne hf185.lab rfl k hk) hp191) ?_
     rintro vr197 wd196 ⟨z192, rfl, hm195, f193, f194⟩
     obtain ⟨O198, hold199, hnew200, hst201⟩ := adopt O104 (fun k => 1) [1002] hm195 (memB hf185.lab rfl)
     have hf202 : Sl Rep.b wd196 (imm O198) z192 r190.b := Sl.adoptI (O := O104) f193 (fun _ hk => hk) (fun _ _ => Nat.le_refl _) hold199 hnew200
     have hb203 : Blk 1002 O198 wd196 b42 58 [z192, vi r190.n, vi r190.at_] := Blk.adopt hf185 hold199 f194
     refine WL.y (Y.move rfl) rfl ?_
     refine WL.y (Y.extract rfl rfl) rfl ?_
     refine WL.y (Y.extract rfl rfl) rfl ?_
     refine WL.y (Y.assign rfl) rfl ?_
     refine WL.y (Y.assign rfl) rfl ?_
     refine WL.nil ?_
     refine At.then ?_
     refine WC.seq ?_
     refine WC.seq ?_
     refine WC.region ?_
     refine WL.y (Y.move rfl) rfl ?_
     refine WL.y (Y.not rfl) rfl ?_
     refine WL.y (Y.move rfl) rfl ?_
     refine WL.cut 5 (σ := Unit) (fun _ w' => wd196 = w') (fun _ => [(1, Value.pointer (some ⟨p103, 0, none⟩)), (7, vu r188), (22, Value.bool ((!r189) && (decide (0 = 0))))]) ?_ ?_
     ·refine WL.part 17 rfl (fun hE204 => ?_) (fun hE204 => ?_)
      ·refine WL.ung rfl rfl ?_
       refine WL.y (Y.move rfl) rfl ?_
       refine WL.ung rfl rfl ?_
       refine WL.y (Y.nilCheck rfl) rfl ?_
       refine WL.ung rfl rfl ?_
       have hf205 := hb102.st hst201 rfl
       refine WL.y (Y.loadSc ty29 rfl rfl (hf205.cell 0 _ rfl)) rfl ?_
       refine WL.ung rfl rfl ?_
       refine WL.y (Y.eql_i rfl rfl) rfl ?_
       refine WL.y (Y.pick (b := true) rfl rfl) rfl ?_
       refine WL.ren (v' := Value.bool ((!r189) && (decide (0 = 0)))) 22 rfl (congrArg Value.bool (andT hE204)) ?_
       exact WL.nil (At.join () rfl (.cons rfl (.cons rfl (.cons rfl .nil))))
      ·refine WL.gS rfl rfl rfl rfl ?_
       refine WL.gS rfl rfl rfl rfl ?_
       refine WL.gS rfl rfl rfl rfl ?_
       refine WL.gS rfl rfl rfl rfl ?_
       refine WL.y (Y.pick (b := false) rfl rfl) rfl ?_
       refine WL.ren (v' := Value.bool ((!r189) && (decide (0 = 0)))) 22 rfl (congrArg Value.bool (andF hE204)) ?_
       exact WL.nil (At.join () rfl (.cons rfl (.cons rfl (.cons rfl .nil))))
     ·rintro _ _ rfl
      refine (show WL _ _ _ _ _ [(1, Value.pointer (some ⟨p103, 0, none⟩)), (7, vu r188), (22, Value.bool ((!r189) && (decide (0 = 0))))] _ from ?_)
      refine WL.nil ?_
      refine At.then ?_
      rcases cnd h with ⟨hc206, h⟩ | ⟨hc206, h⟩
      ·refine WC.condT' rfl hc206 ?_
       refine WC.region ?_
       refine WL.y (Y.move rfl) rfl ?_
       refine WL.y (Y.nilCheck rfl) rfl ?_
       have hf207 := hb102.st hst201 rfl
       refine WL.store (v := vi 2) (cells' := [vi 2]) ty29 rfl rfl hf207 rfl (Nat.le_of_ble_eq_true rfl) rfl rfl ?_
       intro wd208 hst209 hb210
       refine WL.nil ?_
       refine At.then ?_
       refine WC.seq ?_
       refine WC.region ?_
       refine WL.y (Y.move rfl) rfl ?_
       refine WL.y (Y.assign rfl) rfl ?_
       refine WL.nil ?_
       refine At.then ?_
       refine WC.ret ?_
       have hf211 := hf202.mono (imm_st hst209 rfl rfl)
       have hf212 := hb203.st hst209 rfl
       exact At.res (.inl rfl) rfl (.tmp rfl .nil) ⟨(r190.b, r190.n, r190.at_, 2, r188, O198, z192), ⟨some1 h, (Stp.trans (Stp.up hst201 rfl) (Stp.up hst209 rfl)), hf211, hf212, hb210⟩, rfl⟩
      ·refine WC.condF' rfl hc206 ?_
       refine WC.skip ?_
       refine At.then ?_
       refine WC.seq ?_
       refine WC.region ?_
       refine WL.y (Y.move rfl) rfl ?_
       refine WL.y (Y.assign rfl) rfl ?_
       refine WL.nil ?_
       refine At.then ?_
       refine WC.ret ?_
       have hf213 := hb102.st hst201 rfl
       exact At.res (.inl rfl) rfl (.tmp rfl .nil) ⟨(r190.b, r190.n, r190.at_, 0, r188, O198, z192), ⟨some1 h, (Stp.up hst201 rfl), hf202, hb203, hf213⟩, rfl⟩
    ·rintro ⟨c172, c175, c176, c178, x179, O180, v173⟩ wd181 ⟨rfl, hst182, hf174, hb171, hb177⟩
     replace h := hk184
     try dsimp only at h hst182 hf174 hb171 hb177
     refine (show WL _ _ _ _ _ ((20, vu x179) :: _) _ from ?_)
     refine WL.y (Y.eql_u (b := 0) rfl rfl) rfl ?_
     refine WL.nil ?_
     refine At.then ?_
     rcases cnd h with ⟨hc214, h⟩ | ⟨hc214, h⟩
     ·refine WC.condT' rfl hc214 ?_
      refine WC.seq ?_
      refine WC.region ?_
      refine WL.y (Y.assign (v := vu 0) rfl) rfl ?_
      refine WL.nil ?_
      refine At.then ?_
      refine WC.ret ?_
      refine At.thenR ?_
      have hf215 := hf125.st hst182 rfl
      exact At.res (.inl rfl) rfl (.tmp rfl .nil) ⟨(a0.win.ahead, a0.win.size, c172, c175, c176, c178, 0, O180, v173), ⟨some1 h, (Stp.up hst182 rfl), hf215, hf174, hb171, hb177⟩, rfl⟩
     ·refine WC.condF' rfl hc214 ?_
      refine WC.skip ?_
      refine At.then ?_
      refine WC.seq ?_
      refine WC.seq ?_
      refine WC.region ?_
      refine WL.y (Y.move rfl) rfl ?_
      refine WL.y (Y.move rfl) rfl ?_
      obtain ⟨p228, h, hk229⟩ := bnd h
      refine WL.callJ (vals := [Value.pointer (some ⟨b42, 0, none⟩), Value.pointer (some ⟨p103, 0, none⟩), vi 1]) (σ := (List UInt8 × Int × Int × Int × UInt64 × Own × Value)) (fun x w' => (x.1, x.2.1, x.2.2.1, x.2.2.2.1, x.2.2.2.2.1) = p228 ∧ Stp [15, 1002] O180 wd181 x.2.2.2.2.2.1 w' ∧ Sl Rep.b w' (imm x.2.2.2.2.2.1) x.2.2.2.2.2.2 x.1 ∧ Blk 1002 x.2.2.2.2.2.1 w' b42 58 [x.2.2.2.2.2.2, vi x.2.1, vi x.2.2.1] ∧ Blk 15 x.2.2.2.2.2.1 w' p103 29 [vi x.2.2.2.1]) (fun x => vu x.2.2.2.2.1) kok38 rfl rfl ?_ ?_
      ·refine Rets.enter Tryd.func38 rfl rfl ?_
       refine (show WC _ _ _ _ [(0, Value.pointer (some ⟨b42, 0, none⟩)), (1, Value.pointer (some ⟨p103, 0, none⟩)), (2, vi 1)] _ from ?_)
       refine WC.seq ?_
       refine WC.region ?_
       refine WL.y (Y.assign (v := vu 0) rfl) rfl ?_
       refine WL.nil ?_
       refine At.then ?_
       refine WC.seq ?_
       refine WC.region ?_
       refine WL.y (Y.move rfl) rfl ?_
       refine WL.y (Y.move rfl) rfl ?_
       obtain ⟨⟨r230, r231, r232⟩, hp233, h⟩ := bnd h
       refine WL.call (vals := [Value.pointer (some ⟨b42, 0, none⟩), vi 1]) kok42 rfl rfl (c_bitio_Reader_Take (A := imm O180) (a0 := (bitio_Reader.mk c172 c175 c176)) hf174 hb171.blk (fun k hk => imm_ne hb171.lab rfl k hk) hp233) ?_
       rintro vr239 wd238 ⟨z234, rfl, hm237, f235, f236⟩
       obtain ⟨O240, hold241, hnew242, hst243⟩ := adopt O180 (fun k => 1) [1002] hm237 (memB hb171.lab rfl)
       have hf244 : Sl Rep.b wd238 (imm O240) z234 r232.b := Sl.adoptI (O := O180) f235 (fun _ hk => hk) (fun _ _ => Nat.le_refl _) hold241 hnew242
       have hb245 : Blk 1002 O240 wd238 b42 58 [z234, vi r232.n, vi r232.at_] := Blk.adopt hb171 hold241 f236
       refine WL.y (Y.move rfl) rfl ?_
       refine WL.y (Y.extract rfl rfl) rfl ?_
       refine WL.y (Y.extract rfl rfl) rfl ?_
       refine WL.y (Y.assign rfl) rfl ?_
       refine WL.y (Y.assign rfl) rfl ?_
       refine WL.nil ?_
       refine At.then ?_
       refine WC.seq ?_
       refine WC.seq ?_
       refine WC.region ?_
       refine WL.y (Y.move rfl) rfl ?_
       refine WL.y (Y.not rfl) rfl ?_
       refine WL.y (Y.move rfl) rfl ?_
       refine WL.cut 5 (σ := Unit) (fun _ w' => wd238 = w') (fun _ => [(1, Value.pointer (some ⟨p103, 0, none⟩)), (7, vu r230), (22, Value.bool ((!r231) && (decide (c178 = 0))))]) ?_ ?_
       ·refine WL.part 17 rfl (fun hE246 => ?_) (fun hE246 => ?_)
        ·refine WL.ung rfl rfl ?_
         refine WL.y (Y.move rfl) rfl ?_
         refine WL.ung rfl rfl ?_
         refine WL.y (Y.nilCheck rfl) rfl ?_
         refine WL.ung rfl rfl ?_
         have hf247 := hb177.st hst243 rfl
         refine WL.y (Y.loadSc ty29 rfl rfl (hf247.cell 0 _ rfl)) rfl ?_
         refine WL.ung rfl rfl ?_
         refine WL.y (Y.eql_i rfl rfl) rfl ?_
         refine WL.y (Y.pick (b := true) rfl rfl) rfl ?_
         refine WL.ren (v' := Value.bool ((!r231) && (decide (c178 = 0)))) 22 rfl (congrArg Value.bool (andT hE246)) ?_
         exact WL.nil (At.join () rfl (.cons rfl (.cons rfl (.cons rfl .nil))))
        ·refine WL.gS rfl rfl rfl rfl ?_
         refine WL.gS rfl rfl rfl rfl ?_
         refine WL.gS rfl rfl rfl rfl ?_
         refine WL.gS rfl rfl rfl rfl ?_
         refine WL.y (Y.pick (b := false) rfl rfl) rfl ?_
         refine WL.ren (v' := Value.bool ((!r231) && (decide (c178 = 0)))) 22 rfl (congrArg Value.bool (andF hE246)) ?_
         exact WL.nil (At.join () rfl (.cons rfl (.cons rfl (.cons rfl .nil))))
       ·rintro _ _ rfl
        refine (show WL _ _ _ _ _ [(1, Value.pointer (some ⟨p103, 0, none⟩)), (7, vu r230), (22, Value.bool ((!r231) && (decide (c178 = 0))))] _ from ?_)
        refine WL.nil ?_
        refine At.then ?_
        rcases cnd h with ⟨hc248, h⟩ | ⟨hc248, h⟩
        ·refine WC.condT' rfl hc248 ?_
         refine WC.region ?_
         refine WL.y (Y.move rfl) rfl ?_
         refine WL.y (Y.nilCheck rfl) rfl ?_
         have hf249 := hb177.st hst243 rfl
         refine WL.store (v := vi 2) (cells' := [vi 2]) ty29 rfl rfl hf249 rfl (Nat.le_of_ble_eq_true rfl) rfl rfl ?_
         intro wd250 hst251 hb252
         refine WL.nil ?_
         refine At.then ?_
         refine WC.seq ?_
         refine WC.region ?_
         refine WL.y (Y.move rfl) rfl ?_
         refine WL.y (Y.assign rfl) rfl ?_
         refine WL.nil ?_
         refine At.then ?_
         refine WC.ret ?_
         have hf253 := hf244.mono (imm_st hst251 rfl rfl)
         have hf254 := hb245.st hst251 rfl
         exact At.res (.inl rfl) rfl (.tmp rfl .nil) ⟨(r232.b, r232.n, r232.at_, 2, r230, O240, z234), ⟨some1 h, (Stp.trans (Stp.up hst243 rfl) (Stp.up hst251 rfl)), hf253, hf254, hb252⟩, rfl⟩
        ·refine WC.condF' rfl hc248 ?_
         refine WC.skip ?_
         refine At.then ?_
         refine WC.seq ?_
         refine WC.region ?_
         refine WL.y (Y.move rfl) rfl ?_
         refine WL.y (Y.assign rfl) rfl ?_
         refine WL.nil ?_
         refine At.then ?_
         refine WC.ret ?_
         have hf255 := hb177.st hst243 rfl
         exact At.res (.inl rfl) rfl (.tmp rfl .nil) ⟨(r232.b, r232.n, r232.at_, c178, r230, O240, z234), ⟨some1 h, (Stp.up hst243 rfl), hf244, hb245, hf255⟩, rfl⟩
      ·rintro ⟨c217, c220, c221, c223, x224, O225, v218⟩ wd226 ⟨rfl, hst227, hf219, hb216, hb222⟩
       replace h := hk229
       try dsimp only at h hst227 hf219 hb216 hb222
       refine (show WL _ _ _ _ _ ((24, vu x224) :: _) _ from ?_)
       refine WL.y (Y.eql_u (b := 0) rfl rfl) rfl ?_
       refine WL.nil ?_
       refine At.then ?_
       rcases cnd h with ⟨hc256, h⟩ | ⟨hc256, h⟩
       ·refine WC.condT' rfl hc256 ?_
        refine WC.seq ?_
        obtain ⟨p262, h, hk263⟩ := bnd h
        refine WC.join (σ := (Int × Own)) (fun x w' => x.1 = p262 ∧ Stp [15] O225 wd226 x.2 w' ∧ Blk 15 x.2 w' p103 29 [vi x.1]) (fun x => [(0, Value.pointer (some ⟨b40, 0, none⟩)), (1, Value.pointer (some ⟨b42, 0, none⟩)), (2, Value.pointer (some ⟨p103, 0, none⟩))]) ?_ ?_
        ·refine WC.seq ?_
         refine WC.drawH [] [0, 1, 2, 3, 4, 5, 6, 7, 8, 9, 10, 11] O225 12 fmix rfl (by kernel_rfl) ?_
         intro wd264 hst265
         refine WD.y 0 rfl (by kernel_rfl) (fun _ _ _ => Y.move rfl) rfl ?_
         refine WD.y 1 rfl (by kernel_rfl) (fun _ _ _ => Y.nilCheck rfl) rfl ?_
         refine WD.y 2 rfl (by kernel_rfl) (fun _ _ _ => Y.fieldAddr fo62_2 rfl) rfl ?_
         refine WD.y 3 rfl (by kernel_rfl) (fun wd276 O275 hst277 => have hf278 := hf125.st hst182 rfl; have hf279 := hf278.st hst227 rfl; have hf280 := hf279.st hst265 rfl; have hf281 := hf280.st hst277 rfl; Y.loadAg ty60 rfl rfl (hf281.cells 2 [vi a0.win.ahead, vi a0.win.size] rfl) rfl) rfl ?_
         refine WD.y 4 rfl (by kernel_rfl) (fun wd283 O282 hst284 => have hf285 := hG14.st hst17 rfl; have hf286 := hf285.st hst46 rfl; have hf287 := hf286.st hst89 rfl; have hf288 := hf287.st hst100 rfl; have hf289 := hf288.st hst106 rfl; have hf290 := hf289.st hst182 rfl; have hf291 := hf290.st hst227 rfl; have hf292 := hf291.st hst265 rfl; have hf293 := hf292.st hst284 rfl; Y.loadAg ty60 rfl rfl hf293.at_ rfl) rfl ?_
         refine WD.y 5 rfl (by kernel_rfl) (fun _ _ _ => Y.eql_ag agok60 rfl rfl (EqF.cons (by decide) (fun w => run_part_plain w (by kernel_rfl) rfl) (fun w => run_part_plain w (by kernel_rfl) rfl) (EqV.i (a := a0.win.ahead) (b := 0) ty3.u) (EqF.cons (by decide) (fun w => run_part_plain w (by kernel_rfl) rfl) (fun w => run_part_plain w (by kernel_rfl) rfl) (EqV.i (a := a0.win.size) (b := 0) ty3.u) EqF.nil))) rfl ?_
         refine WD.y 6 rfl (by kernel_rfl) (fun _ _ _ => Y.move rfl) rfl ?_
         refine WD.join (σ := Unit) (f' := 0) [11, 10, 9, 8, 7, 6, 5, 4, 3, 2, 1, 0] (fun _ O' w' => O225 = O' ∧ wd264 = w') (fun _ => [(0, Value.pointer (some ⟨b40, 0, none⟩)), (1, Value.pointer (some ⟨b42, 0, none⟩)), (2, Value.pointer (some ⟨p103, 0, none⟩)), (37, Value.bool ((decide (a0.win.ahead = (0 : Int)) && (decide (a0.win.size = (0 : Int)) && true)) && (decide (c223 = 0))))]) (fun hJ300 => ?_) ?_
         ·refine WD.part 32 rfl (fun hE301 => ?_) (fun hE301 => ?_)
          ·refine WD.gT 7 rfl (by kernel_rfl) rfl rfl (fun _ _ _ => Y.move rfl) rfl ?_
           refine WD.gT 8 rfl (by kernel_rfl) rfl rfl (fun _ _ _ => Y.nilCheck rfl) rfl ?_
           refine WD.gT 9 rfl (by kernel_rfl) rfl rfl (fun wd309 O308 hst310 => have hf311 := hb222.st hst265 rfl; have hf312 := hf311.st hst310 rfl; Y.loadSc ty29 rfl rfl (hf312.cell 0 _ rfl)) rfl ?_
           refine WD.gT 10 rfl (by kernel_rfl) rfl rfl (fun _ _ _ => Y.eql_i rfl rfl) rfl ?_
           refine WD.y 11 rfl (by kernel_rfl) (fun _ _ _ => Y.pick (b := true) rfl rfl) rfl ?_
           refine WD.ren (v' := Value.bool ((decide (a0.win.ahead = (0 : Int)) && (decide (a0.win.size = (0 : Int)) && true)) && (decide (c223 = 0)))) 37 rfl (congrArg Value.bool (andT hE301)) ?_
           exact hJ300 () _ _ _ ⟨rfl, rfl⟩ (.cons rfl (.cons rfl (.cons rfl (.cons rfl .nil))))
          ·refine WD.gS 7 rfl (by kernel_rfl) rfl rfl rfl rfl ?_
           refine WD.gS 8 rfl (by kernel_rfl) rfl rfl rfl rfl ?_
           refine WD.gS 9 rfl (by kernel_rfl) rfl rfl rfl rfl ?_
           refine WD.gS 10 rfl (by kernel_rfl) rfl rfl rfl rfl ?_
           refine WD.y 11 rfl (by kernel_rfl) (fun _ _ _ => Y.pick (b := false) rfl rfl) rfl ?_
           refine WD.ren (v' := Value.bool ((decide (a0.win.ahead = (0 : Int)) && (decide (a0.win.size = (0 : Int)) && true)) && (decide (c223 = 0)))) 37 rfl (congrArg Value.bool (andF hE301)) ?_
           exact hJ300 () _ _ _ ⟨rfl, rfl⟩ (.cons rfl (.cons rfl (.cons rfl (.cons rfl .nil))))
         ·rintro _ _ _ ⟨rfl, rfl⟩
          refine (show WD _ _ _ _ _ _ _ _ [(0, Value.pointer (some ⟨b40, 0, none⟩)), (1, Value.pointer (some ⟨b42, 0, none⟩)), (2, Value.pointer (some ⟨p103, 0, none⟩)), (37, Value.bool ((decide (a0.win.ahead = (0 : Int)) && (decide (a0.win.size = (0 : Int)) && true)) && (decide (c223 = 0))))] _ _ from ?_)
          refine WD.done_ (by kernel_rfl) ?_
          refine At.then ?_
          rcases cnd h with ⟨hc322, h⟩ | ⟨hc322, h⟩
          ·refine WC.condT' rfl hc322 ?_
           refine WC.region ?_
           refine WL.y (Y.move rfl) rfl ?_
           refine WL.y (Y.nilCheck rfl) rfl ?_
           have hf323 := hb222.st hst265 rfl
           refine WL.store (v := vi 3) (cells' := [vi 3]) ty29 rfl rfl hf323 rfl (Nat.le_of_ble_eq_true rfl) rfl rfl ?_
           intro wd324 hst325 hb326
           refine WL.nil ?_
           exact At.join (σ := (Int × Own)) (3, O225) ⟨some1 h, (Stp.trans (Stp.up hst265 rfl) (Stp.up hst325 rfl)), hb326⟩ (.cons rfl (.cons rfl (.cons rfl .nil)))
          ·refine WC.condF' rfl hc322 ?_
           refine WC.skip ?_
           have hf327 := hb222.st hst265 rfl
           exact At.join (σ := (Int × Own)) (c223, O225) ⟨some1 h, (Stp.up hst265 rfl), hf327⟩ (.cons rfl (.cons rfl (.cons rfl .nil)))
        ·rintro ⟨c258, O259⟩ wd260 ⟨rfl, hst261, hb257⟩
         replace h := hk263
         try dsimp only at h hst261 hb257
         refine (show At _ _ _ [(0, Value.pointer (some ⟨b40, 0, none⟩)), (1, Value.pointer (some ⟨b42, 0, none⟩)), (2, Value.pointer (some ⟨p103, 0, none⟩))] _ from ?_)
         refine At.then ?_
         refine WC.seq ?_
         refine WC.drawH [15, 1002] [0, 1, 2, 3, 4, 5, 6, 7, 8, 9, 10, 11, 12, 13, 14, 15, 16] O259 17 fmix rfl (by kernel_rfl) ?_
         intro wd328 hst329
         refine WD.y 0 rfl (by kernel_rfl) (fun _ _ _ => Y.move rfl) rfl ?_
         refine WD.y 1 rfl (by kernel_rfl) (fun _ _ _ => Y.move rfl) rfl ?_
         refine WD.y 2 rfl (by kernel_rfl) (fun _ _ _ => Y.move rfl) rfl ?_
         refine WD.y 3 rfl (by kernel_rfl) (fun _ _ _ => Y.nilCheck rfl) rfl ?_
         refine WD.y 4 rfl (by kernel_rfl) (fun _ _ _ => Y.fieldAddr fo62_2 rfl) rfl ?_
         refine WD.y 5 rfl (by kernel_rfl) (fun _ _ _ => Y.fieldAddr fo60_1 rfl) rfl ?_
         refine WD.y 6 rfl (by kernel_rfl) (fun wd349 O348 hst350 => have hf351 := hf125.st hst182 rfl; have hf352 := hf351.st hst227 rfl; have hf353 := hf352.st hst261 rfl; have hf354 := hf353.st hst329 rfl; have hf355 := hf354.st hst350 rfl; Y.loadSc ty3 rfl rfl (hf355.cell 3 _ rfl)) rfl ?_
         refine WD.y 8 rfl (by kernel_rfl) (fun _ _ _ => Y.move rfl) rfl ?_
         refine WD.y 9 rfl (by kernel_rfl) (fun _ _ _ => Y.nilCheck rfl) rfl ?_
         refine WD.y 10 rfl (by kernel_rfl) (fun _ _ _ => Y.fieldAddr fo62_2 rfl) rfl ?_
         refine WD.y 11 rfl (by kernel_rfl) (fun wd366 O365 hst367 => have hf368 := hf125.st hst182 rfl; have hf369 := hf368.st hst227 rfl; have hf370 := hf369.st hst261 rfl; have hf371 := hf370.st hst329 rfl; have hf372 := hf371.st hst367 rfl; Y.loadAg ty60 rfl rfl (hf372.cells 2 [vi a0.win.ahead, vi a0.win.size] rfl) rfl) rfl ?_
         refine WD.heavy 7 rfl (by kernel_rfl) ?_
         obtain ⟨p385, h, hk386⟩ := bnd h
         refine WL.callJ (vals := [Value.pointer (some ⟨b42, 0, none⟩), Value.pointer (some ⟨p103, 0, none⟩), vi a0.win.size]) (σ := (Int × List UInt8 × Int × Int × UInt64 × Own × Value)) (fun x w' => (x.1, x.2.1, x.2.2.1, x.2.2.2.1, x.2.2.2.2.1) = p385 ∧ Stp [15, 1002] O259 wd328 x.2.2.2.2.2.1 w' ∧ Blk 15 x.2.2.2.2.2.1 w' p103 29 [vi x.1] ∧ Sl Rep.b w' (imm x.2.2.2.2.2.1) x.2.2.2.2.2.2 x.2.1 ∧ Blk 1002 x.2.2.2.2.2.1 w' b42 58 [x.2.2.2.2.2.2, vi x.2.2.1, vi x.2.2.2.1]) (fun x => vu x.2.2.2.2.1) kok38 rfl rfl ?_ ?_
         ·refine Rets.enter Tryd.func38 rfl rfl ?_
          refine (show WC _ _ _ _ [(0, Value.pointer (some ⟨b42, 0, none⟩)), (1, Value.pointer (some ⟨p103, 0, none⟩)), (2, vi a0.win.size)] _ from ?_)
          refine WC.seq ?_
          refine WC.region ?_
          refine WL.y (Y.assign (v := vu 0) rfl) rfl ?_
          refine WL.nil ?_
          refine At.then ?_
          refine WC.seq ?_
          refine WC.region ?_
          refine WL.y (Y.move rfl) rfl ?_
          refine WL.y (Y.move rfl) rfl ?_
          have hf387 := hb216.st hst261 rfl
          have hf388 := hf387.st hst329 rfl
          have hf389 := hf219.mono (imm_st hst261 rfl rfl)
          have hf390 := hf389.mono (imm_st hst329 rfl rfl)
          obtain ⟨⟨r391, r392, r393⟩, hp394, h⟩ := bnd h
          refine WL.call (vals := [Value.pointer (some ⟨b42, 0, none⟩), vi a0.win.size]) kok42 rfl rfl (c_bitio_Reader_Take (A := imm O259) (a0 := (bitio_Reader.mk c217 c220 c221)) hf390 hf388.blk (fun k hk => imm_ne hf388.lab rfl k hk) hp394) ?_
          rintro vr400 wd399 ⟨z395, rfl, hm398, f396, f397⟩
          obtain ⟨O401, hold402, hnew403, hst404⟩ := adopt O259 (fun k => 1) [1002] hm398 (memB hf388.lab rfl)
          have hf405 : Sl Rep.b wd399 (imm O401) z395 r393.b := Sl.adoptI (O := O259) f396 (fun _ hk => hk) (fun _ _ => Nat.le_refl _) hold402 hnew403
          have hb406 : Blk 1002 O401 wd399 b42 58 [z395, vi r393.n, vi r393.at_] := Blk.adopt hf388 hold402 f397
          refine WL.y (Y.move rfl) rfl ?_
          refine WL.y (Y.extract rfl rfl) rfl ?_
          refine WL.y (Y.extract rfl rfl) rfl ?_
          refine WL.y (Y.assign rfl) rfl ?_
          refine WL.y (Y.assign rfl) rfl ?_
          refine WL.nil ?_
          refine At.then ?_
          refine WC.seq ?_
          refine WC.seq ?_
          refine WC.region ?_
          refine WL.y (Y.move rfl) rfl ?_
          refine WL.y (Y.not rfl) rfl ?_
          refine WL.y (Y.move rfl) rfl ?_
          refine WL.cut 5 (σ := Unit) (fun _ w' => wd399 = w') (fun _ => [(1, Value.pointer (some ⟨p103, 0, none⟩)), (7, vu r391), (22, Value.bool ((!r392) && (decide (c258 = 0))))]) ?_ ?_
          ·refine WL.part 17 rfl (fun hE407 => ?_) (fun hE407 => ?_)
           ·refine WL.ung rfl rfl ?_
            refine WL.y (Y.move rfl) rfl ?_
            refine WL.ung rfl rfl ?_
            refine WL.y (Y.nilCheck rfl) rfl ?_
            refine WL.ung rfl rfl ?_
            have hf408 := hb257.st hst329 rfl
            have hf409 := hf408.st hst404 rfl
            refine WL.y (Y.loadSc ty29 rfl rfl (hf409.cell 0 _ rfl)) rfl ?_
            refine WL.ung rfl rfl ?_
            refine WL.y (Y.eql_i rfl rfl) rfl ?_
            refine WL.y (Y.pick (b := true) rfl rfl) rfl ?_
            refine WL.ren (v' := Value.bool ((!r392) && (decide (c258 = 0)))) 22 rfl (congrArg Value.bool (andT hE407)) ?_
            exact WL.nil (At.join () rfl (.cons rfl (.cons rfl (.cons rfl .nil))))
           ·refine WL.gS rfl rfl rfl rfl ?_
            refine WL.gS rfl rfl rfl rfl ?_
            refine WL.gS rfl rfl rfl rfl ?_
            refine WL.gS rfl rfl rfl rfl ?_
            refine WL.y (Y.pick (b := false) rfl rfl) rfl ?_
            refine WL.ren (v' := Value.bool ((!r392) && (decide (c258 = 0)))) 22 rfl (congrArg Value.bool (andF hE407)) ?_
            exact WL.nil (At.join () rfl (.cons rfl (.cons rfl (.cons rfl .nil))))
          ·rintro _ _ rfl
           refine (show WL _ _ _ _ _ [(1, Value.pointer (some ⟨p103, 0, none⟩)), (7, vu r391), (22, Value.bool ((!r392) && (decide (c258 = 0))))] _ from ?_)
           refine WL.nil ?_
           refine At.then ?_
           rcases cnd h with ⟨hc410, h⟩ | ⟨hc410, h⟩
           ·refine WC.condT' rfl hc410 ?_
            refine WC.region ?_
            refine WL.y (Y.move rfl) rfl ?_
            refine WL.y (Y.nilCheck rfl) rfl ?_
            have hf411 := hb257.st hst329 rfl
            have hf412 := hf411.st hst404 rfl
            refine WL.store (v := vi 2) (cells' := [vi 2]) ty29 rfl rfl hf412 rfl (Nat.le_of_ble_eq_true rfl) rfl rfl ?_
            intro wd413 hst414 hb415
            refine WL.nil ?_
            refine At.then ?_
            refine WC.seq ?_
            refine WC.region ?_
            refine WL.y (Y.move rfl) rfl ?_
            refine WL.y (Y.assign rfl) rfl ?_
            refine WL.nil ?_
            refine At.then ?_
            refine WC.ret ?_
            have hf416 := hf405.mono (imm_st hst414 rfl rfl)
            have hf417 := hb406.st hst414 rfl
            exact At.res (.inl rfl) rfl (.tmp rfl .nil) ⟨(2, r393.b, r393.n, r393.at_, r391, O401, z395), ⟨some1 h, (Stp.trans (Stp.up hst404 rfl) (Stp.up hst414 rfl)), hb415, hf416, hf417⟩, rfl⟩
           ·refine WC.condF' rfl hc410 ?_
            refine WC.skip ?_
            refine At.then ?_
            refine WC.seq ?_
            refine WC.region ?_
            refine WL.y (Y.move rfl) rfl ?_
            refine WL.y (Y.assign rfl) rfl ?_
            refine WL.nil ?_
            refine At.then ?_
            refine WC.ret ?_
            have hf418 := hb257.st hst329 rfl
            have hf419 := hf418.st hst404 rfl
            exact At.res (.inl rfl) rfl (.tmp rfl .nil) ⟨(c258, r393.b, r393.n, r393.at_, r391, O401, z395), ⟨some1 h, (Stp.up hst404 rfl), hf419, hf405, hb406⟩, rfl⟩
         ·rintro ⟨c374, c376, c379, c380, x381, O382, v377⟩ wd383 ⟨rfl, hst384, hb373, hf378, hb375⟩
          replace h := hk386
          try dsimp only at h hst384 hb373 hf378 hb375
          refine (show WL _ _ _ _ _ ((47, vu x381) :: _) _ from ?_)
          refine WL.nil ?_
          refine At.dq (Stp.up hst384 rfl) ?_
          refine WD.heavy 12 rfl (by kernel_rfl) ?_
          obtain ⟨r420, hp421, h⟩ := bnd h
          refine WL.call (vals := [Value.agg (List.toArray [vi a0.win.ahead, vi a0.win.size])]) kok32 rfl rfl (c_xor_window_behind (a0 := a0.win) hp421) ?_
          rintro vr424 wd423 ⟨rfl, hm422⟩
          obtain ⟨O425, hold426, hnew427, hst428⟩ := adoptE O382 (fun k => 1) hm422
          refine WL.nil ?_
          refine At.dq (Stp.up hst428 rfl) ?_
          refine WD.y 13 rfl (by kernel_rfl) (fun _ _ _ => Y.rem_i (by decide) rfl rfl) rfl ?_
          refine WD.y 14 rfl (by kernel_rfl) (fun _ _ _ => Y.conv_iu ty3.u ty55.u rfl) rfl ?_
          refine WD.y 15 rfl (by kernel_rfl) (fun _ _ _ => Y.shl_uu rfl rfl) rfl ?_
          obtain ⟨d438, hd438, h⟩ := lt1 h
          refine WD.yE 16 rfl (by kernel_rfl) (fun _ _ _ => Y.assign rfl) (congrArg vu hd438.symm) rfl ?_
          refine WD.done_ (by kernel_rfl) ?_
          refine At.then ?_
          refine WC.seq ?_
          refine WC.seq ?_
          refine WC.region ?_
          refine WL.y (Y.move rfl) rfl ?_
          refine WL.y (Y.eql_u (b := 0) rfl rfl) rfl ?_
          refine WL.y (Y.move rfl) rfl ?_
          refine WL.cut 5 (σ := Unit) (fun _ w' => wd423 = w') (fun _ => [(2, Value.pointer (some ⟨p103, 0, none⟩)), (7, vu d438), (63, Value.bool ((decide (d438 = 0)) && (decide (c374 = 0))))]) ?_ ?_
          ·refine WL.part 58 rfl (fun hE442 => ?_) (fun hE442 => ?_)
           ·refine WL.ung rfl rfl ?_
            refine WL.y (Y.move rfl) rfl ?_
            refine WL.ung rfl rfl ?_
            refine WL.y (Y.nilCheck rfl) rfl ?_
            refine WL.ung rfl rfl ?_
            have hf443 := hb373.st hst428 rfl
            refine WL.y (Y.loadSc ty29 rfl rfl (hf443.cell 0 _ rfl)) rfl ?_
            refine WL.ung rfl rfl ?_
            refine WL.y (Y.eql_i rfl rfl) rfl ?_
            refine WL.y (Y.pick (b := true) rfl rfl) rfl ?_
            refine WL.ren (v' := Value.bool ((decide (d438 = 0)) && (decide (c374 = 0)))) 63 rfl (congrArg Value.bool (andT hE442)) ?_
            exact WL.nil (At.join () rfl (.cons rfl (.cons rfl (.cons rfl .nil))))
           ·refine WL.gS rfl rfl rfl rfl ?_
            refine WL.gS rfl rfl rfl rfl ?_
            refine WL.gS rfl rfl rfl rfl ?_
            refine WL.gS rfl rfl rfl rfl ?_
            refine WL.y (Y.pick (b := false) rfl rfl) rfl ?_
            refine WL.ren (v' := Value.bool ((decide (d438 = 0)) && (decide (c374 = 0)))) 63 rfl (congrArg Value.bool (andF hE442)) ?_
            exact WL.nil (At.join () rfl (.cons rfl (.cons rfl (.cons rfl .nil))))
          ·rintro _ _ rfl
           refine (show WL _ _ _ _ _ [(2, Value.pointer (some ⟨p103, 0, none⟩)), (7, vu d438), (63, Value.bool ((decide (d438 = 0)) && (decide (c374 = 0))))] _ from ?_)
           refine WL.nil ?_
           refine At.then ?_
           rcases cnd h with ⟨hc444, h⟩ | ⟨hc444, h⟩
           ·refine WC.condT' rfl hc444 ?_
            refine WC.region ?_
            refine WL.y (Y.move rfl) rfl ?_
            refine WL.y (Y.nilCheck rfl) rfl ?_
            have hf445 := hb373.st hst428 rfl
            refine WL.store (v := vi 3) (cells' := [vi 3]) ty29 rfl rfl hf445 rfl (Nat.le_of_ble_eq_true rfl) rfl rfl ?_
            intro wd446 hst447 hb448
            refine WL.nil ?_
            refine At.then ?_
            refine WC.seq ?_
            refine WC.region ?_
            refine WL.y (Y.move rfl) rfl ?_
            refine WL.y (Y.assign rfl) rfl ?_
            refine WL.nil ?_
            refine At.then ?_
            refine WC.ret ?_
            refine At.thenR ?_
            have hf449 := hf125.st hst182 rfl
            have hf450 := hf449.st hst227 rfl
            have hf451 := hf450.st hst261 rfl
            have hf452 := hf451.st hst329 rfl
            have hf453 := hf452.st hst384 rfl
            have hf454 := hf453.st hst428 rfl
            have hf455 := hf454.st hst447 rfl
            have hf456 := hf378.mono (imm_st hst428 rfl rfl)
            have hf457 := hf456.mono (imm_st hst447 rfl rfl)
            have hf458 := hb375.st hst428 rfl
            have hf459 := hf458.st hst447 rfl
            exact At.res (.inl rfl) rfl (.tmp rfl .nil) ⟨(a0.win.ahead, a0.win.size, c376, c379, c380, 3, d438, O425, v377), ⟨some1 h, (Stp.trans (Stp.up hst182 rfl) (Stp.trans (Stp.up hst227 rfl) (Stp.trans (Stp.up hst261 rfl) (Stp.trans (Stp.up hst329 rfl) (Stp.trans (Stp.up hst384 rfl) (Stp.trans (Stp.up hst428 rfl) (Stp.up hst447 rfl))))))), hf455, hf457, hf459, hb448⟩, rfl⟩
           ·refine WC.condF' rfl hc444 ?_
            refine WC.skip ?_
            refine At.then ?_
            refine WC.seq ?_
            refine WC.region ?_
            refine WL.y (Y.move rfl) rfl ?_
            refine WL.y (Y.assign rfl) rfl ?_
            refine WL.nil ?_
            refine At.then ?_
            refine WC.ret ?_
            refine At.thenR ?_
            have hf460 := hf125.st hst182 rfl
            have hf461 := hf460.st hst227 rfl
            have hf462 := hf461.st hst261 rfl
            have hf463 := hf462.st hst329 rfl
            have hf464 := hf463.st hst384 rfl
            have hf465 := hf464.st hst428 rfl
            have hf466 := hf378.mono (imm_st hst428 rfl rfl)
            have hf467 := hb375.st hst428 rfl
            have hf468 := hb373.st hst428 rfl
            exact At.res (.inl rfl) rfl (.tmp rfl .nil) ⟨(a0.win.ahead, a0.win.size, c376, c379, c380, c374, d438, O425, v377), ⟨some1 h, (Stp.trans (Stp.up hst182 rfl) (Stp.trans (Stp.up hst227 rfl) (Stp.trans (Stp.up hst261 rfl) (Stp.trans (Stp.up hst329 rfl) (Stp.trans (Stp.up hst384 rfl) (Stp.up hst428 rfl)))))), hf465, hf466, hf467, hf468⟩, rfl⟩
       ·refine WC.condF' rfl hc256 ?_
        refine WC.skip ?_
        refine At.then ?_
        refine WC.seq ?_
        refine WC.region ?_
        refine WL.y (Y.move rfl) rfl ?_
        refine WL.y (Y.move rfl) rfl ?_
        obtain ⟨p481, h, hk482⟩ := bnd h
        refine WL.callJ (vals := [Value.pointer (some ⟨b42, 0, none⟩), Value.pointer (some ⟨p103, 0, none⟩), vi 5]) (σ := (List UInt8 × Int × Int × Int × UInt64 × Own × Value)) (fun x w' => (x.1, x.2.1, x.2.2.1, x.2.2.2.1, x.2.2.2.2.1) = p481 ∧ Stp [15, 1002] O225 wd226 x.2.2.2.2.2.1 w' ∧ Sl Rep.b w' (imm x.2.2.2.2.2.1) x.2.2.2.2.2.2 x.1 ∧ Blk 1002 x.2.2.2.2.2.1 w' b42 58 [x.2.2.2.2.2.2, vi x.2.1, vi x.2.2.1] ∧ Blk 15 x.2.2.2.2.2.1 w' p103 29 [vi x.2.2.2.1]) (fun x => vu x.2.2.2.2.1) kok38 rfl rfl ?_ ?_
        ·refine Rets.enter Tryd.func38 rfl rfl ?_
         refine (show WC _ _ _ _ [(0, Value.pointer (some ⟨b42, 0, none⟩)), (1, Value.pointer (some ⟨p103, 0, none⟩)), (2, vi 5)] _ from ?_)
         refine WC.seq ?_
         refine WC.region ?_
         refine WL.y (Y.assign (v := vu 0) rfl) rfl ?_
         refine WL.nil ?_
         refine At.then ?_
         refine WC.seq ?_
         refine WC.region ?_
         refine WL.y (Y.move rfl) rfl ?_
         refine WL.y (Y.move rfl) rfl ?_
         obtain ⟨⟨r483, r484, r485⟩, hp486, h⟩ := bnd h
         refine WL.call (vals := [Value.pointer (some ⟨b42, 0, none⟩), vi 5]) kok42 rfl rfl (c_bitio_Reader_Take (A := imm O225) (a0 := (bitio_Reader.mk c217 c220 c221)) hf219 hb216.blk (fun k hk => imm_ne hb216.lab rfl k hk) hp486) ?_
         rintro vr492 wd491 ⟨z487, rfl, hm490, f488, f489⟩
         obtain ⟨O493, hold494, hnew495, hst496⟩ := adopt O225 (fun k => 1) [1002] hm490 (memB hb216.lab rfl)
         have hf497 : Sl Rep.b wd491 (imm O493) z487 r485.b := Sl.adoptI (O := O225) f488 (fun _ hk => hk) (fun _ _ => Nat.le_refl _) hold494 hnew495
         have hb498 : Blk 1002 O493 wd491 b42 58 [z487, vi r485.n, vi r485.at_] := Blk.adopt hb216 hold494 f489
         refine WL.y (Y.move rfl) rfl ?_
         refine WL.y (Y.extract rfl rfl) rfl ?_
         refine WL.y (Y.extract rfl rfl) rfl ?_
         refine WL.y (Y.assign rfl) rfl ?_
         refine WL.y (Y.assign rfl) rfl ?_
         refine WL.nil ?_
         refine At.then ?_
         refine WC.seq ?_
         refine WC.seq ?_
         refine WC.region ?_
         refine WL.y (Y.move rfl) rfl ?_
         refine WL.y (Y.not rfl) rfl ?_
         refine WL.y (Y.move rfl) rfl ?_
         refine WL.cut 5 (σ := Unit) (fun _ w' => wd491 = w') (fun _ => [(1, Value.pointer (some ⟨p103, 0, none⟩)), (7, vu r483), (22, Value.bool ((!r484) && (decide (c223 = 0))))]) ?_ ?_
         ·refine WL.part 17 rfl (fun hE499 => ?_) (fun hE499 => ?_)
          ·refine WL.ung rfl rfl ?_
           refine WL.y (Y.move rfl) rfl ?_
           refine WL.ung rfl rfl ?_
           refine WL.y (Y.nilCheck rfl) rfl ?_
           refine WL.ung rfl rfl ?_
           have hf500 := hb222.st hst496 rfl
           refine WL.y (Y.loadSc ty29 rfl rfl (hf500.cell 0 _ rfl)) rfl ?_
           refine WL.ung rfl rfl ?_
           refine WL.y (Y.eql_i rfl rfl) rfl ?_
           refine WL.y (Y.pick (b := true) rfl rfl) rfl ?_
           refine WL.ren (v' := Value.bool ((!r484) && (decide (c223 = 0)))) 22 rfl (congrArg Value.bool (andT hE499)) ?_
           exact WL.nil (At.join () rfl (.cons rfl (.cons rfl (.cons rfl .nil))))
          ·refine WL.gS rfl rfl rfl rfl ?_
           refine WL.gS rfl rfl rfl rfl ?_
           refine WL.gS rfl rfl rfl rfl ?_
           refine WL.gS rfl rfl rfl rfl ?_
           refine WL.y (Y.pick (b := false) rfl rfl) rfl ?_
           refine WL.ren (v' := Value.bool ((!r484) && (decide (c223 = 0)))) 22 rfl (congrArg Value.bool (andF hE499)) ?_
           exact WL.nil (At.join () rfl (.cons rfl (.cons rfl (.cons rfl .nil))))
         ·rintro _ _ rfl
          refine (show WL _ _ _ _ _ [(1, Value.pointer (some ⟨p103, 0, none⟩)), (7, vu r483), (22, Value.bool ((!r484) && (decide (c223 = 0))))] _ from ?_)
          refine WL.nil ?_
          refine At.then ?_
          rcases cnd h with ⟨hc501, h⟩ | ⟨hc501, h⟩
          ·refine WC.condT' rfl hc501 ?_
           refine WC.region ?_
           refine WL.y (Y.move rfl) rfl ?_
           refine WL.y (Y.nilCheck rfl) rfl ?_
           have hf502 := hb222.st hst496 rfl
           refine WL.store (v := vi 2) (cells' := [vi 2]) ty29 rfl rfl hf502 rfl (Nat.le_of_ble_eq_true rfl) rfl rfl ?_
           intro wd503 hst504 hb505
           refine WL.nil ?_
           refine At.then ?_
           refine WC.seq ?_
           refine WC.region ?_
           refine WL.y (Y.move rfl) rfl ?_
           refine WL.y (Y.assign rfl) rfl ?_
           refine WL.nil ?_
           refine At.then ?_
           refine WC.ret ?_
           have hf506 := hf497.mono (imm_st hst504 rfl rfl)
           have hf507 := hb498.st hst504 rfl
           exact At.res (.inl rfl) rfl (.tmp rfl .nil) ⟨(r485.b, r485.n, r485.at_, 2, r483, O493, z487), ⟨some1 h, (Stp.trans (Stp.up hst496 rfl) (Stp.up hst504 rfl)), hf506, hf507, hb505⟩, rfl⟩
          ·refine WC.condF' rfl hc501 ?_
           refine WC.skip ?_
           refine At.then ?_
           refine WC.seq ?_
           refine WC.region ?_
           refine WL.y (Y.move rfl) rfl ?_
           refine WL.y (Y.assign rfl) rfl ?_
           refine WL.nil ?_
           refine At.then ?_
           refine WC.ret ?_
           have hf508 := hb222.st hst496 rfl
           exact At.res (.inl rfl) rfl (.tmp rfl .nil) ⟨(r485.b, r485.n, r485.at_, c223, r483, O493, z487), ⟨some1 h, (Stp.up hst496 rfl), hf497, hb498, hf508⟩, rfl⟩
        ·rintro ⟨c470, c473, c474, c476, x477, O478, v471⟩ wd479 ⟨rfl, hst480, hf472, hb469, hb475⟩
         replace h := hk482
         try dsimp only at h hst480 hf472 hb469 hb475
         refine (show WL _ _ _ _ _ ((69, vu x477) :: _) _ from ?_)
         refine WL.y (Y.conv_ui ty23.u ty3.u rfl) rfl ?_
         refine WL.y (Y.build (vals := [(0, vi (w64 (x477.toNat : Int)))]) (cells := [vi (w64 (x477.toNat : Int)), vi 0]) (Fits.evalp rfl) (by kernel_rfl)) rfl ?_
         refine WL.alloc (O := O478) 16 [vi 0, vi 0] ty60 rfl rfl ?_
         intro p510 O511 wd512 hst513 hb509
         refine WL.store (v := Value.agg (List.toArray [vi (w64 (x477.toNat : Int)), vi 0])) (cells' := [vi (w64 (x477.toNat : Int)), vi 0]) ty60 rfl rfl hb509 rfl (Nat.le_of_ble_eq_true rfl) rfl rfl ?_
         intro wd514 hst515 hb516
         refine WL.nil ?_
         refine At.then ?_
         refine WC.seq ?_
         refine WC.region ?_
         refine WL.y (Y.move rfl) rfl ?_
         refine WL.y (Y.move rfl) rfl ?_
         obtain ⟨p529, h, hk530⟩ := bnd h
         refine WL.callJ (vals := [Value.pointer (some ⟨b42, 0, none⟩), Value.pointer (some ⟨p103, 0, none⟩), vi 6]) (σ := (List UInt8 × Int × Int × Int × UInt64 × Own × Value)) (fun x w' => (x.1, x.2.1, x.2.2.1, x.2.2.2.1, x.2.2.2.2.1) = p529 ∧ Stp [15, 1002] O511 wd514 x.2.2.2.2.2.1 w' ∧ Sl Rep.b w' (imm x.2.2.2.2.2.1) x.2.2.2.2.2.2 x.1 ∧ Blk 1002 x.2.2.2.2.2.1 w' b42 58 [x.2.2.2.2.2.2, vi x.2.1, vi x.2.2.1] ∧ Blk 15 x.2.2.2.2.2.1 w' p103 29 [vi x.2.2.2.1]) (fun x => vu x.2.2.2.2.1) kok38 rfl rfl ?_ ?_
         ·refine Rets.enter Tryd.func38 rfl rfl ?_
          refine (show WC _ _ _ _ [(0, Value.pointer (some ⟨b42, 0, none⟩)), (1, Value.pointer (some ⟨p103, 0, none⟩)), (2, vi 6)] _ from ?_)
          refine WC.seq ?_
          refine WC.region ?_
          refine WL.y (Y.assign (v := vu 0) rfl) rfl ?_
          refine WL.nil ?_
          refine At.then ?_
          refine WC.seq ?_
          refine WC.region ?_
          refine WL.y (Y.move rfl) rfl ?_
          refine WL.y (Y.move rfl) rfl ?_
          have hf531 := hb469.st hst513 rfl
          have hf532 := hf531.st hst515 rfl
          have hf533 := hf472.mono (imm_st hst513 rfl rfl)
          have hf534 := hf533.mono (imm_st hst515 rfl rfl)
          obtain ⟨⟨r535, r536, r537⟩, hp538, h⟩ := bnd h
          refine WL.call (vals := [Value.pointer (some ⟨b42, 0, none⟩), vi 6]) kok42 rfl rfl (c_bitio_Reader_Take (A := imm O511) (a0 := (bitio_Reader.mk c470 c473 c474)) hf534 hf532.blk (fun k hk => imm_ne hf532.lab rfl k hk) hp538) ?_
          rintro vr544 wd543 ⟨z539, rfl, hm542, f540, f541⟩
          obtain ⟨O545, hold546, hnew547, hst548⟩ := adopt O511 (fun k => 1) [1002] hm542 (memB hf532.lab rfl)
          have hf549 : Sl Rep.b wd543 (imm O545) z539 r537.b := Sl.adoptI (O := O511) f540 (fun _ hk => hk) (fun _ _ => Nat.le_refl _) hold546 hnew547
          have hb550 : Blk 1002 O545 wd543 b42 58 [z539, vi r537.n, vi r537.at_] := Blk.adopt hf532 hold546 f541
          refine WL.y (Y.move rfl) rfl ?_
          refine WL.y (Y.extract rfl rfl) rfl ?_
          refine WL.y (Y.extract rfl rfl) rfl ?_
          refine WL.y (Y.assign rfl) rfl ?_
          refine WL.y (Y.assign rfl) rfl ?_
          refine WL.nil ?_
          refine At.then ?_
          refine WC.seq ?_
          refine WC.seq ?_
          refine WC.region ?_
          refine WL.y (Y.move rfl) rfl ?_
          refine WL.y (Y.not rfl) rfl ?_
          refine WL.y (Y.move rfl) rfl ?_
          refine WL.cut 5 (σ := Unit) (fun _ w' => wd543 = w') (fun _ => [(1, Value.pointer (some ⟨p103, 0, none⟩)), (7, vu r535), (22, Value.bool ((!r536) && (decide (c476 = 0))))]) ?_ ?_
          ·refine WL.part 17 rfl (fun hE551 => ?_) (fun hE551 => ?_)
           ·refine WL.ung rfl rfl ?_
            refine WL.y (Y.move rfl) rfl ?_
            refine WL.ung rfl rfl ?_
            refine WL.y (Y.nilCheck rfl) rfl ?_
            refine WL.ung rfl rfl ?_
            have hf552 := hb475.st hst513 rfl
            have hf553 := hf552.st hst515 rfl
            have hf554 := hf553.st hst548 rfl
            refine WL.y (Y.loadSc ty29 rfl rfl (hf554.cell 0 _ rfl)) rfl ?_
            refine WL.ung rfl rfl ?_
            refine WL.y (Y.eql_i rfl rfl) rfl ?_
            refine WL.y (Y.pick (b := true) rfl rfl) rfl ?_
            refine WL.ren (v' := Value.bool ((!r536) && (decide (c476 = 0)))) 22 rfl (congrArg Value.bool (andT hE551)) ?_
            exact WL.nil (At.join () rfl (.cons rfl (.cons rfl (.cons rfl .nil))))
           ·refine WL.gS rfl rfl rfl rfl ?_
            refine WL.gS rfl rfl rfl rfl ?_
            refine WL.gS rfl rfl rfl rfl ?_
            refine WL.gS rfl rfl rfl rfl ?_
            refine WL.y (Y.pick (b := false) rfl rfl) rfl ?_
            refine WL.ren (v' := Value.bool ((!r536) && (decide (c476 = 0)))) 22 rfl (congrArg Value.bool (andF hE551)) ?_
            exact WL.nil (At.join () rfl (.cons rfl (.cons rfl (.cons rfl .nil))))
          ·rintro _ _ rfl
           refine (show WL _ _ _ _ _ [(1, Value.pointer (some ⟨p103, 0, none⟩)), (7, vu r535), (22, Value.bool ((!r536) && (decide (c476 = 0))))] _ from ?_)
           refine WL.nil ?_
           refine At.then ?_
           rcases cnd h with ⟨hc555, h⟩ | ⟨hc555, h⟩
           ·refine WC.condT' rfl hc555 ?_
            refine WC.region ?_
            refine WL.y (Y.move rfl) rfl ?_
            refine WL.y (Y.nilCheck rfl) rfl ?_
            have hf556 := hb475.st hst513 rfl
            have hf557 := hf556.st hst515 rfl
            have hf558 := hf557.st hst548 rfl
            refine WL.store (v := vi 2) (cells' := [vi 2]) ty29 rfl rfl hf558 rfl (Nat.le_of_ble_eq_true rfl) rfl rfl ?_
            intro wd559 hst560 hb561
            refine WL.nil ?_
            refine At.then ?_
            refine WC.seq ?_
            refine WC.region ?_
            refine WL.y (Y.move rfl) rfl ?_
            refine WL.y (Y.assign rfl) rfl ?_
            refine WL.nil ?_
            refine At.then ?_
            refine WC.ret ?_
            have hf562 := hf549.mono (imm_st hst560 rfl rfl)
            have hf563 := hb550.st hst560 rfl
            exact At.res (.inl rfl) rfl (.tmp rfl .nil) ⟨(r537.b, r537.n, r537.at_, 2, r535, O545, z539), ⟨some1 h, (Stp.trans (Stp.up hst548 rfl) (Stp.up hst560 rfl)), hf562, hf563, hb561⟩, rfl⟩
           ·refine WC.condF' rfl hc555 ?_
            refine WC.skip ?_
            refine At.then ?_
            refine WC.seq ?_
            refine WC.region ?_
            refine WL.y (Y.move rfl) rfl ?_
            refine WL.y (Y.assign rfl) rfl ?_
            refine WL.nil ?_
            refine At.then ?_
            refine WC.ret ?_
            have hf564 := hb475.st hst513 rfl
            have hf565 := hf564.st hst515 rfl
            have hf566 := hf565.st hst548 rfl
            exact At.res (.inl rfl) rfl (.tmp rfl .nil) ⟨(r537.b, r537.n, r537.at_, c476, r535, O545, z539), ⟨some1 h, (Stp.up hst548 rfl), hf549, hb550, hf566⟩, rfl⟩
         ·rintro ⟨c518, c521, c522, c524, x525, O526, v519⟩ wd527 ⟨rfl, hst528, hf520, hb517, hb523⟩
          replace h := hk530
          try dsimp only at h hst528 hf520 hb517 hb523
          refine (show WL _ _ _ _ _ ((74, vu x525) :: _) _ from ?_)
          refine WL.y (Y.conv_ui ty23.u ty3.u rfl) rfl ?_
          refine WL.y (Y.add_i rfl rfl) rfl ?_
          refine WL.y (Y.fieldAddr fo60_1 rfl) rfl ?_
          obtain ⟨t567, ht567, h⟩ := lt1 h
          refine WL.ren 76 rfl (congrArg vi ht567.symm) ?_
          have hf568 := hb516.st hst528 rfl
          refine WL.store (v := vi t567) (cells' := [vi (w64 (x477.toNat : Int)), vi t567]) ty3 rfl rfl hf568 rfl (Nat.le_of_ble_eq_true rfl) rfl rfl ?_
          intro wd569 hst570 hb571
          refine WL.nil ?_
          refine At.then ?_
          refine WC.seq ?_
          obtain ⟨p577, h, hk578⟩ := bnd h
          refine WC.join (σ := (Int × Own)) (fun x w' => x.1 = p577 ∧ Stp [15] O526 wd569 x.2 w' ∧ Blk 15 x.2 w' p103 29 [vi x.1]) (fun x => [(0, Value.pointer (some ⟨b40, 0, none⟩)), (1, Value.pointer (some ⟨b42, 0, none⟩)), (2, Value.pointer (some ⟨p103, 0, none⟩)), (8, Value.pointer (some ⟨p510, 0, none⟩))]) ?_ ?_
          ·refine WC.seq ?_
           refine WC.region ?_
           refine WL.y (Y.move rfl) rfl ?_
           refine WL.y (Y.nilCheck rfl) rfl ?_
           have hf579 := hb523.st hst570 rfl
           refine WL.y (Y.loadSc ty29 rfl rfl (hf579.cell 0 _ rfl)) rfl ?_
           refine WL.y (Y.eql_i rfl rfl) rfl ?_
           refine WL.y (Y.move rfl) rfl ?_
           obtain ⟨p584, h, hk585⟩ := bnd h
           refine WL.cut 4 (σ := (Bool × Own)) (fun x w' => x.1 = p584 ∧ Stp [] O526 wd569 x.2 w') (fun x => [(0, Value.pointer (some ⟨b40, 0, none⟩)), (1, Value.pointer (some ⟨b42, 0, none⟩)), (2, Value.pointer (some ⟨p103, 0, none⟩)), (8, Value.pointer (some ⟨p510, 0, none⟩)), (86, Value.bool x.1)]) ?_ ?_
           ·rcases cnd h with ⟨hE586, h⟩ | ⟨hE586, h⟩
            ·refine WL.ren 82 rfl (congrArg Value.bool hE586) ?_
             refine WL.ung rfl rfl ?_
             refine WL.y (Y.loadAg ty60 rfl rfl (hb571.cells 0 [vi (w64 (x477.toNat : Int)), vi t567] rfl) rfl) rfl ?_
             refine WL.ung rfl rfl ?_
             obtain ⟨r587, hp588, h⟩ := bnd h
             refine WL.call (vals := [Value.agg (List.toArray [vi (w64 (x477.toNat : Int)), vi t567])]) kok32 rfl rfl (c_xor_window_behind (a0 := (xor_window.mk (w64 (x477.toNat : Int)) t567)) hp588) ?_
             rintro vr591 wd590 ⟨rfl, hm589⟩
             obtain ⟨O592, hold593, hnew594, hst595⟩ := adoptE O526 (fun k => 1) hm589
             refine WL.ung rfl rfl ?_
             refine WL.y (Y.lss_i rfl rfl) rfl ?_
             refine WL.y (Y.pick (b := true) rfl rfl) rfl ?_
             exact WL.nil (At.join (σ := (Bool × Own)) (decide (r587 < 0), O592) ⟨some1 h, (Stp.up hst595 rfl)⟩ (.cons rfl (.cons rfl (.cons rfl (.cons rfl (.cons rfl .nil))))))
            ·refine WL.ren 82 rfl (congrArg Value.bool hE586) ?_
             refine WL.gS rfl rfl rfl rfl ?_
             refine WL.gS rfl rfl rfl rfl ?_
             refine WL.gS rfl rfl rfl rfl ?_
             refine WL.y (Y.pick (b := false) rfl rfl) rfl ?_
             exact WL.nil (At.join (σ := (Bool × Own)) (false, O526) ⟨some1 h, (Stp.refl _ _ _)⟩ (.cons rfl (.cons rfl (.cons rfl (.cons rfl (.cons rfl .nil))))))
           ·rintro ⟨x580, O581⟩ wd582 ⟨rfl, hst583⟩
            replace h := hk585
            try dsimp only at h hst583
            refine (show WL _ _ _ _ _ [(0, Value.pointer (some ⟨b40, 0, none⟩)), (1, Value.pointer (some ⟨b42, 0, none⟩)), (2, Value.pointer (some ⟨p103, 0, none⟩)), (8, Value.pointer (some ⟨p510, 0, none⟩)), (86, Value.bool x580)] _ from ?_)
            refine WL.nil ?_
            refine At.then ?_
            rcases cnd h with ⟨hc596, h⟩ | ⟨hc596, h⟩
            ·refine WC.condT' rfl hc596 ?_
             refine WC.region ?_
             refine WL.y (Y.move rfl) rfl ?_
             refine WL.y (Y.nilCheck rfl) rfl ?_
             have hf597 := hf579.st hst583 rfl
             refine WL.store (v := vi 3) (cells' := [vi 3]) ty29 rfl rfl hf597 rfl (Nat.le_of_ble_eq_true rfl) rfl rfl ?_
             intro wd598 hst599 hb600
             refine WL.nil ?_
             exact At.join (σ := (Int × Own)) (3, O581) ⟨some1 h, (Stp.trans (Stp.up hst583 rfl) (Stp.up hst599 rfl)), hb600⟩ (.cons rfl (.cons rfl (.cons rfl (.cons rfl .nil))))
            ·refine WC.condF' rfl hc596 ?_
             refine WC.skip ?_
             have hf601 := hf579.st hst583 rfl
             exact At.join (σ := (Int × Own)) (c524, O581) ⟨some1 h, (Stp.up hst583 rfl), hf601⟩ (.cons rfl (.cons rfl (.cons rfl (.cons rfl .nil))))
          ·rintro ⟨c573, O574⟩ wd575 ⟨rfl, hst576, hb572⟩
           replace h := hk578
           try dsimp only at h hst576 hb572
           refine (show At _ _ _ [(0, Value.pointer (some ⟨b40, 0, none⟩)), (1, Value.pointer (some ⟨b42, 0, none⟩)), (2, Value.pointer (some ⟨p103, 0, none⟩)), (8, Value.pointer (some ⟨p510, 0, none⟩))] _ from ?_)
           refine At.then ?_
           refine WC.seq ?_
           refine WC.region ?_
           refine WL.y (Y.move rfl) rfl ?_
           refine WL.y (Y.move rfl) rfl ?_
           refine WL.y (Y.fieldAddr fo60_1 rfl) rfl ?_
           have hf602 := hb571.st hst576 rfl
           refine WL.y (Y.loadSc ty3 rfl rfl (hf602.cell 1 _ rfl)) rfl ?_
           obtain ⟨p615, h, hk616⟩ := bnd h
           refine WL.callJ (vals := [Value.pointer (some ⟨b42, 0, none⟩), Value.pointer (some ⟨p103, 0, none⟩), vi t567]) (σ := (Int × List UInt8 × Int × Int × UInt64 × Own × Value)) (fun x w' => (x.1, x.2.1, x.2.2.1, x.2.2.2.1, x.2.2.2.2.1) = p615 ∧ Stp [15, 1002] O574 wd575 x.2.2.2.2.2.1 w' ∧ Blk 15 x.2.2.2.2.2.1 w' p103 29 [vi x.1] ∧ Sl Rep.b w' (imm x.2.2.2.2.2.1) x.2.2.2.2.2.2 x.2.1 ∧ Blk 1002 x.2.2.2.2.2.1 w' b42 58 [x.2.2.2.2.2.2, vi x.2.2.1, vi x.2.2.2.1]) (fun x => vu x.2.2.2.2.1) kok38 rfl rfl ?_ ?_
           ·refine Rets.enter Tryd.func38 rfl rfl ?_
            refine (show WC _ _ _ _ [(0, Value.pointer (some ⟨b42, 0, none⟩)), (1, Value.pointer (some ⟨p103, 0, none⟩)), (2, vi t567)] _ from ?_)
            refine WC.seq ?_
            refine WC.region ?_
            refine WL.y (Y.assign (v := vu 0) rfl) rfl ?_
            refine WL.nil ?_
            refine At.then ?_
            refine WC.seq ?_
            refine WC.region ?_
            refine WL.y (Y.move rfl) rfl ?_
            refine WL.y (Y.move rfl) rfl ?_
            have hf617 := hb517.st hst570 rfl
            have hf618 := hf617.st hst576 rfl
            have hf619 := hf520.mono (imm_st hst570 rfl rfl)
            have hf620 := hf619.mono (imm_st hst576 rfl rfl)
            obtain ⟨⟨r621, r622, r623⟩, hp624, h⟩ := bnd h
            refine WL.call (vals := [Value.pointer (some ⟨b42, 0, none⟩), vi t567]) kok42 rfl rfl (c_bitio_Reader_Take (A := imm O574) (a0 := (bitio_Reader.mk c518 c521 c522)) hf620 hf618.blk (fun k hk => imm_ne hf618.lab rfl k hk) hp624) ?_
            rintro vr630 wd629 ⟨z625, rfl, hm628, f626, f627⟩
            obtain ⟨O631, hold632, hnew633, hst634⟩ := adopt O574 (fun k => 1) [1002] hm628 (memB hf618.lab rfl)
            have hf635 : Sl Rep.b wd629 (imm O631) z625 r623.b := Sl.adoptI (O := O574) f626 (fun _ hk => hk) (fun _ _ => Nat.le_refl _) hold632 hnew633
            have hb636 : Blk 1002 O631 wd629 b42 58 [z625, vi r623.n, vi r623.at_] := Blk.adopt hf618 hold632 f627
            refine WL.y (Y.move rfl) rfl ?_
            refine WL.y (Y.extract rfl rfl) rfl ?_
            refine WL.y (Y.extract rfl rfl) rfl ?_
            refine WL.y (Y.assign rfl) rfl ?_
            refine WL.y (Y.assign rfl) rfl ?_
            refine WL.nil ?_
            refine At.then ?_
            refine WC.seq ?_
            refine WC.seq ?_
            refine WC.region ?_
            refine WL.y (Y.move rfl) rfl ?_
            refine WL.y (Y.not rfl) rfl ?_
            refine WL.y (Y.move rfl) rfl ?_
            refine WL.cut 5 (σ := Unit) (fun _ w' => wd629 = w') (fun _ => [(1, Value.pointer (some ⟨p103, 0, none⟩)), (7, vu r621), (22, Value.bool ((!r622) && (decide (c573 = 0))))]) ?_ ?_
            ·refine WL.part 17 rfl (fun hE637 => ?_) (fun hE637 => ?_)
             ·refine WL.ung rfl rfl ?_
              refine WL.y (Y.move rfl) rfl ?_
              refine WL.ung rfl rfl ?_
              refine WL.y (Y.nilCheck rfl) rfl ?_
              refine WL.ung rfl rfl ?_
              have hf638 := hb572.st hst634 rfl
              refine WL.y (Y.loadSc ty29 rfl rfl (hf638.cell 0 _ rfl)) rfl ?_
              refine WL.ung rfl rfl ?_
              refine WL.y (Y.eql_i rfl rfl) rfl ?_
              refine WL.y (Y.pick (b := true) rfl rfl) rfl ?_
              refine WL.ren (v' := Value.bool ((!r622) && (decide (c573 = 0)))) 22 rfl (congrArg Value.bool (andT hE637)) ?_
              exact WL.nil (At.join () rfl (.cons rfl (.cons rfl (.cons rfl .nil))))
             ·refine WL.gS rfl rfl rfl rfl ?_
              refine WL.gS rfl rfl rfl rfl ?_
              refine WL.gS rfl rfl rfl rfl ?_
              refine WL.gS rfl rfl rfl rfl ?_
              refine WL.y (Y.pick (b := false) rfl rfl) rfl ?_
              refine WL.ren (v' := Value.bool ((!r622) && (decide (c573 = 0)))) 22 rfl (congrArg Value.bool (andF hE637)) ?_
              exact WL.nil (At.join () rfl (.cons rfl (.cons rfl (.cons rfl .nil))))
            ·rintro _ _ rfl
             refine (show WL _ _ _ _ _ [(1, Value.pointer (some ⟨p103, 0, none⟩)), (7, vu r621), (22, Value.bool ((!r622) && (decide (c573 = 0))))] _ from ?_)
             refine WL.nil ?_
             refine At.then ?_
             rcases cnd h with ⟨hc639, h⟩ | ⟨hc639, h⟩
             ·refine WC.condT' rfl hc639 ?_
              refine WC.region ?_
              refine WL.y (Y.move rfl) rfl ?_
              refine WL.y (Y.nilCheck rfl) rfl ?_
              have hf640 := hb572.st hst634 rfl
              refine WL.store (v := vi 2) (cells' := [vi 2]) ty29 rfl rfl hf640 rfl (Nat.le_of_ble_eq_true rfl) rfl rfl ?_
              intro wd641 hst642 hb643
              refine WL.nil ?_
              refine At.then ?_
              refine WC.seq ?_
              refine WC.region ?_
              refine WL.y (Y.move rfl) rfl ?_
              refine WL.y (Y.assign rfl) rfl ?_
              refine WL.nil ?_
              refine At.then ?_
              refine WC.ret ?_
              have hf644 := hf635.mono (imm_st hst642 rfl rfl)
              have hf645 := hb636.st hst642 rfl
              exact At.res (.inl rfl) rfl (.tmp rfl .nil) ⟨(2, r623.b, r623.n, r623.at_, r621, O631, z625), ⟨some1 h, (Stp.trans (Stp.up hst634 rfl) (Stp.up hst642 rfl)), hb643, hf644, hf645⟩, rfl⟩
             ·refine WC.condF' rfl hc639 ?_
              refine WC.skip ?_
              refine At.then ?_
              refine WC.seq ?_
              refine WC.region ?_
              refine WL.y (Y.move rfl) rfl ?_
              refine WL.y (Y.assign rfl) rfl ?_
              refine WL.nil ?_
              refine At.then ?_
              refine WC.ret ?_
              have hf646 := hb572.st hst634 rfl
              exact At.res (.inl rfl) rfl (.tmp rfl .nil) ⟨(c573, r623.b, r623.n, r623.at_, r621, O631, z625), ⟨some1 h, (Stp.up hst634 rfl), hf646, hf635, hb636⟩, rfl⟩
           ·rintro ⟨c604, c606, c609, c610, x611, O612, v607⟩ wd613 ⟨rfl, hst614, hb603, hf608, hb605⟩
            replace h := hk616
            try dsimp only at h hst614 hb603 hf608 hb605
            refine (show WL _ _ _ _ _ ((93, vu x611) :: _) _ from ?_)
            refine WL.y (Y.assign rfl) rfl ?_
            refine WL.nil ?_
            refine At.then ?_
            refine WC.seq ?_
            refine WC.seq ?_
            refine WC.region ?_
            refine WL.y (Y.move rfl) rfl ?_
            refine WL.y (Y.nilCheck rfl) rfl ?_
            refine WL.y (Y.loadSc ty29 rfl rfl (hb603.cell 0 _ rfl)) rfl ?_
            refine WL.y (Y.neq_i rfl rfl) rfl ?_
            refine WL.nil ?_
            refine At.then ?_
            rcases cnd h with ⟨hc647, h⟩ | ⟨hc647, h⟩
            ·refine WC.condT' rfl hc647 ?_
             refine WC.seq ?_
             refine WC.region ?_
             refine WL.y (Y.assign (v := vu 0) rfl) rfl ?_
             refine WL.nil ?_
             refine At.then ?_
             refine WC.ret ?_
             refine At.thenR ?_
             have hf648 := hf125.st hst182 rfl
             have hf649 := hf648.st hst227 rfl
             have hf650 := hf649.st hst480 rfl
             have hf651 := hf650.st hst513 rfl
             have hf652 := hf651.st hst515 rfl
             have hf653 := hf652.st hst528 rfl
             have hf654 := hf653.st hst570 rfl
             have hf655 := hf654.st hst576 rfl
             have hf656 := hf655.st hst614 rfl
             exact At.res (.inl rfl) rfl (.tmp rfl .nil) ⟨(a0.win.ahead, a0.win.size, c606, c609, c610, c604, 0, O612, v607), ⟨some1 h, (Stp.trans (Stp.up hst182 rfl) (Stp.trans (Stp.up hst227 rfl) (Stp.trans (Stp.up hst480 rfl) (Stp.trans (Stp.up hst513 rfl) (Stp.trans (Stp.up hst515 rfl) (Stp.trans (Stp.up hst528 rfl) (Stp.trans (Stp.up hst570 rfl) (Stp.trans (Stp.up hst576 rfl) (Stp.up hst614 rfl))))))))), hf656, hf608, hb605, hb603⟩, rfl⟩
            ·refine WC.condF' rfl hc647 ?_
             refine WC.skip ?_
             refine At.then ?_
             refine WC.seq ?_
             refine WC.region ?_
             refine WL.y (Y.move rfl) rfl ?_
             have hf657 := hf602.st hst614 rfl
             refine WL.y (Y.loadAg ty60 rfl rfl (hf657.cells 0 [vi (w64 (x477.toNat : Int)), vi t567] rfl) rfl) rfl ?_
             obtain ⟨r658, hp659, h⟩ := bnd h
             refine WL.call (vals := [Value.agg (List.toArray [vi (w64 (x477.toNat : Int)), vi t567])]) kok32 rfl rfl (c_xor_window_behind (a0 := (xor_window.mk (w64 (x477.toNat : Int)) t567)) hp659) ?_
             rintro vr662 wd661 ⟨rfl, hm660⟩
             obtain ⟨O663, hold664, hnew665, hst666⟩ := adoptE O612 (fun k => 1) hm660
             refine WL.y (Y.conv_iu ty3.u ty55.u rfl) rfl ?_
             refine WL.y (Y.shl_uu rfl rfl) rfl ?_
             obtain ⟨d667, hd667, h⟩ := lt1 h
             refine WL.yE (Y.assign rfl) (congrArg vu hd667.symm) rfl ?_
             refine WL.nil ?_
             refine At.then ?_
             refine WC.seq ?_
             obtain ⟨p673, h, hk674⟩ := bnd h
             refine WC.join (σ := (Int × Own)) (fun x w' => x.1 = p673 ∧ Stp [15] O663 wd661 x.2 w' ∧ Blk 15 x.2 w' p103 29 [vi x.1]) (fun x => [(0, Value.pointer (some ⟨b40, 0, none⟩)), (8, Value.pointer (some ⟨p510, 0, none⟩)), (9, vu d667)]) ?_ ?_
             ·refine WC.seq ?_
              refine WC.drawH [] [0, 1, 2, 3, 4, 5, 6, 7, 8, 9, 10, 11, 12, 13, 14, 15] O663 16 fmix rfl (by kernel_rfl) ?_
              intro wd675 hst676
              refine WD.y 0 rfl (by kernel_rfl) (fun _ _ _ => Y.move rfl) rfl ?_
              refine WD.y 1 rfl (by kernel_rfl) (fun _ _ _ => Y.eql_u (b := 0) rfl rfl) rfl ?_
              refine WD.y 2 rfl (by kernel_rfl) (fun _ _ _ => Y.move rfl) rfl ?_
              obtain ⟨p690, h, hk691⟩ := bnd h
              refine WD.join (σ := (Bool × Own)) (f' := 8) [7, 6, 4, 5, 3, 2, 1, 0] (fun x O' w' => x.1 = p690 ∧ Stp [] O663 wd675 x.2 w' ∧ x.2 = O') (fun x => [(0, Value.pointer (some ⟨b40, 0, none⟩)), (2, Value.pointer (some ⟨p103, 0, none⟩)), (8, Value.pointer (some ⟨p510, 0, none⟩)), (9, vu d667), (110, Value.bool x.1)]) (fun hJ692 => ?_) ?_
              ·rcases cnd h with ⟨hE693, h⟩ | ⟨hE693, h⟩
               ·refine WD.ren 105 rfl (congrArg Value.bool hE693) ?_
                refine WD.gS 3 rfl (by kernel_rfl) rfl rfl rfl rfl ?_
                refine WD.gS 5 rfl (by kernel_rfl) rfl rfl rfl rfl ?_
                refine WD.heavy 4 rfl (by kernel_rfl) ?_
                refine WL.gS rfl rfl rfl rfl ?_
                refine WL.nil ?_
                refine At.dq (Stp.refl _ _ _) ?_
                refine WD.gS 6 rfl (by kernel_rfl) rfl rfl rfl rfl ?_
                refine WD.y 7 rfl (by kernel_rfl) (fun _ _ _ => Y.pick (b := true) rfl rfl) rfl ?_
                refine WD.ren 105 rfl (congrArg Value.bool hE693.symm) ?_
                exact hJ692 (true, O663) _ _ _ ⟨some1 h, (Stp.refl _ _ _), rfl⟩ (.cons rfl (.cons rfl (.cons rfl (.cons rfl (.cons rfl .nil)))))
               ·refine WD.ren 105 rfl (congrArg Value.bool hE693) ?_
                refine WD.gT 3 rfl (by kernel_rfl) rfl rfl (fun _ _ _ => Y.move rfl) rfl ?_
                refine WD.gT 5 rfl (by kernel_rfl) rfl rfl (fun wd701 O700 hst702 => have hf703 := hf657.st hst666 rfl; have hf704 := hf703.st hst676 rfl; have hf705 := hf704.st hst702 rfl; Y.loadAg ty60 rfl rfl (hf705.cells 0 [vi (w64 (x477.toNat : Int)), vi t567] rfl) rfl) rfl ?_
                refine WD.heavy 4 rfl (by kernel_rfl) ?_
                refine WL.ung rfl rfl ?_
                have hf706 := hG15.st hst17 rfl
                have hf707 := hf706.st hst46 rfl
                have hf708 := hf707.st hst89 rfl
                have hf709 := hf708.st hst100 rfl
                have hf710 := hf709.st hst106 rfl
                have hf711 := hf710.st hst182 rfl
                have hf712 := hf711.st hst227 rfl
                have hf713 := hf712.st hst480 rfl
                have hf714 := hf713.st hst513 rfl
                have hf715 := hf714.st hst515 rfl
                have hf716 := hf715.st hst528 rfl
                have hf717 := hf716.st hst570 rfl
                have hf718 := hf717.st hst576 rfl
                have hf719 := hf718.st hst614 rfl
                have hf720 := hf719.st hst666 rfl
                have hf721 := hf720.st hst676 rfl
                obtain ⟨r722, hp723, h⟩ := bnd h
                refine WL.call (vals := [vu d667]) kok33 rfl rfl (c_xor_around (A := fun _ => True) hf721.at_ trivial hp723) ?_
                rintro vr726 wd725 ⟨rfl, hm724⟩
                obtain ⟨O727, hold728, hnew729, hst730⟩ := adoptE O663 (fun k => 1) hm724
                refine WL.nil ?_
                refine At.dq (Stp.up hst730 rfl) ?_
                refine WD.gT 6 rfl (by kernel_rfl) rfl rfl (fun _ _ _ => Y.neq_ag agok60 rfl rfl (EqF.cons (by decide) (fun w => run_part_plain w (by kernel_rfl) rfl) (fun w => run_part_plain w (by kernel_rfl) rfl) (EqV.i (a := r722.ahead) (b := w64 (x477.toNat : Int)) ty3.u) (EqF.cons (by decide) (fun w => run_part_plain w (by kernel_rfl) rfl) (fun w => run_part_plain w (by kernel_rfl) rfl) (EqV.i (a := r722.size) (b := t567) ty3.u) EqF.nil))) rfl ?_
                refine WD.y 7 rfl (by kernel_rfl) (fun _ _ _ => Y.pick (b := false) rfl rfl) rfl ?_
                refine WD.ren 105 rfl (congrArg Value.bool hE693.symm) ?_
                exact hJ692 ((!(decide (r722.ahead = w64 (x477.toNat : Int)) && (decide (r722.size = t567) && true))), O727) _ _ _ ⟨some1 h, (Stp.up hst730 rfl), rfl⟩ (.cons rfl (.cons rfl (.cons rfl (.cons rfl (.cons rfl .nil)))))
              ·rintro ⟨x686, O687⟩ _ wd688 ⟨rfl, hst689, rfl⟩
               replace h := hk691
               try dsimp only at h hst689
               refine (show WD _ _ _ _ _ _ _ _ [(0, Value.pointer (some ⟨b40, 0, none⟩)), (2, Value.pointer (some ⟨p103, 0, none⟩)), (8, Value.pointer (some ⟨p510, 0, none⟩)), (9, vu d667), (110, Value.bool x686)] _ _ from ?_)
               refine WD.y 8 rfl (by kernel_rfl) (fun _ _ _ => Y.move rfl) rfl ?_
               obtain ⟨p744, h, hk745⟩ := bnd h
               refine WD.join (σ := (Bool × Own)) (f' := 0) [15, 14, 13, 12, 11, 10, 9, 8, 7, 6, 4, 5, 3, 2, 1, 0] (fun x O' w' => x.1 = p744 ∧ Stp [] O687 wd688 x.2 w' ∧ x.2 = O') (fun x => [(0, Value.pointer (some ⟨b40, 0, none⟩)), (2, Value.pointer (some ⟨p103, 0, none⟩)), (8, Value.pointer (some ⟨p510, 0, none⟩)), (9, vu d667), (118, Value.bool x.1)]) (fun hJ746 => ?_) ?_
               ·rcases cnd h with ⟨hE747, h⟩ | ⟨hE747, h⟩
                ·refine WD.ren 111 rfl (congrArg Value.bool hE747) ?_
                 refine WD.gS 9 rfl (by kernel_rfl) rfl rfl rfl rfl ?_
                 refine WD.gS 10 rfl (by kernel_rfl) rfl rfl rfl rfl ?_
                 refine WD.gS 11 rfl (by kernel_rfl) rfl rfl rfl rfl ?_
                 refine WD.gS 12 rfl (by kernel_rfl) rfl rfl rfl rfl ?_
                 refine WD.gS 13 rfl (by kernel_rfl) rfl rfl rfl rfl ?_
                 refine WD.heavy 14 rfl (by kernel_rfl) ?_
                 refine WL.gS rfl rfl rfl rfl ?_
                 refine WL.nil ?_
                 refine At.dq (Stp.refl _ _ _) ?_
                 refine WD.y 15 rfl (by kernel_rfl) (fun _ _ _ => Y.pick (b := true) rfl rfl) rfl ?_
                 refine WD.ren 111 rfl (congrArg Value.bool hE747.symm) ?_
                 exact hJ746 (true, O687) _ _ _ ⟨some1 h, (Stp.refl _ _ _), rfl⟩ (.cons rfl (.cons rfl (.cons rfl (.cons rfl (.cons rfl .nil)))))
                ·refine WD.ren 111 rfl (congrArg Value.bool hE747) ?_
                 refine WD.gT 9 rfl (by kernel_rfl) rfl rfl (fun _ _ _ => Y.move rfl) rfl ?_
                 refine WD.gT 10 rfl (by kernel_rfl) rfl rfl (fun _ _ _ => Y.nilCheck rfl) rfl ?_
                 refine WD.gT 11 rfl (by kernel_rfl) rfl rfl (fun _ _ _ => Y.fieldAddr fo62_2 rfl) rfl ?_
                 refine WD.gT 12 rfl (by kernel_rfl) rfl rfl (fun wd761 O760 hst762 => have hf763 := hf125.st hst182 rfl; have hf764 := hf763.st hst227 rfl; have hf765 := hf764.st hst480 rfl; have hf766 := hf765.st hst513 rfl; have hf767 := hf766.st hst515 rfl; have hf768 := hf767.st hst528 rfl; have hf769 := hf768.st hst570 rfl; have hf770 := hf769.st hst576 rfl; have hf771 := hf770.st hst614 rfl; have hf772 := hf771.st hst666 rfl; have hf773 := hf772.st hst676 rfl; have hf774 := hf773.st hst689 rfl; have hf775 := hf774.st hst762 rfl; Y.loadAg ty60 rfl rfl (hf775.cells 2 [vi a0.win.ahead, vi a0.win.size] rfl) rfl) rfl ?_
                 refine WD.gT 13 rfl (by kernel_rfl) rfl rfl (fun _ _ _ => Y.move rfl) rfl ?_
                 refine WD.heavy 14 rfl (by kernel_rfl) ?_
                 refine WL.ung rfl rfl ?_
                 have hf779 := hG14.st hst17 rfl
                 have hf780 := hf779.st hst46 rfl
                 have hf781 := hf780.st hst89 rfl
                 have hf782 := hf781.st hst100 rfl
                 have hf783 := hf782.st hst106 rfl
                 have hf784 := hf783.st hst182 rfl
                 have hf785 := hf784.st hst227 rfl
                 have hf786 := hf785.st hst480 rfl
                 have hf787 := hf786.st hst513 rfl
                 have hf788 := hf787.st hst515 rfl
                 have hf789 := hf788.st hst528 rfl
                 have hf790 := hf789.st hst570 rfl
                 have hf791 := hf790.st hst576 rfl
                 have hf792 := hf791.st hst614 rfl
                 have hf793 := hf792.st hst666 rfl
                 have hf794 := hf793.st hst676 rfl
                 have hf795 := hf794.st hst689 rfl
                 have hf796 := hG15.st hst17 rfl
                 have hf797 := hf796.st hst46 rfl
                 have hf798 := hf797.st hst89 rfl
                 have hf799 := hf798.st hst100 rfl
                 have hf800 := hf799.st hst106 rfl
                 have hf801 := hf800.st hst182 rfl
                 have hf802 := hf801.st hst227 rfl
                 have hf803 := hf802.st hst480 rfl
                 have hf804 := hf803.st hst513 rfl
                 have hf805 := hf804.st hst515 rfl
                 have hf806 := hf805.st hst528 rfl
                 have hf807 := hf806.st hst570 rfl
                 have hf808 := hf807.st hst576 rfl
                 have hf809 := hf808.st hst614 rfl
                 have hf810 := hf809.st hst666 rfl
                 have hf811 := hf810.st hst676 rfl
                 have hf812 := hf811.st hst689 rfl
                 obtain ⟨r813, hp814, h⟩ := bnd h
                 refine WL.call (vals := [Value.agg (List.toArray [vi a0.win.ahead, vi a0.win.size]), vu d667]) kok31 rfl rfl (c_xor_window_holds (A := fun _ => True) (a0 := a0.win) hf795.at_ trivial hf812.at_ trivial hp814) ?_
                 rintro vr817 wd816 ⟨rfl, hm815⟩
                 obtain ⟨O818, hold819, hnew820, hst821⟩ := adoptE O687 (fun k => 1) hm815
                 refine WL.nil ?_
                 refine At.dq (Stp.up hst821 rfl) ?_
                 refine WD.y 15 rfl (by kernel_rfl) (fun _ _ _ => Y.pick (b := false) rfl rfl) rfl ?_
                 refine WD.ren 111 rfl (congrArg Value.bool hE747.symm) ?_
                 exact hJ746 (r813, O818) _ _ _ ⟨some1 h, (Stp.up hst821 rfl), rfl⟩ (.cons rfl (.cons rfl (.cons rfl (.cons rfl (.cons rfl .nil)))))
               ·rintro ⟨x740, O741⟩ _ wd742 ⟨rfl, hst743, rfl⟩
                replace h := hk745
                try dsimp only at h hst743
                refine (show WD _ _ _ _ _ _ _ _ [(0, Value.pointer (some ⟨b40, 0, none⟩)), (2, Value.pointer (some ⟨p103, 0, none⟩)), (8, Value.pointer (some ⟨p510, 0, none⟩)), (9, vu d667), (118, Value.bool x740)] _ _ from ?_)
                refine WD.done_ (by kernel_rfl) ?_
                refine At.then ?_
                rcases cnd h with ⟨hc825, h⟩ | ⟨hc825, h⟩
                ·refine WC.condT' rfl hc825 ?_
                 refine WC.region ?_
                 refine WL.y (Y.move rfl) rfl ?_
                 refine WL.y (Y.nilCheck rfl) rfl ?_
                 have hf826 := hb603.st hst666 rfl
                 have hf827 := hf826.st hst676 rfl
                 have hf828 := hf827.st hst689 rfl
                 have hf829 := hf828.st hst743 rfl
                 refine WL.store (v := vi 3) (cells' := [vi 3]) ty29 rfl rfl hf829 rfl (Nat.le_of_ble_eq_true rfl) rfl rfl ?_
                 intro wd830 hst831 hb832
                 refine WL.nil ?_
                 exact At.join (σ := (Int × Own)) (3, O741) ⟨some1 h, (Stp.trans (Stp.up hst676 rfl) (Stp.trans (Stp.up hst689 rfl) (Stp.trans (Stp.up hst743 rfl) (Stp.up hst831 rfl)))), hb832⟩ (.cons rfl (.cons rfl (.cons rfl .nil)))
                ·refine WC.condF' rfl hc825 ?_
                 refine WC.skip ?_
                 have hf833 := hb603.st hst666 rfl
                 have hf834 := hf833.st hst676 rfl
                 have hf835 := hf834.st hst689 rfl
                 have hf836 := hf835.st hst743 rfl
                 exact At.join (σ := (Int × Own)) (c604, O741) ⟨some1 h, (Stp.trans (Stp.up hst676 rfl) (Stp.trans (Stp.up hst689 rfl) (Stp.up hst743 rfl))), hf836⟩ (.cons rfl (.cons rfl (.cons rfl .nil)))
             ·rintro ⟨c669, O670⟩ wd671 ⟨rfl, hst672, hb668⟩
              replace h := hk674
              try dsimp only at h hst672 hb668
              refine (show At _ _ _ [(0, Value.pointer (some ⟨b40, 0, none⟩)), (8, Value.pointer (some ⟨p510, 0, none⟩)), (9, vu d667)] _ from ?_)
              refine At.then ?_
              refine WC.seq ?_
              refine WC.region ?_
              refine WL.y (Y.move rfl) rfl ?_
              have hf837 := hf657.st hst666 rfl
              have hf838 := hf837.st hst672 rfl
              refine WL.y (Y.loadAg ty60 rfl rfl (hf838.cells 0 [vi (w64 (x477.toNat : Int)), vi t567] rfl) rfl) rfl ?_
              refine WL.y (Y.nilCheck rfl) rfl ?_
              refine WL.y (Y.fieldAddr fo62_2 rfl) rfl ?_
              have hf839 := hf125.st hst182 rfl
              have hf840 := hf839.st hst227 rfl
              have hf841 := hf840.st hst480 rfl
              have hf842 := hf841.st hst513 rfl
              have hf843 := hf842.st hst515 rfl
              have hf844 := hf843.st hst528 rfl
              have hf845 := hf844.st hst570 rfl
              have hf846 := hf845.st hst576 rfl
              have hf847 := hf846.st hst614 rfl
              have hf848 := hf847.st hst666 rfl
              have hf849 := hf848.st hst672 rfl
              refine WL.store (v := Value.agg (List.toArray [vi (w64 (x477.toNat : Int)), vi t567])) (cells' := [vi a0.n, vu a0.last, vi (w64 (x477.toNat : Int)), vi t567]) ty60 rfl rfl hf849 rfl (Nat.le_of_ble_eq_true rfl) rfl rfl ?_
              intro wd850 hst851 hb852
              refine WL.nil ?_
              refine At.then ?_
              refine WC.seq ?_
              refine WC.region ?_
              refine WL.y (Y.move rfl) rfl ?_
              refine WL.y (Y.assign rfl) rfl ?_
              refine WL.nil ?_
              refine At.then ?_
              refine WC.ret ?_
              have hf853 := hf608.mono (imm_st hst666 rfl rfl)
              have hf854 := hf853.mono (imm_st hst672 rfl rfl)
              have hf855 := hf854.mono (imm_st hst851 rfl rfl)
              have hf856 := hb605.st hst666 rfl
              have hf857 := hf856.st hst672 rfl
              have hf858 := hf857.st hst851 rfl
              have hf859 := hb668.st hst851 rfl
              exact At.res (.inl rfl) rfl (.tmp rfl .nil) ⟨(w64 (x477.toNat : Int), t567, c606, c609, c610, c669, d667, O670, v607), ⟨some1 h, (Stp.trans (Stp.up hst182 rfl) (Stp.trans (Stp.up hst227 rfl) (Stp.trans (Stp.up hst480 rfl) (Stp.trans (Stp.up hst513 rfl) (Stp.trans (Stp.up hst515 rfl) (Stp.trans (Stp.up hst528 rfl) (Stp.trans (Stp.up hst570 rfl) (Stp.trans (Stp.up hst576 rfl) (Stp.trans (Stp.up hst614 rfl) (Stp.trans (Stp.up hst666 rfl) (Stp.trans (Stp.up hst672 rfl) (Stp.up hst851 rfl)))))))))))), hb852, hf855, hf858, hf859⟩, rfl⟩
  ·rintro ⟨c108, c109, c111, c114, c115, c117, x118, O119, v112⟩ wd120 ⟨rfl, hst121, hb107, hf113, hb110, hb116⟩
   replace h := hk123
   try dsimp only at h hst121 hb107 hf113 hb110 hb116
   refine (show WL _ _ _ _ _ ((16, vu x118) :: _) _ from ?_)
   refine WL.y (Y.assign rfl) rfl ?_
   refine WL.nil ?_
   refine At.then ?_
   refine WC.seq ?_
   refine WC.seq ?_
   refine WC.region ?_
   refine WL.y (Y.loadSc ty29 rfl rfl (hb116.cell 0 _ rfl)) rfl ?_
   refine WL.y (Y.neq_i rfl rfl) rfl ?_
   refine WL.nil ?_
   refine At.then ?_
   rcases cnd h with ⟨hc860, h⟩ | ⟨hc860, h⟩
   ·refine WC.condT' rfl hc860 ?_
    refine WC.seq ?_
    refine WC.draw 2 O119 fmix (by kernel_rfl) ?_
    intro wd861 hst862
    have hf863 := hb116.st hst862 rfl
    refine WS.y (Y.loadSc ty29 rfl rfl (hf863.cell 0 _ rfl)) rfl ?_
    refine WS.y (Y.assign (v := vu 0) rfl) rfl ?_
    refine WS.tail ?_
    refine WL.y (Y.assign rfl) rfl ?_
    refine WL.nil ?_
    refine At.then ?_
    refine WC.ret ?_
    refine At.thenR ?_
    obtain ⟨rfl, rfl, rfl, rfl⟩ := tup4 h
    have hs864 : Stp [11, 12, 13, 14, 15, 16, 1001, 1002] (Lg.OB b0 3 (Lg.OB b1 4 (Lg.O0 A))) w O119 wd861 := (Stp.trans (Stp.up hst17 rfl) (Stp.trans (Stp.up hst46 rfl) (Stp.trans (Stp.up hst89 rfl) (Stp.trans (Stp.up hst100 rfl) (Stp.trans (Stp.up hst106 rfl) (Stp.trans (Stp.up hst121 rfl) (Stp.up hst862 rfl)))))))
    have hf865 := hb11.st hst17 rfl
    have hf866 := hf865.st hst46 rfl
    have hf867 := hf866.st hst89 rfl
    have hf868 := hf867.st hst100 rfl
    have hf869 := hf868.st hst106 rfl
    have hf870 := hf869.st hst121 rfl
    have hf871 := hf870.st hst862 rfl
    have hf872 := hb13.st hst17 rfl
    have hf873 := hf872.st hst46 rfl
    have hf874 := hf873.st hst89 rfl
    have hf875 := hf874.st hst100 rfl
    have hf876 := hf875.st hst106 rfl
    have hf877 := hf876.st hst121 rfl
    have hf878 := hf877.st hst862 rfl
    have hf879 := hf93.mono (imm_st hst100 rfl rfl)
    have hf880 := hf879.mono (imm_st hst106 rfl rfl)
    have hf881 := hf880.mono (imm_st hst121 rfl rfl)
    have hf882 := hf881.mono (imm_st hst862 rfl rfl)
    exact At.res (.inl rfl) rfl (.tmp rfl (.tmp rfl .nil)) ⟨(Value.slice p94 m95 c96), rfl, (Stp.modL hs864 (sB sB1) rfl rfl), hf871.blk, (Sl.outI hf882 hs864 (lowB (lowB low0 rfl rfl) rfl rfl) (aB (aB O0_A rfl) rfl)), hf878.blk⟩
   ·refine WC.condF' rfl hc860 ?_
    refine WC.skip ?_
    refine At.then ?_
    refine WC.seq ?_
    refine WC.region ?_
    refine WL.y (Y.fieldAddr fo62_1 rfl) rfl ?_
    refine WL.y (Y.loadSc ty23 rfl rfl (hb107.cell 1 _ rfl)) rfl ?_
    refine WL.y (Y.move rfl) rfl ?_
    refine WL.y (Y.xor_u rfl rfl) rfl ?_
    refine WL.y (Y.fieldAddr fo62_1 rfl) rfl ?_
    obtain ⟨t883, ht883, h⟩ := lt1 h
    refine WL.ren 23 rfl (congrArg vu ht883.symm) ?_
    refine WL.store (v := vu t883) (cells' := [vi a0.n, vu t883, vi c108, vi c109]) ty23 rfl rfl hb107 rfl (Nat.le_of_ble_eq_true rfl) rfl rfl ?_
    intro wd884 hst885 hb886
    refine WL.nil ?_
    refine At.then ?_
    refine WC.seq ?_
    refine WC.region ?_
    refine WL.y (Y.fieldAddr fo62_0 rfl) rfl ?_
    refine WL.y (Y.loadSc ty3 rfl rfl (hb886.cell 0 _ rfl)) rfl ?_
    refine WL.y (Y.add_i rfl rfl) rfl ?_
    refine WL.y (Y.fieldAddr fo62_0 rfl) rfl ?_
    obtain ⟨t887, ht887, h⟩ := lt1 h
    refine WL.ren 27 rfl (congrArg vi ht887.symm) ?_
    refine WL.store (v := vi t887) (cells' := [vi t887, vu t883, vi c108, vi c109]) ty3 rfl rfl hb886 rfl (Nat.le_of_ble_eq_true rfl) rfl rfl ?_
    intro wd888 hst889 hb890
    refine WL.nil ?_
    refine At.then ?_
    refine WC.seq ?_
    refine WC.region ?_
    refine WL.y (Y.move rfl) rfl ?_
    have hf891 := hb110.st hst885 rfl
    have hf892 := hf891.st hst889 rfl
    have hf893 := hf113.mono (imm_st hst885 rfl rfl)
    have hf894 := hf893.mono (imm_st hst889 rfl rfl)
    obtain ⟨r895, hp896, h⟩ := bnd h
    refine WL.call (vals := [Value.pointer (some ⟨b42, 0, none⟩)]) kok14 rfl rfl (c_bitio_Reader_At (A := fun _ => True) (a0 := (bitio_Reader.mk c111 c114 c115)) (Sl.all hf894) hf892.blk trivial hp896) ?_
    rintro vr899 wd898 ⟨rfl, hm897⟩
    obtain ⟨O900, hold901, hnew902, hst903⟩ := adoptE O119 (fun k => 1) hm897
    refine WL.y (Y.move rfl) rfl ?_
    have hf904 := hb13.st hst17 rfl
    have hf905 := hf904.st hst46 rfl
    have hf906 := hf905.st hst89 rfl
    have hf907 := hf906.st hst100 rfl
    have hf908 := hf907.st hst106 rfl
    have hf909 := hf908.st hst121 rfl
    have hf910 := hf909.st hst885 rfl
    have hf911 := hf910.st hst889 rfl
    have hf912 := hf911.st hst903 rfl
    have hf913 := hf93.mono (imm_st hst100 rfl rfl)
    have hf914 := hf913.mono (imm_st hst106 rfl rfl)
    have hf915 := hf914.mono (imm_st hst121 rfl rfl)
    have hf916 := hf915.mono (imm_st hst885 rfl rfl)
    have hf917 := hf916.mono (imm_st hst889 rfl rfl)
    have hf918 := hf917.mono (imm_st hst903 rfl rfl)
    obtain ⟨r919, hp920, h⟩ := bnd h
    refine WL.call (vals := [Value.pointer (some ⟨b1, 0, none⟩)]) kok14 rfl rfl (c_bitio_Reader_At (A := fun _ => True) (a0 := a1) (Sl.all hf918) hf912.blk trivial hp920) ?_
    rintro vr923 wd922 ⟨rfl, hm921⟩
    obtain ⟨O924, hold925, hnew926, hst927⟩ := adoptE O900 (fun k => 1) hm921
    refine WL.y (Y.sub_i rfl rfl) rfl ?_
    have hf928 := hf912.st hst927 rfl
    have hf929 := hf918.mono (imm_st hst927 rfl rfl)
    obtain ⟨⟨r930, r931⟩, hp932, h⟩ := bnd h
    refine WL.call (vals := [Value.pointer (some ⟨b1, 0, none⟩), vi (w64 (r895 - r919))]) kok29 rfl rfl (c_bitio_Reader_Skip (A := imm O924) (a0 := a1) hf929 hf928.blk (fun k hk => imm_ne hf928.lab rfl k hk) hp932) ?_
    rintro vr938 wd937 ⟨z933, rfl, hm936, f934, f935⟩
    obtain ⟨O939, hold940, hnew941, hst942⟩ := adopt O924 (fun k => 1) [4] hm936 (memB hf928.lab rfl)
    have hf943 : Sl Rep.b wd937 (imm O939) z933 r931.b := Sl.adoptI (O := O924) f934 (fun _ hk => hk) (fun _ _ => Nat.le_refl _) hold940 hnew941
    have hb944 : Blk 4 O939 wd937 b1 58 [z933, vi r931.n, vi r931.at_] := Blk.adopt hf928 hold940 f935
    refine WL.nil ?_
    refine At.then ?_
    refine WC.seq ?_
    refine WC.region ?_
    refine WL.y (Y.move rfl) rfl ?_
    have hf945 := hb890.st hst903 rfl
    have hf946 := hf945.st hst927 rfl
    have hf947 := hf946.st hst942 rfl
    refine WL.y (Y.loadAg ty62 rfl rfl (hf947.cells 0 [vi t887, vu t883, vi c108, vi c109] rfl) rfl) rfl ?_
    refine WL.y (Y.nilCheck rfl) rfl ?_
    have hf948 := hb11.st hst17 rfl
    have hf949 := hf948.st hst46 rfl
    have hf950 := hf949.st hst89 rfl
    have hf951 := hf950.st hst100 rfl
    have hf952 := hf951.st hst106 rfl
    have hf953 := hf952.st hst121 rfl
    have hf954 := hf953.st hst885 rfl
    have hf955 := hf954.st hst889 rfl
    have hf956 := hf955.st hst903 rfl
    have hf957 := hf956.st hst927 rfl
    have hf958 := hf957.st hst942 rfl
    refine WL.store (v := Value.agg (List.toArray [vi t887, vu t883, vi c108, vi c109])) (cells' := [vi t887, vu t883, vi c108, vi c109]) ty62 rfl rfl hf958 rfl (Nat.le_of_ble_eq_true rfl) rfl rfl ?_
    intro wd959 hst960 hb961
    refine WL.nil ?_
    refine At.then ?_
    refine WC.seq ?_
    refine WC.region ?_
    refine WL.y (Y.move rfl) rfl ?_
    refine WL.y (Y.nilCheck rfl) rfl ?_
    refine WL.y (Y.fieldAddr fo62_1 rfl) rfl ?_
    refine WL.y (Y.loadSc ty23 rfl rfl (hb961.cell 1 _ rfl)) rfl ?_
    refine WL.y (Y.assign rfl) rfl ?_
    refine WL.y (Y.assign rfl) rfl ?_
    refine WL.nil ?_
    refine At.then ?_
    refine WC.ret ?_
    obtain ⟨rfl, rfl, rfl, rfl⟩ := tup4 h
    have hs962 : Stp [3, 4, 11, 12, 13, 14, 15, 16, 1001, 1002] (Lg.OB b0 3 (Lg.OB b1 4 (Lg.O0 A))) w O939 wd959 := (Stp.trans (Stp.up hst17 rfl) (Stp.trans (Stp.up hst46 rfl) (Stp.trans (Stp.up hst89 rfl) (Stp.trans (Stp.up hst100 rfl) (Stp.trans (Stp.up hst106 rfl) (Stp.trans (Stp.up hst121 rfl) (Stp.trans (Stp.up hst885 rfl) (Stp.trans (Stp.up hst889 rfl) (Stp.trans (Stp.up hst903 rfl) (Stp.trans (Stp.up hst927 rfl) (Stp.trans (Stp.up hst942 rfl) (Stp.up hst960 rfl))))))))))))
    have hf963 := hb944.st hst960 rfl
    have hf964 := hf943.mono (imm_st hst960 rfl rfl)
    exact At.res (.inl rfl) rfl (.tmp rfl (.tmp rfl .nil)) ⟨z933, rfl, (Stp.modL hs962 (sB sB1) rfl rfl), hb961.blk, (Sl.outI hf964 hs962 (lowB (lowB low0 rfl rfl) rfl rfl) (aB (aB O0_A rfl) rfl)), hf963.blk⟩

theorem c_bitio_Writer_Bytes {A : Nat → Prop} {v0_0 : Value} {a0 : bitio_Writer} {b0 : Nat} {w : World} (hs0_0 : Sl Rep.b w A v0_0 a0.b) (hb0 : w.heap[b0]? = some (.cells (List.toArray [v0_0, vi a0.n]) 64 (0, 0))) (hm0 : A b0) {r0 : List UInt8} (h : bitio_Writer_Bytes a0 = some r0) : Rets Tryd.prog 18 [Value.pointer (some ⟨b0, 0, none⟩)] w (fun v w' => ∃ (u0 : Value), v = u0 ∧ Ext w w' ∧ RowF Rep.b 5 w w' u0 r0) := by
 unfold bitio_Writer_Bytes at h
 refine Rets.enter Tryd.func18 rfl rfl ?_
 have hf11 : Sl Rep.b w (imm (Lg.O0 A)) v0_0 a0.b := (Sl.start hs0_0)
 have hb12 : Blk 0 (Lg.O0 A) w b0 64 [v0_0, vi a0.n] := ⟨(if_pos hm0), hb0⟩
 refine (show WC _ _ _ _ [(0, Value.pointer (some ⟨b0, 0, none⟩))] _ from ?_)
 refine WC.seq ?_
 refine WC.region ?_
 refine WL.y (Y.assign rfl) rfl ?_
 refine WL.nil ?_
 refine At.then ?_
 refine WC.seq ?_
 refine WC.region ?_
 refine WL.y (Y.move rfl) rfl ?_
 refine WL.y (Y.nilCheck rfl) rfl ?_
 refine WL.y (Y.fieldAddr fo64_0 rfl) rfl ?_
 refine WL.y (Y.loadSc ty27 rfl rfl (hb12.cell 0 _ rfl)) rfl ?_
 obtain ⟨r13, hp14, h⟩ := bnd h
 refine WL.call (vals := [v0_0]) kok23 rfl rfl (c_bytes_Clone (A := fun _ => True) (Sl.all hf11) hp14) ?_
 rintro vr19 wd18 ⟨_, rfl, hm17, f16⟩
 obtain ⟨O20, hold21, hnew22, hst23⟩ := adoptE (Lg.O0 A) (fun k => if Value.ownBlock vr19 = some k then 11 else 1) hm17
 have hf24 : OwnSl 11 Rep.b 5 O20 wd18 vr19 r13 := RowF.adopt 11 Flat.b f16 hnew22 (fun k hk => if_pos hk)
 refine WL.y (Y.assign rfl) rfl ?_
 refine WL.nil ?_
 refine At.then ?_
 refine WC.ret ?_
 obtain rfl := some1 h
 have hs25 : Stp [] (Lg.O0 A) w O20 wd18 := (Stp.up hst23 rfl)
 exact At.res (.inl rfl) rfl (.tmp rfl .nil) ⟨vr19, rfl, (Stp.ext hs25 rfl rfl), (OwnSl.outF hf24 hs25 low0 rfl)⟩

theorem c_ref01_Bytes {A : Nat → Prop} {a0 : List Int} {v0 : Value} {w : World} (hs0 : Sl Rep.i w A v0 a0) {r0 : List UInt8} (h : ref01_Bytes a0 = some r0) : Rets Tryd.prog 19 [v0] w (fun v w' => ∃ (u0 : Value), v = u0 ∧ Ext w w' ∧ RowF Rep.b 5 w w' u0 r0) := by
 unfold ref01_Bytes at h
 refine Rets.enter Tryd.func19 rfl rfl ?_
 have hf11 : Sl Rep.i w (imm (Lg.O0 A)) v0 a0 := (Sl.start hs0)
 refine (show WC _ _ _ _ [(0, v0)] _ from ?_)
 refine WC.seq ?_
 refine WC.region ?_
 refine WL.y (Y.assign rfl) rfl ?_
 refine WL.nil ?_
 refine At.then ?_
 refine WC.seq ?_
 refine WC.region ?_
 refine WL.y (Y.assign rfl) rfl ?_
 refine WL.nil ?_
 refine At.then ?_
 refine WC.seq ?_
 refine WC.seq ?_
 refine WC.region ?_
 refine WL.y (Y.assign rfl) rfl ?_
 refine WL.nil ?_
 refine At.then ?_
 refine WC.block ?_
 obtain ⟨p25, h, hk27⟩ := flow1 h
 obtain ⟨k26, h⟩ := loop_some h
 refine WC.joinB 0 (σ := (List UInt8 × Own × Value)) (fun x w' => p25 = .go x.1 ∧ Stp [12, 1001] (Lg.O0 A) w x.2.1 w' ∧ OwnSl 1002 Rep.b 5 x.2.1 w' x.2.2 x.1) (fun x => [(3, x.2.2)]) ?_ ?_
 ·refine WC.loop (σ := (List UInt8 × Int × Own × Value)) (fun x k w' => loopN k (ref01_Bytes_lp1 a0) (x.1, x.2.1) = some p25 ∧ Stp [12, 1001] (Lg.O0 A) w x.2.2.1 w' ∧ OwnSl 1001 Rep.b 5 x.2.2.1 w' x.2.2.2 x.1) (fun x => [(0, v0), (3, x.2.2.2), (4, vi x.2.1)]) ([], 0, (Lg.O0 A), Value.slice none 0 0) k26 (.cons rfl (.cons rfl (.cons rfl .nil))) ⟨h, (Stp.refl _ _ _), (OwnSl.nil 1001 Rep.b 5)⟩ ?_
  rintro ⟨out12, i15, O16, v13⟩ k26 wd17 ⟨h, hst18, hf14⟩
  obtain ⟨j28, q29, rfl, h, hn30⟩ := rnd1 h
  unfold ref01_Bytes_lp1 at h
  try dsimp only at h hst18 hf14
  refine (show WC _ _ _ _ [(0, v0), (3, v13), (4, vi i15)] _ from ?_)
  refine WC.seq ?_
  refine WC.seq ?_
  refine WC.region ?_
  refine WL.y (Y.move rfl) rfl ?_
  refine WL.y (Y.move rfl) rfl ?_
  have hf31 := hf11.mono (imm_st hst18 rfl rfl)
  refine WL.y (Y.len ty32 rfl hf31) rfl ?_
  refine WL.y (Y.lss_i rfl rfl) rfl ?_
  refine WL.nil ?_
  refine At.then ?_
  rcases cnd h with ⟨hc32, h⟩ | ⟨hc32, h⟩
  ·refine WC.condT' rfl hc32 ?_
   refine WC.skip ?_
   refine At.then ?_
   refine WC.seq ?_
   refine WC.block ?_
   refine WC.seq ?_
   refine WC.region ?_
   refine WL.y (Y.assign rfl) rfl ?_
   refine WL.nil ?_
   refine At.then ?_
   refine WC.seq ?_
   refine WC.seq ?_
   refine WC.region ?_
   refine WL.y (Y.assign rfl) rfl ?_
   refine WL.nil ?_
   refine At.then ?_
   obtain ⟨p34, h, hk35⟩ := bnd h
   refine WC.join (σ := Int) (fun x w' => x = p34 ∧ wd17 = w') (fun x => [(0, v0), (3, v13), (4, vi i15), (5, vi x)]) ?_ ?_
   ·refine WC.block ?_
    obtain ⟨p39, h, hk41⟩ := flow1 h
    obtain ⟨k40, h⟩ := loop_some h
    refine WC.joinB 2 (σ := Int) (fun x w' => p39 = .go x ∧ wd17 = w') (fun x => [(0, v0), (3, v13), (4, vi i15), (5, vi x)]) ?_ ?_
    ·refine WC.loop (σ := (Int × Int)) (fun x k w' => loopN k (ref01_Bytes_lp2 a0 i15) (x.1, x.2) = some p39 ∧ wd17 = w') (fun x => [(0, v0), (3, v13), (4, vi i15), (5, vi x.1), (6, vi x.2)]) (0, 0) k40 (.cons rfl (.cons rfl (.cons rfl (.cons rfl (.cons rfl .nil))))) ⟨h, rfl⟩ ?_
     rintro ⟨x36, k37⟩ k40 _ ⟨h, rfl⟩
     obtain ⟨j42, q43, rfl, h, hn44⟩ := rnd1 h
     unfold ref01_Bytes_lp2 at h
     try dsimp only at h
     refine (show WC _ _ _ _ [(0, v0), (3, v13), (4, vi i15), (5, vi x36), (6, vi k37)] _ from ?_)
     refine WC.seq ?_
     refine WC.seq ?_
     refine WC.region ?_
     refine WL.y (Y.move rfl) rfl ?_
     refine WL.y (Y.lss_i rfl rfl) rfl ?_
     refine WL.nil ?_
     refine At.then ?_
     rcases cnd h with ⟨hc45, h⟩ | ⟨hc45, h⟩
     ·refine WC.condT' rfl hc45 ?_
      refine WC.skip ?_
      refine At.then ?_
      refine WC.seq ?_
      obtain ⟨p47, h, hk48⟩ := bnd h
      refine WC.join (σ := Int) (fun x w' => x = p47 ∧ wd17 = w') (fun x => [(0, v0), (3, v13), (4, vi i15), (5, vi x), (6, vi k37)]) ?_ ?_
      ·refine WC.block ?_
       refine WC.seq ?_
       refine WC.region ?_
       refine WL.y (Y.move rfl) rfl ?_
       refine WL.y (Y.mul_i rfl rfl) rfl ?_
       obtain ⟨x49, hx49, h⟩ := lt1 h
       refine WL.yE (Y.assign rfl) (congrArg vi hx49.symm) rfl ?_
       refine WL.nil ?_
       refine At.then ?_
       refine WC.seq ?_
       refine WC.region ?_
       refine WL.y (Y.move rfl) rfl ?_
       refine WL.y (Y.move rfl) rfl ?_
       refine WL.y (Y.add_i rfl rfl) rfl ?_
       refine WL.y (Y.move rfl) rfl ?_
       refine WL.y (Y.len ty32 rfl hf31) rfl ?_
       refine WL.y (Y.lss_i rfl rfl) rfl ?_
       refine WL.nil ?_
       refine At.then ?_
       rcases cnd h with ⟨hc50, h⟩ | ⟨hc50, h⟩
       ·refine WC.condT' rfl hc50 ?_
        refine WC.region ?_
        refine WL.y (Y.move rfl) rfl ?_
        refine WL.y (Y.move rfl) rfl ?_
        refine WL.y (Y.move rfl) rfl ?_
        refine WL.y (Y.move rfl) rfl ?_
        refine WL.y (Y.add_i rfl rfl) rfl ?_
        obtain ⟨e51, he51, h⟩ := bnd h
        obtain ⟨b52, off60, cap59, cs58, hv53, hi54, hl55, hc56, hok57, hA61⟩ := Sl.at2 hf31 he51
        obtain rfl := hok57
        replace hc56 : CellsAt _ _ _ [vi e51] := hc56
        have hca62 := CAt.imm hc56 hA61
        refine WL.y (Y.indexAddr ty32 ty3 rfl hv53 rfl hi54 hl55) rfl ?_
        refine WL.y (Y.loadSc ty3 rfl rfl hca62.at_) rfl ?_
        refine WL.y (Y.add_i rfl rfl) rfl ?_
        obtain ⟨x63, hx63, h⟩ := lt1 h
        refine WL.yE (Y.assign rfl) (congrArg vi hx63.symm) rfl ?_
        refine WL.nil ?_
        refine At.inBlock ?_
        exact At.join (σ := Int) x63 ⟨some1 h, rfl⟩ (.cons rfl (.cons rfl (.cons rfl (.cons rfl (.cons rfl .nil)))))
       ·refine WC.condF' rfl hc50 ?_
        refine WC.skip ?_
        refine At.inBlock ?_
        exact At.join (σ := Int) x49 ⟨some1 h, rfl⟩ (.cons rfl (.cons rfl (.cons rfl (.cons rfl (.cons rfl .nil)))))
      ·rintro x46 _ ⟨rfl, rfl⟩
       replace h := hk48
       try dsimp only at h
       refine (show At _ _ _ [(0, v0), (3, v13), (4, vi i15), (5, vi x46), (6, vi k37)] _ from ?_)
       refine At.then ?_
       refine WC.region ?_
       refine WL.y (Y.move rfl) rfl ?_
       refine WL.y (Y.add_i rfl rfl) rfl ?_
       obtain ⟨k64, hk64, h⟩ := lt1 h
       refine WL.yE (Y.assign rfl) (congrArg vi hk64.symm) rfl ?_
       refine WL.nil ?_
       exact At.round (x46, k64) j42 (Nat.lt_succ_self _) ⟨next1 h hn44, rfl⟩ (.cons rfl (.cons rfl (.cons rfl (.cons rfl (.cons rfl .nil)))))
     ·refine WC.condF' rfl hc45 ?_
      refine WC.exit ?_
      refine At.thenX ?_
      refine At.loopX ?_
      exact At.hitB (σ := Int) x36 ⟨brk1 h hn44, rfl⟩ (.cons rfl (.cons rfl (.cons rfl (.cons rfl .nil))))
    ·rintro x38 _ ⟨rfl, rfl⟩
     replace h := flowK_go hk41
     try dsimp only at h
     refine (show At _ _ _ [(0, v0), (3, v13), (4, vi i15), (5, vi x38)] _ from ?_)
     refine At.inBlockHit ?_
     exact At.join (σ := Int) x38 ⟨some1 h, rfl⟩ (.cons rfl (.cons rfl (.cons rfl (.cons rfl .nil))))
   ·rintro x33 _ ⟨rfl, rfl⟩
    replace h := hk35
    try dsimp only at h
    refine (show At _ _ _ [(0, v0), (3, v13), (4, vi i15), (5, vi x33)] _ from ?_)
    refine At.then ?_
    refine WC.region ?_
    refine WL.y (Y.move rfl) rfl ?_
    refine WL.y (Y.move rfl) rfl ?_
    refine WL.y (Y.conv_ib ty3.u ty5.u rfl) rfl ?_
    refine WL.buildSlice (O := O16) (R := Rep.b) (vals := [(0, vb (toU8 x33))]) 11 [vb (toU8 x33)] (xs := [toU8 x33]) (by decide) ty27 ty5 (by decide) (by decide) (Fits.evalp rfl) (by kernel_rfl) rfl ⟨[vb (toU8 x33)], [], rfl, rfl, rfl⟩ rfl ?_
    intro v65 O67 wd68 hst69 ho66
    obtain ⟨xs70, hxs70, h⟩ := bnd h
    have hf71 := hf14.st hst69 rfl rfl rfl
    refine WL.append (by decide) ty27 ty5 rfl (by decide) rfl rfl hf71 ho66.src hxs70 rfl ?_
    intro v75 O72 wd73 hst74 ho76
    refine WL.y (Y.assign rfl) rfl ?_
    refine WL.nil ?_
    refine At.inBlock ?_
    refine At.then ?_
    refine WC.region ?_
    refine WL.y (Y.move rfl) rfl ?_
    refine WL.y (Y.add_i rfl rfl) rfl ?_
    obtain ⟨i77, hi77, h⟩ := lt1 h
    refine WL.yE (Y.assign rfl) (congrArg vi hi77.symm) rfl ?_
    refine WL.nil ?_
    exact At.round (xs70, i77, O72, v75) j28 (Nat.lt_succ_self _) ⟨next1 h hn30, (Stp.trans (Stp.up hst18 rfl) (Stp.trans (Stp.up hst69 rfl) (Stp.up hst74 rfl))), ho76⟩ (.cons rfl (.cons rfl (.cons rfl .nil)))
  ·refine WC.condF' rfl hc32 ?_
   refine WC.exit ?_
   refine At.thenX ?_
   refine At.loopX ?_
   obtain ⟨O78, hst79, ho80⟩ := OwnSl.rlb 1002 rfl hf14
   exact At.hitB (σ := (List UInt8 × Own × Value)) (out12, O78, v13) ⟨brk1 h hn30, (Stp.trans (Stp.up hst18 rfl) (Stp.up hst79 rfl)), ho80⟩ (.cons rfl .nil)
 ·rintro ⟨out19, O22, v20⟩ wd23 ⟨rfl, hst24, hf21⟩
  replace h := flowK_go hk27
  try dsimp only at h hst24 hf21
  refine (show At _ _ _ [(3, v20)] _ from ?_)
  refine At.inBlockHit ?_
  refine At.then ?_
  refine WC.seq ?_
  refine WC.region ?_
  refine WL.y (Y.move rfl) rfl ?_
  refine WL.y (Y.assign rfl) rfl ?_
  refine WL.nil ?_
  refine At.then ?_
  refine WC.ret ?_
  obtain rfl := some1 h
  have hs81 : Stp [12, 1001] (Lg.O0 A) w O22 wd23 := (Stp.up hst24 rfl)
  exact At.res (.inl rfl) rfl (.tmp rfl .nil) ⟨v20, rfl, (Stp.ext hs81 rfl rfl), (OwnSl.outF hf21 hs81 low0 rfl)⟩

theorem c_xor_Row_Clone {A : Nat → Prop} {a0 : xor_Row} {b0 : Nat} {w : World} (hb0 : w.heap[b0]? = some (.cells (List.toArray [vi a0.n, vu a0.last, vi a0.win.ahead, vi a0.win.size]) 62 (0, 0))) (hm0 : A b0) {r0 : xor_Row} (h : xor_Row_Clone a0 = some r0) : Rets Tryd.prog 20 [Value.pointer (some ⟨b0, 0, none⟩)] w (fun v w' => ∃ (p0 : Nat), v = Value.pointer (some ⟨p0, 0, none⟩) ∧ Ext w w' ∧ (w'.heap[p0]? = some (.cells (List.toArray [vi r0.n, vu r0.last, vi r0.win.ahead, vi r0.win.size]) 62 (0, 0)) ∧ w.heap.size ≤ p0)) := by
 unfold xor_Row_Clone at h
 refine Rets.enter Tryd.func20 rfl rfl ?_
 have hb11 : Blk 0 (Lg.O0 A) w b0 62 [vi a0.n, vu a0.last, vi a0.win.ahead, vi a0.win.size] := ⟨(if_pos hm0), hb0⟩
 refine (show WC _ _ _ _ [(0, Value.pointer (some ⟨b0, 0, none⟩))] _ from ?_)
 refine WC.seq ?_
 refine WC.region ?_
 refine WL.y (Y.assign rfl) rfl ?_
 refine WL.nil ?_
 refine At.then ?_
 refine WC.seq ?_
 refine WC.region ?_
 refine WL.y (Y.move rfl) rfl ?_
 refine WL.y (Y.nilCheck rfl) rfl ?_
 refine WL.y (Y.loadAg ty62 rfl rfl (hb11.cells 0 [vi a0.n, vu a0.last, vi a0.win.ahead, vi a0.win.size] rfl) rfl) rfl ?_
 refine WL.alloc (O := (Lg.O0 A)) 11 [vi 0, vu 0, vi 0, vi 0] ty62 rfl rfl ?_
 intro p13 O14 wd15 hst16 hb12
 refine WL.store (v := Value.agg (List.toArray [vi a0.n, vu a0.last, vi a0.win.ahead, vi a0.win.size])) (cells' := [vi a0.n, vu a0.last, vi a0.win.ahead, vi a0.win.size]) ty62 rfl rfl hb12 rfl (Nat.le_of_ble_eq_true rfl) rfl rfl ?_
 intro wd17 hst18 hb19
 refine WL.nil ?_
 refine At.then ?_
 refine WC.seq ?_
 refine WC.region ?_
 refine WL.y (Y.assign rfl) rfl ?_
 refine WL.nil ?_
 refine At.then ?_
 refine WC.ret ?_
 obtain rfl := some1 h
 have hs20 : Stp [11] (Lg.O0 A) w O14 wd17 := (Stp.trans (Stp.up hst16 rfl) (Stp.up hst18 rfl))
 exact At.res (.inl rfl) rfl (.tmp rfl .nil) ⟨p13, rfl, (Stp.ext hs20 rfl rfl), (Blk.outF hb19 hs20 low0 rfl)⟩

theorem c_ref07_with {A : Nat → Prop} {v0_0 : Value} {a0 : ref07_State} {a1 : UInt64} {a2 : ref07_Window} {w : World} (hs0_0 : Sl Rep.u w A v0_0 a0.L) {r0 : ref07_State} (h : ref07_with a0 a1 a2 = some r0) : Rets Tryd.prog 25 [Value.agg (List.toArray [v0_0, vi a0.W.From, vi a0.W.Size]), vu a1, Value.agg (List.toArray [vi a2.From, vi a2.Size])] w (fun v w' => ∃ (u0_0 : Value), v = Value.agg (List.toArray [u0_0, vi r0.W.From, vi r0.W.Size]) ∧ Ext w w' ∧ Sl Rep.u w' (fun k => w.heap.size ≤ k) u0_0 r0.L) := by
 unfold ref07_with at h
 refine Rets.enter Tryd.func25 rfl rfl ?_
 have hf11 : Sl Rep.u w (imm (Lg.O0 A)) v0_0 a0.L := (Sl.start hs0_0)
 refine (show WC _ _ _ _ [(0, Value.agg (List.toArray [v0_0, vi a0.W.From, vi a0.W.Size])), (1, vu a1), (2, Value.agg (List.toArray [vi a2.From, vi a2.Size]))] _ from ?_)
 refine WC.seq ?_
 refine WC.region ?_
 have hh15 := h
 obtain ⟨p12, m13, c14, rfl⟩ := hf11.shape
 have h := hh15
 refine WL.box (O := (Lg.O0 A)) 11 [(Value.slice p12 m13 c14), vi a0.W.From, vi a0.W.Size] rfl rfl rfl ?_
 intro p17 O18 wd19 hst20 hb16
 refine WL.box (O := O18) 12 [vi a2.From, vi a2.Size] rfl rfl rfl ?_
 intro p22 O23 wd24 hst25 hb21
 refine WL.alloc (O := O23) 13 [Value.slice none 0 0, vi 0, vi 0] ty41 rfl rfl ?_
 intro p27 O28 wd29 hst30 hb26
 refine WL.nil ?_
 refine At.then ?_
 refine WC.seq ?_
 refine WC.region ?_
 refine WL.y (Y.assign rfl) rfl ?_
 refine WL.nil ?_
 refine At.then ?_
 refine WC.seq ?_
 refine WC.region ?_
 refine WL.y (Y.move rfl) rfl ?_
 refine WL.y (Y.fieldAddr fo41_0 rfl) rfl ?_
 have hf31 := hb16.st hst25 rfl
 have hf32 := hf31.st hst30 rfl
 refine WL.y (Y.loadSc ty22 rfl rfl (hf32.cell 0 _ rfl)) rfl ?_
 obtain ⟨xs33, hxs33, h⟩ := bnd h
 have hf34 := hf11.mono (imm_st hst20 rfl rfl)
 have hf35 := hf34.mono (imm_st hst25 rfl rfl)
 have hf36 := hf35.mono (imm_st hst30 rfl rfl)
 have ho37 := OwnSl.nil (O := O28) (w := wd29) 14 Rep.u 23
 refine WL.append (by decide) ty22 ty23 rfl (by decide) rfl rfl ho37 (Sl.src hf36) hxs33 rfl ?_
 intro v41 O38 wd39 hst40 ho42
 refine WL.y (Y.assign rfl) rfl ?_
 refine WL.nil ?_
 refine At.then ?_
 refine WC.seq ?_
 refine WC.drawH [14] [0, 1, 2, 3, 4, 5] O38 7 fmix rfl (by kernel_rfl) ?_
 intro wd43 hst44
 refine WD.y 0 rfl (by kernel_rfl) (fun _ _ _ => Y.move rfl) rfl ?_
 refine WD.y 1 rfl (by kernel_rfl) (fun _ _ _ => Y.move rfl) rfl ?_
 refine WD.y 4 rfl (by kernel_rfl) (fun wd52 O51 hst53 => have hf54 := hb21.st hst30 rfl; have hf55 := hf54.st hst40 rfl; have hf56 := hf55.st hst44 rfl; have hf57 := hf56.st hst53 rfl; Y.loadAg ty39 rfl rfl (hf57.cells 0 [vi a2.From, vi a2.Size] rfl) rfl) rfl ?_
 refine WD.heavy 2 rfl (by kernel_rfl) ?_
 refine WL.buildSlice (O := O38) (R := Rep.u) (vals := [(0, vu a1)]) 15 [vu a1] (xs := [a1]) (by decide) ty22 ty23 (by decide) (by decide) (Fits.evalp rfl) (by kernel_rfl) rfl ⟨[vu a1], [], rfl, rfl, rfl⟩ rfl ?_
 intro v58 O60 wd61 hst62 ho59
 refine WL.nil ?_
 refine At.dq (Stp.up hst62 rfl) ?_
 refine WD.heavy 3 rfl (by kernel_rfl) ?_
 obtain ⟨xs63, hxs63, h⟩ := bnd h
 have hf64 := ho42.st hst44 rfl rfl rfl
 have hf65 := hf64.st hst62 rfl rfl rfl
 refine WL.append (by decide) ty22 ty23 rfl (by decide) rfl rfl hf65 ho59.src hxs63 rfl ?_
 intro v69 O66 wd67 hst68 ho70
 refine WL.nil ?_
 refine At.dq (Stp.up hst68 rfl) ?_
 have hh74 := h
 obtain ⟨p71, m72, c73, rfl⟩ := ho70.shape
 have h := hh74
 refine WD.y 5 rfl (by kernel_rfl) (fun _ _ _ => Y.build (vals := [(0, (Value.slice p71 m72 c73)), (1, Value.agg (List.toArray [vi a2.From, vi a2.Size]))]) (cells := [(Value.slice p71 m72 c73), vi a2.From, vi a2.Size]) (Fits.evalp rfl) (by kernel_rfl)) rfl ?_
 refine WD.phase [13] [0, 1, 2, 3, 4, 5, 6] (by kernel_rfl) (by kernel_rfl) ?_
 refine WD.heavy 6 rfl (by kernel_rfl) ?_
 have hf78 := hb26.st hst40 rfl
 have hf79 := hf78.st hst44 rfl
 have hf80 := hf79.st hst62 rfl
 have hf81 := hf80.st hst68 rfl
 refine WL.store (v := Value.agg (List.toArray [(Value.slice p71 m72 c73), vi a2.From, vi a2.Size])) (cells' := [(Value.slice p71 m72 c73), vi a2.From, vi a2.Size]) ty41 rfl rfl hf81 rfl (Nat.le_of_ble_eq_true rfl) rfl rfl ?_
 intro wd82 hst83 hb84
 refine WL.nil ?_
 refine At.dq (Stp.up hst83 rfl) ?_
 refine WD.done_ (by kernel_rfl) ?_
 refine At.then ?_
 refine WC.ret ?_
 obtain rfl := some1 h
 have hf85 := ho70.st hst83 rfl rfl rfl
 obtain ⟨O86, hst87, hf88⟩ := OwnSl.giveF rfl Flat.u hf85
 have hs89 : Stp [13, 14] (Lg.O0 A) w O86 wd82 := (Stp.trans (Stp.up hst20 rfl) (Stp.trans (Stp.up hst25 rfl) (Stp.trans (Stp.up hst30 rfl) (Stp.trans (Stp.up hst40 rfl) (Stp.trans (Stp.up hst44 rfl) (Stp.trans (Stp.up hst62 rfl) (Stp.trans (Stp.up hst68 rfl) (Stp.trans (Stp.up hst83 rfl) (Stp.up hst87 rfl)))))))))
 have hf90 := hb84.st hst87 rfl
 exact At.res (.inl rfl) rfl (.cell rfl (hf90.runAg 0 [(Value.slice p71 m72 c73), vi a2.From, vi a2.Size] ty41 rfl rfl rfl) .nil) ⟨(Value.slice p71 m72 c73), rfl, (Stp.ext hs89 rfl rfl), (Sl.outF hf88 hs89 low0)⟩

theorem c_ref07_last {A : Nat → Prop} {v0_0 : Value} {a0 : ref07_State} {w : World} (hs0_0 : Sl Rep.u w A v0_0 a0.L) {r0 : UInt64} (h : ref07_last a0 = some r0) : Rets Tryd.prog 26 [Value.agg (List.toArray [v0_0, vi a0.W.From, vi a0.W.Size])] w (fun v w' => v = vu r0 ∧ Ext w w') := by
 unfold ref07_last at h
 refine Rets.enter Tryd.func26 rfl rfl ?_
 have hf11 : Sl Rep.u w (imm (Lg.O0 A)) v0_0 a0.L := (Sl.start hs0_0)
 refine (show WC _ _ _ _ [(0, Value.agg (List.toArray [v0_0, vi a0.W.From, vi a0.W.Size]))] _ from ?_)
 refine WC.seq ?_
 refine WC.region ?_
 have hh15 := h
 obtain ⟨p12, m13, c14, rfl⟩ := hf11.shape
 have h := hh15
 refine WL.box (O := (Lg.O0 A)) 11 [(Value.slice p12 m13 c14), vi a0.W.From, vi a0.W.Size] rfl rfl rfl ?_
 intro p17 O18 wd19 hst20 hb16
 refine WL.y (Y.assign (v := vu 0) rfl) rfl ?_
 refine WL.nil ?_
 refine At.then ?_
 refine WC.seq ?_
 refine WC.seq ?_
 refine WC.region ?_
 refine WL.y (Y.fieldAddr fo41_0 rfl) rfl ?_
 refine WL.y (Y.loadSc ty22 rfl rfl (hb16.cell 0 _ rfl)) rfl ?_
 have hf21 := hf11.mono (imm_st hst20 rfl rfl)
 refine WL.y (Y.len ty22 rfl hf21) rfl ?_
 refine WL.y (Y.eql_i rfl rfl) rfl ?_
 refine WL.nil ?_
 refine At.then ?_
 rcases cnd h with ⟨hc22, h⟩ | ⟨hc22, h⟩
 ·refine WC.condT' rfl hc22 ?_
  refine WC.seq ?_
  refine WC.region ?_
  refine WL.y (Y.assign (v := vu 0) rfl) rfl ?_
  refine WL.nil ?_
  refine At.then ?_
  refine WC.ret ?_
  refine At.thenR ?_
  obtain rfl := some1 h
  have hs23 : Stp [] (Lg.O0 A) w O18 wd19 := (Stp.up hst20 rfl)
  exact At.res (.inl rfl) rfl (.tmp rfl .nil) ⟨rfl, (Stp.ext hs23 rfl rfl)⟩
 ·refine WC.condF' rfl hc22 ?_
  refine WC.skip ?_
  refine At.then ?_
  refine WC.seq ?_
  refine WC.region ?_
  refine WL.y (Y.fieldAddr fo41_0 rfl) rfl ?_
  refine WL.y (Y.loadSc ty22 rfl rfl (hb16.cell 0 _ rfl)) rfl ?_
  refine WL.y (Y.fieldAddr fo41_0 rfl) rfl ?_
  refine WL.y (Y.loadSc ty22 rfl rfl (hb16.cell 0 _ rfl)) rfl ?_
  refine WL.y (Y.len ty22 rfl hf21) rfl ?_
  refine WL.y (Y.sub_i rfl rfl) rfl ?_
  obtain ⟨e24, he24, h⟩ := bnd h
  obtain ⟨b25, off33, cap32, cs31, hv26, hi27, hl28, hc29, hok30, hA34⟩ := Sl.at2 hf21 he24
  obtain rfl := hok30
  replace hc29 : CellsAt _ _ _ [vu e24] := hc29
  have hca35 := CAt.imm hc29 hA34
  refine WL.y (Y.indexAddr ty22 ty23 rfl hv26 rfl hi27 hl28) rfl ?_
  refine WL.y (Y.loadSc ty23 rfl rfl hca35.at_) rfl ?_
  refine WL.y (Y.assign rfl) rfl ?_
  refine WL.nil ?_
  refine At.then ?_
  refine WC.ret ?_
  obtain rfl := some1 h
  have hs36 : Stp [] (Lg.O0 A) w O18 wd19 := (Stp.up hst20 rfl)
  exact At.res (.inl rfl) rfl (.tmp rfl .nil) ⟨rfl, (Stp.ext hs36 rfl rfl)⟩

theorem c_ref01_Row {a0 : UInt64} {a1 : Int} {w : World} {r0 : List Int} {r1 : Bool} (h : ref01_Row a0 a1 = some (r0, r1)) : Rets Tryd.prog 37 [vu a0, vi a1] w (fun v w' => ∃ (u0 : Value), v = Value.tuple (List.toArray [u0, Value.bool r1]) ∧ Ext w w' ∧ RowF Rep.i 3 w w' u0 r0) := by
 unfold ref01_Row at h
 refine Rets.enter Tryd.func37 rfl rfl ?_
 refine (show WC _ _ _ _ [(0, vu a0), (1, vi a1)] _ from ?_)
 refine WC.seq ?_
 refine WC.region ?_
 refine WL.y (Y.assign rfl) rfl ?_
 refine WL.y (Y.assign rfl) rfl ?_
 refine WL.nil ?_
 refine At.then ?_
 refine WC.seq ?_
 refine WC.seq ?_
 refine WC.region ?_
 refine WL.y (Y.move rfl) rfl ?_
 refine WL.y (Y.lss_i rfl rfl) rfl ?_
 refine WL.y (Y.move rfl) rfl ?_
 refine WL.cut 3 (σ := Unit) (fun _ w' => w = w') (fun _ => [(0, vu a0), (1, vi a1), (13, Value.bool ((decide (a1 < 0)) || (decide (64 < a1))))]) ?_ ?_
 ·refine WL.part 10 rfl (fun hE11 => ?_) (fun hE11 => ?_)
  ·refine WL.gS rfl rfl rfl rfl ?_
   refine WL.gS rfl rfl rfl rfl ?_
   refine WL.y (Y.pick (b := true) rfl rfl) rfl ?_
   refine WL.ren (v' := Value.bool ((decide (a1 < 0)) || (decide (64 < a1)))) 13 rfl (congrArg Value.bool (orT hE11)) ?_
   exact WL.nil (At.join () rfl (.cons rfl (.cons rfl (.cons rfl .nil))))
  ·refine WL.ung rfl rfl ?_
   refine WL.y (Y.move rfl) rfl ?_
   refine WL.ung rfl rfl ?_
   refine WL.y (Y.gtr_i rfl rfl) rfl ?_
   refine WL.y (Y.pick (b := false) rfl rfl) rfl ?_
   refine WL.ren (v' := Value.bool ((decide (a1 < 0)) || (decide (64 < a1)))) 13 rfl (congrArg Value.bool (orF hE11)) ?_
   exact WL.nil (At.join () rfl (.cons rfl (.cons rfl (.cons rfl .nil))))
 ·rintro _ _ rfl
  refine (show WL _ _ _ _ _ [(0, vu a0), (1, vi a1), (13, Value.bool ((decide (a1 < 0)) || (decide (64 < a1))))] _ from ?_)
  refine WL.nil ?_
  refine At.then ?_
  rcases cnd h with ⟨hc12, h⟩ | ⟨hc12, h⟩
  ·refine WC.condT' rfl hc12 ?_
   refine WC.seq ?_
   refine WC.region ?_
   refine WL.y (Y.assign rfl) rfl ?_
   refine WL.y (Y.assign rfl) rfl ?_
   refine WL.nil ?_
   refine At.then ?_
   refine WC.ret ?_
   refine At.thenR ?_
   obtain ⟨rfl, rfl⟩ := tup2 h
   have hs13 : Stp [] (Lg.O0 (fun _ => False)) w (Lg.O0 (fun _ => False)) w := (Stp.refl _ _ _)
   exact At.res (.inl rfl) rfl (.tmp rfl (.tmp rfl .nil)) ⟨Value.slice none 0 0, rfl, (Stp.ext hs13 rfl rfl), RowF.nil⟩
  ·refine WC.condF' rfl hc12 ?_
   refine WC.skip ?_
   refine At.then ?_
   refine WC.seq ?_
   refine WC.region ?_
   refine WL.y (Y.assign rfl) rfl ?_
   refine WL.nil ?_
   refine At.then ?_
   refine WC.seq ?_
   refine WC.seq ?_
   refine WC.region ?_
   refine WL.y (Y.assign rfl) rfl ?_
   refine WL.nil ?_
   refine At.then ?_
   refine WC.block ?_
   obtain ⟨p29, h, hk31⟩ := flow1 h
   obtain ⟨k30, h⟩ := loop_some h
   refine WC.joinB 0 (σ := (UInt64 × List Int × Own × Value)) (fun x w' => p29 = .go (x.1, x.2.1) ∧ Stp [11, 1001] (Lg.O0 (fun _ => False)) w x.2.2.1 w' ∧ OwnSl 1002 Rep.i 3 x.2.2.1 w' x.2.2.2 x.2.1) (fun x => [(0, vu x.1), (6, x.2.2.2)]) ?_ ?_
   ·refine WC.loop (σ := (UInt64 × List Int × Int × Own × Value)) (fun x k w' => loopN k (ref01_Row_lp1 a1) (x.1, x.2.1, x.2.2.1) = some p29 ∧ Stp [11] (Lg.O0 (fun _ => False)) w x.2.2.2.1 w' ∧ OwnSl 1001 Rep.i 3 x.2.2.2.1 w' x.2.2.2.2 x.2.1) (fun x => [(0, vu x.1), (1, vi a1), (6, x.2.2.2.2), (7, vi x.2.2.1)]) (a0, [], 0, (Lg.O0 (fun _ => False)), Value.slice none 0 0) k30 (.cons rfl (.cons rfl (.cons rfl (.cons rfl .nil)))) ⟨h, (Stp.refl _ _ _), (OwnSl.nil 1001 Rep.i 3)⟩ ?_
    rintro ⟨v14, out15, i18, O19, v16⟩ k30 wd20 ⟨h, hst21, hf17⟩
    obtain ⟨j32, q33, rfl, h, hn34⟩ := rnd1 h
    unfold ref01_Row_lp1 at h
    try dsimp only at h hst21 hf17
    refine (show WC _ _ _ _ [(0, vu v14), (1, vi a1), (6, v16), (7, vi i18)] _ from ?_)
    refine WC.seq ?_
    refine WC.seq ?_
    refine WC.region ?_
    refine WL.y (Y.move rfl) rfl ?_
    refine WL.y (Y.move rfl) rfl ?_
    refine WL.y (Y.lss_i rfl rfl) rfl ?_
    refine WL.nil ?_
    refine At.then ?_
    rcases cnd h with ⟨hc35, h⟩ | ⟨hc35, h⟩
    ·refine WC.condT' rfl hc35 ?_
     refine WC.skip ?_
     refine At.then ?_
     refine WC.seq ?_
     refine WC.block ?_
     refine WC.seq ?_
     refine WC.region ?_
     refine WL.y (Y.move rfl) rfl ?_
     refine WL.y (Y.rem_u (b := 2) (by decide) rfl rfl) rfl ?_
     refine WL.y (Y.conv_ui ty23.u ty3.u rfl) rfl ?_
     refine WL.buildSlice (O := O19) (R := Rep.i) (vals := [(0, vi (w64 ((v14 % 2).toNat : Int)))]) 11 [vi (w64 ((v14 % 2).toNat : Int))] (xs := [w64 ((v14 % 2).toNat : Int)]) (by decide) ty32 ty3 (by decide) (by decide) (Fits.evalp rfl) (by kernel_rfl) rfl ⟨[vi (w64 ((v14 % 2).toNat : Int))], [], rfl, rfl, rfl⟩ rfl ?_
     intro v36 O38 wd39 hst40 ho37
     refine WL.y (Y.move rfl) rfl ?_
     obtain ⟨xs41, hxs41, h⟩ := bnd h
     have hf42 := hf17.st hst40 rfl rfl rfl
     refine WL.append (by decide) ty32 ty3 rfl (by decide) rfl rfl ho37 hf42.src hxs41 rfl ?_
     intro v46 O43 wd44 hst45 ho47
     refine WL.y (Y.assign rfl) rfl ?_
     refine WL.nil ?_
     refine At.then ?_
     refine WC.region ?_
     refine WL.y (Y.move rfl) rfl ?_
     refine WL.y (Y.quo_u (b := 2) (by decide) rfl rfl) rfl ?_
     obtain ⟨v48, hv48, h⟩ := lt1 h
     refine WL.yE (Y.assign rfl) (congrArg vu hv48.symm) rfl ?_
     refine WL.nil ?_
     refine At.inBlock ?_
     refine At.then ?_
     refine WC.region ?_
     refine WL.y (Y.move rfl) rfl ?_
     refine WL.y (Y.add_i rfl rfl) rfl ?_
     obtain ⟨i49, hi49, h⟩ := lt1 h
     refine WL.yE (Y.assign rfl) (congrArg vi hi49.symm) rfl ?_
     refine WL.nil ?_
     obtain ⟨O50, hst51, ho52⟩ := OwnSl.rlb 1001 rfl ho47
     exact At.round (v48, xs41, i49, O50, v46) j32 (Nat.lt_succ_self _) ⟨next1 h hn34, (Stp.trans (Stp.up hst21 rfl) (Stp.trans (Stp.up hst40 rfl) (Stp.trans (Stp.up hst45 rfl) (Stp.up hst51 rfl)))), ho52⟩ (.cons rfl (.cons rfl (.cons rfl (.cons rfl .nil))))
    ·refine WC.condF' rfl hc35 ?_
     refine WC.exit ?_
     refine At.thenX ?_
     refine At.loopX ?_
     obtain ⟨O53, hst54, ho55⟩ := OwnSl.rlb 1002 rfl hf17
     exact At.hitB (σ := (UInt64 × List Int × Own × Value)) (v14, out15, O53, v16) ⟨brk1 h hn34, (Stp.trans (Stp.up hst21 rfl) (Stp.up hst54 rfl)), ho55⟩ (.cons rfl (.cons rfl .nil))
   ·rintro ⟨v22, out23, O26, v24⟩ wd27 ⟨rfl, hst28, hf25⟩
    replace h := flowK_go hk31
    try dsimp only at h hst28 hf25
    refine (show At _ _ _ [(0, vu v22), (6, v24)] _ from ?_)
    refine At.inBlockHit ?_
    refine At.then ?_
    refine WC.seq ?_
    refine WC.region ?_
    refine WL.y (Y.move rfl) rfl ?_
    refine WL.y (Y.move rfl) rfl ?_
    refine WL.y (Y.eql_u (b := 0) rfl rfl) rfl ?_
    refine WL.y (Y.assign rfl) rfl ?_
    obtain ⟨t56, ht56, h⟩ := lt1 h
    refine WL.yE (Y.assign rfl) (congrArg Value.bool ht56.symm) rfl ?_
    refine WL.nil ?_
    refine At.then ?_
    refine WC.ret ?_
    obtain ⟨rfl, rfl⟩ := tup2 h
    have hs57 : Stp [11, 1001] (Lg.O0 (fun _ => False)) w O26 wd27 := (Stp.up hst28 rfl)
    exact At.res (.inl rfl) rfl (.tmp rfl (.tmp rfl .nil)) ⟨v24, rfl, (Stp.ext hs57 rfl rfl), (OwnSl.outF hf25 hs57 low0 rfl)⟩

theorem c_ref07_row {a0 : UInt64} {w : World} {r0 : List Int} (h : ref07_row a0 = some r0) : Rets Tryd.prog 34 [vu a0] w (fun v w' => ∃ (u0 : Value), v = u0 ∧ Ext w w' ∧ RowF Rep.i 3 w w' u0 r0) := by
 unfold ref07_row at h
 refine Rets.enter Tryd.func34 rfl rfl ?_
 refine (show WC _ _ _ _ [(0, vu a0)] _ from ?_)
 refine WC.seq ?_
 refine WC.region ?_
 refine WL.y (Y.assign rfl) rfl ?_
 refine WL.nil ?_
 refine At.then ?_
 refine WC.seq ?_
 refine WC.region ?_
 refine WL.y (Y.move rfl) rfl ?_
 obtain ⟨⟨r11, r12⟩, hp13, h⟩ := bnd h
 refine WL.call (vals := [vu a0, vi 64]) kok37 rfl rfl (c_ref01_Row hp13) ?_
 rintro vr18 wd17 ⟨u14, rfl, hm16, f15⟩
 obtain ⟨O19, hold20, hnew21, hst22⟩ := adoptE (Lg.O0 (fun _ => False)) (fun k => if Value.ownBlock u14 = some k then 11 else 1) hm16
 have hf23 : OwnSl 11 Rep.i 3 O19 wd17 u14 r11 := RowF.adopt 11 Flat.i f15 hnew21 (fun k hk => if_pos hk)
 refine WL.y (Y.move rfl) rfl ?_
 refine WL.y (Y.extract rfl rfl) rfl ?_
 refine WL.y (Y.extract rfl rfl) rfl ?_
 refine WL.y (Y.assign rfl) rfl ?_
 refine WL.y (Y.assign rfl) rfl ?_
 refine WL.nil ?_
 refine At.then ?_
 refine WC.seq ?_
 refine WC.region ?_
 refine WL.y (Y.move rfl) rfl ?_
 refine WL.y (Y.assign rfl) rfl ?_
 refine WL.nil ?_
 refine At.then ?_
 refine WC.ret ?_
 obtain rfl := some1 h
 have hs24 : Stp [] (Lg.O0 (fun _ => False)) w O19 wd17 := (Stp.up hst22 rfl)
 exact At.res (.inl rfl) rfl (.tmp rfl .nil) ⟨u14, rfl, (Stp.ext hs24 rfl rfl), (OwnSl.outF hf23 hs24 low0 rfl)⟩

theorem c_ref07_in {A : Nat → Prop} {a0 : List Int} {v0 : Value} {a1 : ref07_Window} {w : World} (hs0 : Sl Rep.i w A v0 a0) {r0 : Bool} (h : ref07_in a0 a1 = some r0) : Rets Tryd.prog 35 [v0, Value.agg (List.toArray [vi a1.From, vi a1.Size])] w (fun v w' => v = Value.bool r0 ∧ Ext w w') := by
 unfold ref07_in at h
 refine Rets.enter Tryd.func35 rfl rfl ?_
 have hf11 : Sl Rep.i w (imm (Lg.O0 A)) v0 a0 := (Sl.start hs0)
 refine (show WC _ _ _ _ [(0, v0), (1, Value.agg (List.toArray [vi a1.From, vi a1.Size]))] _ from ?_)
 refine WC.seq ?_
 refine WC.region ?_
 refine WL.box (O := (Lg.O0 A)) 11 [vi a1.From, vi a1.Size] rfl rfl rfl ?_
 intro p13 O14 wd15 hst16 hb12
 refine WL.y (Y.assign rfl) rfl ?_
 refine WL.nil ?_
 refine At.then ?_
 refine WC.seq ?_
 refine WC.seq ?_
 refine WC.region ?_
 refine WL.y (Y.assign rfl) rfl ?_
 refine WL.nil ?_
 refine At.then ?_
 refine WC.block ?_
 obtain ⟨p18, h, hk20⟩ := flow1 h
 obtain ⟨k19, h⟩ := loop_some h
 refine WC.joinB 0 (σ := Unit) (fun x w' => p18 = .go () ∧ wd15 = w') (fun x => [(3, Value.pointer (some ⟨p13, 0, none⟩))]) ?_ ?_
 ·refine WC.loop (σ := Int) (fun x k w' => loopN k (ref07_in_lp1 a0 a1) x = some p18 ∧ wd15 = w') (fun x => [(0, v0), (3, Value.pointer (some ⟨p13, 0, none⟩)), (5, vi x)]) 0 k19 (.cons rfl (.cons rfl (.cons rfl .nil))) ⟨h, rfl⟩ ?_
  rintro i17 k19 _ ⟨h, rfl⟩
  obtain ⟨j21, q22, rfl, h, hn23⟩ := rnd1 h
  unfold ref07_in_lp1 at h
  try dsimp only at h
  refine (show WC _ _ _ _ [(0, v0), (3, Value.pointer (some ⟨p13, 0, none⟩)), (5, vi i17)] _ from ?_)
  refine WC.seq ?_
  refine WC.seq ?_
  refine WC.region ?_
  refine WL.y (Y.move rfl) rfl ?_
  refine WL.y (Y.lss_i rfl rfl) rfl ?_
  refine WL.nil ?_
  refine At.then ?_
  rcases cnd h with ⟨hc24, h⟩ | ⟨hc24, h⟩
  ·refine WC.condT' rfl hc24 ?_
   refine WC.skip ?_
   refine At.then ?_
   refine WC.seq ?_
   refine WC.block ?_
   refine WC.seq ?_
   refine WC.region ?_
   refine WL.y (Y.move rfl) rfl ?_
   refine WL.y (Y.move rfl) rfl ?_
   obtain ⟨e25, he25, h⟩ := bnd h
   have hf34 := hf11.mono (imm_st hst16 rfl rfl)
   obtain ⟨b26, off35, cap33, cs32, hv27, hi28, hl29, hc30, hok31, hA36⟩ := Sl.at2 hf34 he25
   obtain rfl := hok31
   replace hc30 : CellsAt _ _ _ [vi e25] := hc30
   have hca37 := CAt.imm hc30 hA36
   refine WL.y (Y.indexAddr ty32 ty3 rfl hv27 rfl hi28 hl29) rfl ?_
   refine WL.y (Y.loadSc ty3 rfl rfl hca37.at_) rfl ?_
   refine WL.y (Y.eql_i rfl rfl) rfl ?_
   refine WL.y (Y.move rfl) rfl ?_
   refine WL.cut 14 (σ := Unit) (fun _ w' => wd15 = w') (fun _ => [(0, v0), (3, Value.pointer (some ⟨p13, 0, none⟩)), (5, vi i17), (29, Value.bool ((decide (e25 = 1)) && ((decide (i17 < a1.From)) || (decide (w64 (a1.From + a1.Size) ≤ i17)))))]) ?_ ?_
   ·refine WL.part 15 rfl (fun hE38 => ?_) (fun hE38 => ?_)
    ·refine WL.ung rfl rfl ?_
     refine WL.y (Y.move rfl) rfl ?_
     refine WL.ung rfl rfl ?_
     refine WL.y (Y.fieldAddr fo39_0 rfl) rfl ?_
     refine WL.ung rfl rfl ?_
     refine WL.y (Y.loadSc ty3 rfl rfl (hb12.cell 0 _ rfl)) rfl ?_
     refine WL.ung rfl rfl ?_
     refine WL.y (Y.lss_i rfl rfl) rfl ?_
     refine WL.ung rfl rfl ?_
     refine WL.y (Y.move rfl) rfl ?_
     refine WL.cut 8 (σ := Unit) (fun _ w' => wd15 = w') (fun _ => [(0, v0), (3, Value.pointer (some ⟨p13, 0, none⟩)), (5, vi i17), (15, Value.bool true), (16, vi i17), (17, Value.pointer (some ⟨p13, 0, none⟩)), (18, vi a1.From), (19, Value.bool (decide (i17 < a1.From))), (20, Value.bool (decide (i17 < a1.From))), (28, Value.bool ((decide (i17 < a1.From)) || (decide (w64 (a1.From + a1.Size) ≤ i17))))]) ?_ ?_
     ·refine WL.part 20 rfl (fun hE39 => ?_) (fun hE39 => ?_)
      ·refine WL.gS rfl rfl rfl rfl ?_
       refine WL.gS rfl rfl rfl rfl ?_
       refine WL.gS rfl rfl rfl rfl ?_
       refine WL.gS rfl rfl rfl rfl ?_
       refine WL.gS rfl rfl rfl rfl ?_
       refine WL.gS rfl rfl rfl rfl ?_
       refine WL.gS rfl rfl rfl rfl ?_
       refine WL.ung rfl rfl ?_
       refine WL.y (Y.pick (b := true) rfl rfl) rfl ?_
       refine WL.ren (v' := Value.bool ((decide (i17 < a1.From)) || (decide (w64 (a1.From + a1.Size) ≤ i17)))) 28 rfl (congrArg Value.bool (orT hE39)) ?_
       refine WL.ren 20 rfl (congrArg Value.bool hE39.symm) ?_
       exact WL.nil (At.join () rfl (.cons rfl (.cons rfl (.cons rfl (.cons rfl (.cons rfl (.cons rfl (.cons rfl (.cons rfl (.cons rfl (.cons rfl .nil)))))))))))
      ·refine WL.ung rfl rfl ?_
       refine WL.y (Y.move rfl) rfl ?_
       refine WL.ung rfl rfl ?_
       refine WL.y (Y.fieldAddr fo39_0 rfl) rfl ?_
       refine WL.ung rfl rfl ?_
       refine WL.y (Y.loadSc ty3 rfl rfl (hb12.cell 0 _ rfl)) rfl ?_
       refine WL.ung rfl rfl ?_
       refine WL.y (Y.fieldAddr fo39_1 rfl) rfl ?_
       refine WL.ung rfl rfl ?_
       refine WL.y (Y.loadSc ty3 rfl rfl (hb12.cell 1 _ rfl)) rfl ?_
       refine WL.ung rfl rfl ?_
       refine WL.y (Y.add_i rfl rfl) rfl ?_
       refine WL.ung rfl rfl ?_
       refine WL.y (Y.geq_i rfl rfl) rfl ?_
       refine WL.ung rfl rfl ?_
       refine WL.y (Y.pick (b := false) rfl rfl) rfl ?_
       refine WL.ren (v' := Value.bool ((decide (i17 < a1.From)) || (decide (w64 (a1.From + a1.Size) ≤ i17)))) 28 rfl (congrArg Value.bool (orF hE39)) ?_
       refine WL.ren 20 rfl (congrArg Value.bool hE39.symm) ?_
       exact WL.nil (At.join () rfl (.cons rfl (.cons rfl (.cons rfl (.cons rfl (.cons rfl (.cons rfl (.cons rfl (.cons rfl (.cons rfl (.cons rfl .nil)))))))))))
     ·rintro _ _ rfl
      refine (show WL _ _ _ _ _ [(0, v0), (3, Value.pointer (some ⟨p13, 0, none⟩)), (5, vi i17), (15, Value.bool true), (16, vi i17), (17, Value.pointer (some ⟨p13, 0, none⟩)), (18, vi a1.From), (19, Value.bool (decide (i17 < a1.From))), (20, Value.bool (decide (i17 < a1.From))), (28, Value.bool ((decide (i17 < a1.From)) || (decide (w64 (a1.From + a1.Size) ≤ i17))))] _ from ?_)
      refine WL.y (Y.pick (b := true) rfl rfl) rfl ?_
      refine WL.ren (v' := Value.bool ((decide (e25 = 1)) && ((decide (i17 < a1.From)) || (decide (w64 (a1.From + a1.Size) ≤ i17))))) 29 rfl (congrArg Value.bool (andT hE38)) ?_
      exact WL.nil (At.join () rfl (.cons rfl (.cons rfl (.cons rfl (.cons rfl .nil)))))
    ·refine WL.gS rfl rfl rfl rfl ?_
     refine WL.gS rfl rfl rfl rfl ?_
     refine WL.gS rfl rfl rfl rfl ?_
     refine WL.gS rfl rfl rfl rfl ?_
     refine WL.gS rfl rfl rfl rfl ?_
     refine WL.gS rfl rfl rfl rfl ?_
     refine WL.gS rfl rfl rfl rfl ?_
     refine WL.gS rfl rfl rfl rfl ?_
     refine WL.gS rfl rfl rfl rfl ?_
     refine WL.gS rfl rfl rfl rfl ?_
     refine WL.gS rfl rfl rfl rfl ?_
     refine WL.gS rfl rfl rfl rfl ?_
     refine WL.gS rfl rfl rfl rfl ?_
     refine WL.y (Y.pick (b := false) rfl rfl) rfl ?_
     refine WL.ren (v' := Value.bool ((decide (e25 = 1)) && ((decide (i17 < a1.From)) || (decide (w64 (a1.From + a1.Size) ≤ i17))))) 29 rfl (congrArg Value.bool (andF hE38)) ?_
     exact WL.nil (At.join () rfl (.cons rfl (.cons rfl (.cons rfl (.cons rfl .nil)))))
   ·rintro _ _ rfl
    refine (show WL _ _ _ _ _ [(0, v0), (3, Value.pointer (some ⟨p13, 0, none⟩)), (5, vi i17), (29, Value.bool ((decide (e25 = 1)) && ((decide (i17 < a1.From)) || (decide (w64 (a1.From + a1.Size) ≤ i17)))))] _ from ?_)
    refine WL.nil ?_
    refine At.then ?_
    rcases cnd h with ⟨hc40, h⟩ | ⟨hc40, h⟩
    ·refine WC.condT' rfl hc40 ?_
     refine WC.seq ?_
     refine WC.region ?_
     refine WL.y (Y.assign rfl) rfl ?_
     refine WL.nil ?_
     refine At.then ?_
     refine WC.ret ?_
     refine At.inBlockR ?_
     refine At.thenR ?_
     refine At.loopR ?_
     have h := outr1 h hn23 hk20
     refine At.joinBR ?_
     refine At.inBlockR ?_
     refine At.thenR ?_
     obtain rfl := some1 h
     have hs41 : Stp [] (Lg.O0 A) w O14 wd15 := (Stp.up hst16 rfl)
     exact At.res (.inl rfl) rfl (.tmp rfl .nil) ⟨rfl, (Stp.ext hs41 rfl rfl)⟩
    ·refine WC.condF' rfl hc40 ?_
     refine WC.skip ?_
     refine At.inBlock ?_
     refine At.then ?_
     refine WC.region ?_
     refine WL.y (Y.move rfl) rfl ?_
     refine WL.y (Y.add_i rfl rfl) rfl ?_
     obtain ⟨i42, hi42, h⟩ := lt1 h
     refine WL.yE (Y.assign rfl) (congrArg vi hi42.symm) rfl ?_
     refine WL.nil ?_
     exact At.round i42 j21 (Nat.lt_succ_self _) ⟨next1 h hn23, rfl⟩ (.cons rfl (.cons rfl (.cons rfl .nil)))
  ·refine WC.condF' rfl hc24 ?_
   refine WC.exit ?_
   refine At.thenX ?_
   refine At.loopX ?_
   exact At.hitB (σ := Unit) () ⟨brk1 h hn23, rfl⟩ (.cons rfl .nil)
 ·rintro _ _ ⟨rfl, rfl⟩
  replace h := flowK_go hk20
  refine (show At _ _ _ [(3, Value.pointer (some ⟨p13, 0, none⟩))] _ from ?_)
  refine At.inBlockHit ?_
  refine At.then ?_
  refine WC.seq ?_
  refine WC.region ?_
  refine WL.y (Y.fieldAddr fo39_1 rfl) rfl ?_
  refine WL.y (Y.loadSc ty3 rfl rfl (hb12.cell 1 _ rfl)) rfl ?_
  refine WL.y (Y.gtr_i rfl rfl) rfl ?_
  obtain ⟨t43, ht43, h⟩ := lt1 h
  refine WL.yE (Y.assign rfl) (congrArg Value.bool ht43.symm) rfl ?_
  refine WL.nil ?_
  refine At.then ?_
  refine WC.ret ?_
  obtain rfl := some1 h
  have hs44 : Stp [] (Lg.O0 A) w O14 wd15 := (Stp.up hst16 rfl)
  exact At.res (.inl rfl) rfl (.tmp rfl .nil) ⟨rfl, (Stp.ext hs44 rfl rfl)⟩

end Go.Lg
