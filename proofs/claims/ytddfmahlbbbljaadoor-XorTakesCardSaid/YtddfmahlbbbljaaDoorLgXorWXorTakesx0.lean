/- The walks of XorTakes and of what it calls, printed by gen.py. -/
import Derived.Test.YtddfmahlbbbljaaDoorLgXorP
import Derived.Test.YtddfmahlbbbljaaDoorProg
set_option linter.unusedVariables false
namespace Go.Lg
open Go Go.Proofs
set_option maxRecDepth 100000
set_option maxHeartbeats 4000000
theorem fmix : Tryd.prog.follows .mixedOrders = true := by kernel_rfl
theorem ty3 : TyOk Tryd.prog 3 (.int .i64) 1 8 (.int .i64 0) := tyOk Tryd.underlying3 (by kernel_rfl)
theorem ty5 : TyOk Tryd.prog 5 (.int .u8) 1 1 (.int .u8 0) := tyOk Tryd.underlying5 (by kernel_rfl)
theorem ty9 : TyOk Tryd.prog 9 .string 1 16 (.string ⟨#[]⟩) := tyOk Tryd.underlying9 (by kernel_rfl)
theorem ty22 : TyOk Tryd.prog 22 (.slice 23) 1 24 (.slice none 0 0) := tyOk Tryd.underlying22 (by kernel_rfl)
theorem ty23 : TyOk Tryd.prog 23 (.int .u64) 1 8 (.int .u64 0) := tyOk Tryd.underlying23 (by kernel_rfl)
theorem ty27 : TyOk Tryd.prog 27 (.slice 5) 1 24 (.slice none 0 0) := tyOk Tryd.underlying27 (by kernel_rfl)
theorem ty28 : TyOk Tryd.prog 28 (.pointer 58) 1 8 (.pointer none) := tyOk Tryd.underlying28 (by kernel_rfl)
theorem ty29 : TyOk Tryd.prog 29 (.int .i64) 1 8 (.int .i64 0) := tyOk Tryd.underlying29 (by kernel_rfl)
theorem ty32 : TyOk Tryd.prog 32 (.slice 3) 1 24 (.slice none 0 0) := tyOk Tryd.underlying32 (by kernel_rfl)
theorem ty34 : TyOk Tryd.prog 34 (.pointer 62) 1 8 (.pointer none) := tyOk Tryd.underlying34 (by kernel_rfl)
theorem ty36 : TyOk Tryd.prog 36 (.pointer 64) 1 8 (.pointer none) := tyOk Tryd.underlying36 (by kernel_rfl)
theorem ty39 : TyOk Tryd.prog 39 (.struct #[(Field.mk "From" 3 0 false "" "" 0), (Field.mk "Size" 3 1 false "" "" 8)]) 2 16 (.agg #[(.int .i64 0), (.int .i64 0)]) := tyOk Tryd.underlying39 (by kernel_rfl)
theorem ty41 : TyOk Tryd.prog 41 (.struct #[(Field.mk "L" 22 0 false "" "" 0), (Field.mk "W" 39 1 false "" "" 24)]) 3 40 (.agg #[(.slice none 0 0), (.int .i64 0), (.int .i64 0)]) := tyOk Tryd.underlying41 (by kernel_rfl)
theorem ty43 : TyOk Tryd.prog 43 (.struct #[(Field.mk "V" 23 0 false "" "" 0), (Field.mk "N" 3 1 false "" "" 8), (Field.mk "S" 41 2 false "" "" 16), (Field.mk "E" 29 5 false "" "" 56)]) 6 64 (.agg #[(.int .u64 0), (.int .i64 0), (.slice none 0 0), (.int .i64 0), (.int .i64 0), (.int .i64 0)]) := tyOk Tryd.underlying43 (by kernel_rfl)
theorem ty55 : TyOk Tryd.prog 55 (.int .u64) 1 8 (.int .u64 0) := tyOk Tryd.underlying55 (by kernel_rfl)
theorem ty58 : TyOk Tryd.prog 58 (.struct #[(Field.mk "b" 27 0 false "" "limnograph/bitio" 0), (Field.mk "n" 3 1 false "" "limnograph/bitio" 24), (Field.mk "at" 3 2 false "" "limnograph/bitio" 32)]) 3 40 (.agg #[(.slice none 0 0), (.int .i64 0), (.int .i64 0)]) := tyOk Tryd.underlying58 (by kernel_rfl)
theorem ty60 : TyOk Tryd.prog 60 (.struct #[(Field.mk "ahead" 3 0 false "" "limnograph/xor" 0), (Field.mk "size" 3 1 false "" "limnograph/xor" 8)]) 2 16 (.agg #[(.int .i64 0), (.int .i64 0)]) := tyOk Tryd.underlying60 (by kernel_rfl)
theorem ty62 : TyOk Tryd.prog 62 (.struct #[(Field.mk "n" 3 0 false "" "limnograph/xor" 0), (Field.mk "last" 23 1 false "" "limnograph/xor" 8), (Field.mk "win" 60 2 false "" "limnograph/xor" 16)]) 4 32 (.agg #[(.int .i64 0), (.int .u64 0), (.int .i64 0), (.int .i64 0)]) := tyOk Tryd.underlying62 (by kernel_rfl)
theorem ty84 : TyOk Tryd.prog 84 (.array 64 5) 64 64 (.agg #[(.int .u8 0), (.int .u8 0), (.int .u8 0), (.int .u8 0), (.int .u8 0), (.int .u8 0), (.int .u8 0), (.int .u8 0), (.int .u8 0), (.int .u8 0), (.int .u8 0), (.int .u8 0), (.int .u8 0), (.int .u8 0), (.int .u8 0), (.int .u8 0), (.int .u8 0), (.int .u8 0), (.int .u8 0), (.int .u8 0), (.int .u8 0), (.int .u8 0), (.int .u8 0), (.int .u8 0), (.int .u8 0), (.int .u8 0), (.int .u8 0), (.int .u8 0), (.int .u8 0), (.int .u8 0), (.int .u8 0), (.int .u8 0), (.int .u8 0), (.int .u8 0), (.int .u8 0), (.int .u8 0), (.int .u8 0), (.int .u8 0), (.int .u8 0), (.int .u8 0), (.int .u8 0), (.int .u8 0), (.int .u8 0), (.int .u8 0), (.int .u8 0), (.int .u8 0), (.int .u8 0), (.int .u8 0), (.int .u8 0), (.int .u8 0), (.int .u8 0), (.int .u8 0), (.int .u8 0), (.int .u8 0), (.int .u8 0), (.int .u8 0), (.int .u8 0), (.int .u8 0), (.int .u8 0), (.int .u8 0), (.int .u8 0), (.int .u8 0), (.int .u8 0), (.int .u8 0)]) := tyOk Tryd.underlying84 (by kernel_rfl)
theorem fo39_0 : FieldOk Tryd.prog 39 0 0 := fieldOk Tryd.underlying39 rfl rfl (by kernel_rfl)
theorem fo39_1 : FieldOk Tryd.prog 39 1 1 := fieldOk Tryd.underlying39 rfl rfl (by kernel_rfl)
theorem fo41_0 : FieldOk Tryd.prog 41 0 0 := fieldOk Tryd.underlying41 rfl rfl (by kernel_rfl)
theorem fo41_1 : FieldOk Tryd.prog 41 1 1 := fieldOk Tryd.underlying41 rfl rfl (by kernel_rfl)
theorem fo43_0 : FieldOk Tryd.prog 43 0 0 := fieldOk Tryd.underlying43 rfl rfl (by kernel_rfl)
theorem fo43_1 : FieldOk Tryd.prog 43 1 1 := fieldOk Tryd.underlying43 rfl rfl (by kernel_rfl)
theorem fo43_2 : FieldOk Tryd.prog 43 2 2 := fieldOk Tryd.underlying43 rfl rfl (by kernel_rfl)
theorem fo43_3 : FieldOk Tryd.prog 43 3 5 := fieldOk Tryd.underlying43 rfl rfl (by kernel_rfl)
theorem fo58_0 : FieldOk Tryd.prog 58 0 0 := fieldOk Tryd.underlying58 rfl rfl (by kernel_rfl)
theorem fo58_1 : FieldOk Tryd.prog 58 1 1 := fieldOk Tryd.underlying58 rfl rfl (by kernel_rfl)
theorem fo58_2 : FieldOk Tryd.prog 58 2 2 := fieldOk Tryd.underlying58 rfl rfl (by kernel_rfl)
theorem fo60_0 : FieldOk Tryd.prog 60 0 0 := fieldOk Tryd.underlying60 rfl rfl (by kernel_rfl)
theorem fo60_1 : FieldOk Tryd.prog 60 1 1 := fieldOk Tryd.underlying60 rfl rfl (by kernel_rfl)
theorem fo62_0 : FieldOk Tryd.prog 62 0 0 := fieldOk Tryd.underlying62 rfl rfl (by kernel_rfl)
theorem fo62_1 : FieldOk Tryd.prog 62 1 1 := fieldOk Tryd.underlying62 rfl rfl (by kernel_rfl)
theorem fo62_2 : FieldOk Tryd.prog 62 2 2 := fieldOk Tryd.underlying62 rfl rfl (by kernel_rfl)
theorem fo64_0 : FieldOk Tryd.prog 64 0 0 := fieldOk Tryd.underlying64 rfl rfl (by kernel_rfl)
theorem fo64_1 : FieldOk Tryd.prog 64 1 1 := fieldOk Tryd.underlying64 rfl rfl (by kernel_rfl)
theorem agok60 : AgOk Tryd.prog 60 #[(Field.mk "ahead" 3 0 false "" "limnograph/xor" 0), (Field.mk "size" 3 1 false "" "limnograph/xor" 8)] := ⟨Tryd.underlying60, by kernel_rfl, by kernel_rfl⟩
theorem kok6 : CallOk Tryd.prog 6 := callOk Tryd.func6 (by kernel_rfl) rfl
theorem kok7 : CallOk Tryd.prog 7 := callOk Tryd.func7 (by kernel_rfl) rfl
theorem kok8 : CallOk Tryd.prog 8 := callOk Tryd.func8 (by kernel_rfl) rfl
theorem kok9 : CallOk Tryd.prog 9 := callOk Tryd.func9 (by kernel_rfl) rfl
theorem kok10 : CallOk Tryd.prog 10 := callOk Tryd.func10 (by kernel_rfl) rfl
theorem kok11 : CallOk Tryd.prog 11 := callOk Tryd.func11 (by kernel_rfl) rfl
theorem kok12 : CallOk Tryd.prog 12 := callOk Tryd.func12 (by kernel_rfl) rfl
theorem kok13 : CallOk Tryd.prog 13 := callOk Tryd.func13 (by kernel_rfl) rfl
theorem kok14 : CallOk Tryd.prog 14 := callOk Tryd.func14 (by kernel_rfl) rfl
theorem kok15 : CallOk Tryd.prog 15 := callOk Tryd.func15 (by kernel_rfl) rfl
theorem kok16 : CallOk Tryd.prog 16 := callOk Tryd.func16 (by kernel_rfl) rfl
theorem kok17 : CallOk Tryd.prog 17 := callOk Tryd.func17 (by kernel_rfl) rfl
theorem kok18 : CallOk Tryd.prog 18 := callOk Tryd.func18 (by kernel_rfl) rfl
theorem kok19 : CallOk Tryd.prog 19 := callOk Tryd.func19 (by kernel_rfl) rfl
theorem kok21 : CallOk Tryd.prog 21 := callOk Tryd.func21 (by kernel_rfl) rfl
theorem kok22 : CallOk Tryd.prog 22 := callOk Tryd.func22 (by kernel_rfl) rfl
theorem kok23 : CallOk Tryd.prog 23 := callOk Tryd.func23 (by kernel_rfl) rfl
theorem kok24 : CallOk Tryd.prog 24 := callOk Tryd.func24 (by kernel_rfl) rfl
theorem kok25 : CallOk Tryd.prog 25 := callOk Tryd.func25 (by kernel_rfl) rfl
theorem kok26 : CallOk Tryd.prog 26 := callOk Tryd.func26 (by kernel_rfl) rfl
theorem kok27 : CallOk Tryd.prog 27 := callOk Tryd.func27 (by kernel_rfl) rfl
theorem kok28 : CallOk Tryd.prog 28 := callOk Tryd.func28 (by kernel_rfl) rfl
theorem kok29 : CallOk Tryd.prog 29 := callOk Tryd.func29 (by kernel_rfl) rfl
theorem kok30 : CallOk Tryd.prog 30 := callOk Tryd.func30 (by kernel_rfl) rfl
theorem kok31 : CallOk Tryd.prog 31 := callOk Tryd.func31 (by kernel_rfl) rfl
theorem kok32 : CallOk Tryd.prog 32 := callOk Tryd.func32 (by kernel_rfl) rfl
theorem kok33 : CallOk Tryd.prog 33 := callOk Tryd.func33 (by kernel_rfl) rfl
theorem kok34 : CallOk Tryd.prog 34 := callOk Tryd.func34 (by kernel_rfl) rfl
theorem kok35 : CallOk Tryd.prog 35 := callOk Tryd.func35 (by kernel_rfl) rfl
theorem kok36 : CallOk Tryd.prog 36 := callOk Tryd.func36 (by kernel_rfl) rfl
theorem kok37 : CallOk Tryd.prog 37 := callOk Tryd.func37 (by kernel_rfl) rfl
theorem kok38 : CallOk Tryd.prog 38 := callOk Tryd.func38 (by kernel_rfl) rfl
theorem kok39 : CallOk Tryd.prog 39 := callOk Tryd.func39 (by kernel_rfl) rfl
theorem kok40 : CallOk Tryd.prog 40 := callOk Tryd.func40 (by kernel_rfl) rfl
theorem kok41 : CallOk Tryd.prog 41 := callOk Tryd.func41 (by kernel_rfl) rfl
theorem kok42 : CallOk Tryd.prog 42 := callOk Tryd.func42 (by kernel_rfl) rfl
theorem kok43 : CallOk Tryd.prog 43 := callOk Tryd.func43 (by kernel_rfl) rfl
theorem kok44 : CallOk Tryd.prog 44 := callOk Tryd.func44 (by kernel_rfl) rfl

theorem c_xor_NewRow {w : World} {r0 : xor_Row} (h : xor_NewRow = some r0) : Rets Tryd.prog 10 [] w (fun v w' => ∃ (p0 : Nat), v = Value.pointer (some ⟨p0, 0, none⟩) ∧ Ext w w' ∧ (w'.heap[p0]? = some (.cells (List.toArray [vi r0.n, vu r0.last, vi r0.win.ahead, vi r0.win.size]) 62 (0, 0)) ∧ w.heap.size ≤ p0)) := by
 unfold xor_NewRow at h
 refine Rets.enter Tryd.func10 rfl rfl ?_
 refine (show WC _ _ _ _ [] _ from ?_)
 refine WC.seq ?_
 refine WC.region ?_
 refine WL.y (Y.assign rfl) rfl ?_
 refine WL.nil ?_
 refine At.then ?_
 refine WC.seq ?_
 refine WC.region ?_
 refine WL.y (Y.build (vals := []) (cells := [vi 0, vu 0, vi 0, vi 0]) (Fits.evalp rfl) (by kernel_rfl)) rfl ?_
 refine WL.box (O := (Lg.O0 (fun _ => False))) 11 [vi 0, vu 0, vi 0, vi 0] rfl rfl rfl ?_
 intro p12 O13 wd14 hst15 hb11
 refine WL.y (Y.assign rfl) rfl ?_
 refine WL.nil ?_
 refine At.then ?_
 refine WC.ret ?_
 obtain rfl := some1 h
 have hs16 : Stp [] (Lg.O0 (fun _ => False)) w O13 wd14 := (Stp.up hst15 rfl)
 exact At.res (.inl rfl) rfl (.tmp rfl .nil) ⟨p12, rfl, (Stp.ext hs16 rfl rfl), (Blk.outF hb11 hs16 low0 rfl)⟩

theorem c_bitio_NewWriter {w : World} {r0 : bitio_Writer} (h : bitio_NewWriter = some r0) : Rets Tryd.prog 11 [] w (fun v w' => ∃ (p0 : Nat) (u0_0 : Value), v = Value.pointer (some ⟨p0, 0, none⟩) ∧ Ext w w' ∧ (w'.heap[p0]? = some (.cells (List.toArray [u0_0, vi r0.n]) 64 (0, 0)) ∧ w.heap.size ≤ p0) ∧ RowF Rep.b 5 w w' u0_0 r0.b ∧ Value.ownBlock u0_0 ≠ some p0) := by
 unfold bitio_NewWriter at h
 refine Rets.enter Tryd.func11 rfl rfl ?_
 refine (show WC _ _ _ _ [] _ from ?_)
 refine WC.seq ?_
 refine WC.region ?_
 refine WL.y (Y.assign rfl) rfl ?_
 refine WL.nil ?_
 refine At.then ?_
 refine WC.seq ?_
 refine WC.region ?_
 refine WL.y (Y.build (vals := []) (cells := [Value.slice none 0 0, vi 0]) (Fits.evalp rfl) (by kernel_rfl)) rfl ?_
 refine WL.box (O := (Lg.O0 (fun _ => False))) 11 [Value.slice none 0 0, vi 0] rfl rfl rfl ?_
 intro p12 O13 wd14 hst15 hb11
 refine WL.y (Y.assign rfl) rfl ?_
 refine WL.nil ?_
 refine At.then ?_
 refine WC.ret ?_
 obtain rfl := some1 h
 have hs16 : Stp [] (Lg.O0 (fun _ => False)) w O13 wd14 := (Stp.up hst15 rfl)
 exact At.res (.inl rfl) rfl (.tmp rfl .nil) ⟨p12, Value.slice none 0 0, rfl, (Stp.ext hs16 rfl rfl), (Blk.outF hb11 hs16 low0 rfl), RowF.nil, not_nil⟩

theorem c_bitio_Writer_room {A : Nat → Prop} {v0_0 : Value} {a0 : bitio_Writer} {b0 : Nat} {w : World} (hs0_0 : Sl Rep.b w A v0_0 a0.b) (hb0 : w.heap[b0]? = some (.cells (List.toArray [v0_0, vi a0.n]) 64 (0, 0))) (hm0 : A b0) {r0 : Int} (h : bitio_Writer_room a0 = some r0) : Rets Tryd.prog 39 [Value.pointer (some ⟨b0, 0, none⟩)] w (fun v w' => v = vi r0 ∧ Ext w w') := by
 unfold bitio_Writer_room at h
 refine Rets.enter Tryd.func39 rfl rfl ?_
 have hf11 : Sl Rep.b w (imm (Lg.O0 A)) v0_0 a0.b := (Sl.start hs0_0)
 have hb12 : Blk 0 (Lg.O0 A) w b0 64 [v0_0, vi a0.n] := ⟨(if_pos hm0), hb0⟩
 refine (show WC _ _ _ _ [(0, Value.pointer (some ⟨b0, 0, none⟩))] _ from ?_)
 refine WC.seq ?_
 refine WC.region ?_
 refine WL.y (Y.assign rfl) rfl ?_
 refine WL.nil ?_
 refine At.then ?_
 refine WC.seq ?_
 refine WC.draw 11 (Lg.O0 A) fmix (by kernel_rfl) ?_
 intro wd13 hst14
 refine WS.y (Y.move rfl) rfl ?_
 refine WS.y (Y.nilCheck rfl) rfl ?_
 refine WS.y (Y.fieldAddr fo64_0 rfl) rfl ?_
 have hf15 := hb12.st hst14 rfl
 refine WS.y (Y.loadSc ty27 rfl rfl (hf15.cell 0 _ rfl)) rfl ?_
 have hf16 := hf11.mono (imm_st hst14 rfl rfl)
 refine WS.y (Y.len ty27 rfl hf16) rfl ?_
 refine WS.y (Y.mul_i rfl rfl) rfl ?_
 refine WS.y (Y.move rfl) rfl ?_
 refine WS.y (Y.nilCheck rfl) rfl ?_
 refine WS.y (Y.fieldAddr fo64_1 rfl) rfl ?_
 refine WS.y (Y.loadSc ty3 rfl rfl (hf15.cell 1 _ rfl)) rfl ?_
 refine WS.y (Y.sub_i rfl rfl) rfl ?_
 refine WS.tail ?_
 obtain ⟨t17, ht17, h⟩ := lt1 h
 refine WL.yE (Y.assign rfl) (congrArg vi ht17.symm) rfl ?_
 refine WL.nil ?_
 refine At.then ?_
 refine WC.ret ?_
 obtain rfl := some1 h
 have hs18 : Stp [] (Lg.O0 A) w (Lg.O0 A) wd13 := (Stp.up hst14 rfl)
 exact At.res (.inl rfl) rfl (.tmp rfl .nil) ⟨rfl, (Stp.ext hs18 rfl rfl)⟩

theorem c_bitio_Writer_Put {v0_0 : Value} {a0 : bitio_Writer} {b0 : Nat} {a1 : UInt64} {a2 : Int} {w : World} (hs0_0 : Row Rep.b 5 w v0_0 a0.b) (hb0 : w.heap[b0]? = some (.cells (List.toArray [v0_0, vi a0.n]) 64 (0, 0))) (hne0_1 : Value.ownBlock v0_0 ≠ some b0) {r0 : Bool} {q0 : bitio_Writer} (h : bitio_Writer_Put a0 a1 a2 = some (r0, q0)) : Rets Tryd.prog 30 [Value.pointer (some ⟨b0, 0, none⟩), vu a1, vi a2] w (fun v w' => ∃ (z0_0 : Value), v = Value.bool r0 ∧ Mod (fun k => k = b0 ∨ Value.ownBlock v0_0 = some k) w w' ∧ RowG Rep.b 5 w w' v0_0 z0_0 q0.b ∧ w'.heap[b0]? = some (.cells (List.toArray [z0_0, vi q0.n]) 64 (0, 0))) := by
 unfold bitio_Writer_Put at h
 refine Rets.enter Tryd.func30 rfl rfl ?_
 have ho11 : OwnSl 4 Rep.b 5 (Lg.OB b0 3 (Lg.OV v0_0 4 (Lg.O0 (fun _ => False)))) w v0_0 a0.b := Row.start Flat.b hs0_0 (fun k hk => ((if_neg (fun (e : k = b0) => hne0_1 (e ▸ hk))).trans (if_pos hk)))
 have hb12 : Blk 3 (Lg.OB b0 3 (Lg.OV v0_0 4 (Lg.O0 (fun _ => False)))) w b0 64 [v0_0, vi a0.n] := ⟨(if_pos rfl), hb0⟩
 refine (show WC _ _ _ _ [(0, Value.pointer (some ⟨b0, 0, none⟩)), (1, vu a1), (2, vi a2)] _ from ?_)
 refine WC.seq ?_
 refine WC.region ?_
 refine WL.y (Y.assign rfl) rfl ?_
 refine WL.nil ?_
 refine At.then ?_
 refine WC.seq ?_
 refine WC.seq ?_
 refine WC.region ?_
 refine WL.y (Y.move rfl) rfl ?_
 refine WL.y (Y.lss_i rfl rfl) rfl ?_
 refine WL.y (Y.move rfl) rfl ?_
 refine WL.cut 3 (σ := Unit) (fun _ w' => w = w') (fun _ => [(0, Value.pointer (some ⟨b0, 0, none⟩)), (1, vu a1), (2, vi a2), (15, Value.bool ((decide (a2 < 0)) || (decide (64 < a2))))]) ?_ ?_
 ·refine WL.part 12 rfl (fun hE13 => ?_) (fun hE13 => ?_)
  ·refine WL.gS rfl rfl rfl rfl ?_
   refine WL.gS rfl rfl rfl rfl ?_
   refine WL.y (Y.pick (b := true) rfl rfl) rfl ?_
   refine WL.ren (v' := Value.bool ((decide (a2 < 0)) || (decide (64 < a2)))) 15 rfl (congrArg Value.bool (orT hE13)) ?_
   exact WL.nil (At.join () rfl (.cons rfl (.cons rfl (.cons rfl (.cons rfl .nil)))))
  ·refine WL.ung rfl rfl ?_
   refine WL.y (Y.move rfl) rfl ?_
   refine WL.ung rfl rfl ?_
   refine WL.y (Y.gtr_i rfl rfl) rfl ?_
   refine WL.y (Y.pick (b := false) rfl rfl) rfl ?_
   refine WL.ren (v' := Value.bool ((decide (a2 < 0)) || (decide (64 < a2)))) 15 rfl (congrArg Value.bool (orF hE13)) ?_
   exact WL.nil (At.join () rfl (.cons rfl (.cons rfl (.cons rfl (.cons rfl .nil)))))
 ·rintro _ _ rfl
  refine (show WL _ _ _ _ _ [(0, Value.pointer (some ⟨b0, 0, none⟩)), (1, vu a1), (2, vi a2), (15, Value.bool ((decide (a2 < 0)) || (decide (64 < a2))))] _ from ?_)
  refine WL.y (Y.move rfl) rfl ?_
  refine WL.cut 10 (σ := Unit) (fun _ w' => w = w') (fun _ => [(0, Value.pointer (some ⟨b0, 0, none⟩)), (1, vu a1), (2, vi a2), (26, Value.bool (((decide (a2 < 0)) || (decide (64 < a2))) || ((decide (a2 < 64)) && (!decide (shrU a1 ((toU64 a2).toNat) = 0)))))]) ?_ ?_
  ·refine WL.part 16 rfl (fun hE14 => ?_) (fun hE14 => ?_)
   ·refine WL.gS rfl rfl rfl rfl ?_
    refine WL.gS rfl rfl rfl rfl ?_
    refine WL.gS rfl rfl rfl rfl ?_
    refine WL.gS rfl rfl rfl rfl ?_
    refine WL.gS rfl rfl rfl rfl ?_
    refine WL.gS rfl rfl rfl rfl ?_
    refine WL.gS rfl rfl rfl rfl ?_
    refine WL.gS rfl rfl rfl rfl ?_
    refine WL.gS rfl rfl rfl rfl ?_
    refine WL.y (Y.pick (b := true) rfl rfl) rfl ?_
    refine WL.ren (v' := Value.bool (((decide (a2 < 0)) || (decide (64 < a2))) || ((decide (a2 < 64)) && (!decide (shrU a1 ((toU64 a2).toNat) = 0))))) 26 rfl (congrArg Value.bool (orT hE14)) ?_
    exact WL.nil (At.join () rfl (.cons rfl (.cons rfl (.cons rfl (.cons rfl .nil)))))
   ·refine WL.ung rfl rfl ?_
    refine WL.y (Y.move rfl) rfl ?_
    refine WL.ung rfl rfl ?_
    refine WL.y (Y.lss_i rfl rfl) rfl ?_
    refine WL.ung rfl rfl ?_
    refine WL.y (Y.move rfl) rfl ?_
    refine WL.cut 6 (σ := Unit) (fun _ w' => w = w') (fun _ => [(0, Value.pointer (some ⟨b0, 0, none⟩)), (1, vu a1), (2, vi a2), (16, Value.bool false), (25, Value.bool ((decide (a2 < 64)) && (!decide (shrU a1 ((toU64 a2).toNat) = 0))))]) ?_ ?_
    ·refine WL.part 19 rfl (fun hE15 => ?_) (fun hE15 => ?_)
     ·refine WL.ung rfl rfl ?_
      refine WL.y (Y.move rfl) rfl ?_
      refine WL.ung rfl rfl ?_
      refine WL.y (Y.move rfl) rfl ?_
      refine WL.ung rfl rfl ?_
      refine WL.y (Y.conv_iu ty3.u ty55.u rfl) rfl ?_
      refine WL.ung rfl rfl ?_
      refine WL.y (Y.shr_uu rfl rfl) rfl ?_
      refine WL.ung rfl rfl ?_
      refine WL.y (Y.neq_u (b := 0) rfl rfl) rfl ?_
      refine WL.ung rfl rfl ?_
      refine WL.y (Y.pick (b := true) rfl rfl) rfl ?_
      refine WL.ren (v' := Value.bool ((decide (a2 < 64)) && (!decide (shrU a1 ((toU64 a2).toNat) = 0)))) 25 rfl (congrArg Value.bool (andT hE15)) ?_
      exact WL.nil (At.join () rfl (.cons rfl (.cons rfl (.cons rfl (.cons rfl (.cons rfl .nil))))))
     ·refine WL.gS rfl rfl rfl rfl ?_
      refine WL.gS rfl rfl rfl rfl ?_
      refine WL.gS rfl rfl rfl rfl ?_
      refine WL.gS rfl rfl rfl rfl ?_
      refine WL.gS rfl rfl rfl rfl ?_
      refine WL.ung rfl rfl ?_
      refine WL.y (Y.pick (b := false) rfl rfl) rfl ?_
      refine WL.ren (v' := Value.bool ((decide (a2 < 64)) && (!decide (shrU a1 ((toU64 a2).toNat) = 0)))) 25 rfl (congrArg Value.bool (andF hE15)) ?_
      exact WL.nil (At.join () rfl (.cons rfl (.cons rfl (.cons rfl (.cons rfl (.cons rfl .nil))))))
    ·rintro _ _ rfl
     refine (show WL _ _ _ _ _ [(0, Value.pointer (some ⟨b0, 0, none⟩)), (1, vu a1), (2, vi a2), (16, Value.bool false), (25, Value.bool ((decide (a2 < 64)) && (!decide (shrU a1 ((toU64 a2).toNat) = 0))))] _ from ?_)
     refine WL.y (Y.pick (b := false) rfl rfl) rfl ?_
     refine WL.ren (v' := Value.bool (((decide (a2 < 0)) || (decide (64 < a2))) || ((decide (a2 < 64)) && (!decide (shrU a1 ((toU64 a2).toNat) = 0))))) 26 rfl (congrArg Value.bool (orF hE14)) ?_
     exact WL.nil (At.join () rfl (.cons rfl (.cons rfl (.cons rfl (.cons rfl .nil)))))
  ·rintro _ _ rfl
   refine (show WL _ _ _ _ _ [(0, Value.pointer (some ⟨b0, 0, none⟩)), (1, vu a1), (2, vi a2), (26, Value.bool (((decide (a2 < 0)) || (decide (64 < a2))) || ((decide (a2 < 64)) && (!decide (shrU a1 ((toU64 a2).toNat) = 0)))))] _ from ?_)
   refine WL.nil ?_
   refine At.then ?_
   rcases cnd h with ⟨hc16, h⟩ | ⟨hc16, h⟩
   ·refine WC.condT' rfl hc16 ?_
    refine WC.seq ?_
    refine WC.region ?_
    refine WL.y (Y.assign rfl) rfl ?_
    refine WL.nil ?_
    refine At.then ?_
    refine WC.ret ?_
    refine At.thenR ?_
    obtain ⟨rfl, rfl⟩ := tup2 h
    have hs17 : Stp [] (Lg.OB b0 3 (Lg.OV v0_0 4 (Lg.O0 (fun _ => False)))) w (Lg.OB b0 3 (Lg.OV v0_0 4 (Lg.O0 (fun _ => False)))) w := (Stp.refl _ _ _)
    exact At.res (.inl rfl) rfl (.tmp rfl .nil) ⟨v0_0, rfl, (Stp.modL hs17 (sB sV1) rfl rfl), (OwnSl.outG ho11 hs17 (lowB (lowV low0 rfl rfl) rfl rfl) (lsB (lbV (ln0 rfl)) rfl)), hb12.blk⟩
   ·refine WC.condF' rfl hc16 ?_
    refine WC.skip ?_
    refine At.then ?_
    refine WC.seq ?_
    refine WC.block ?_
    obtain ⟨p35, h, hk37⟩ := flow1 h
    obtain ⟨k36, h⟩ := loop_some h
    refine WC.joinB 0 (σ := (List UInt8 × Int × Own × Value)) (fun x w' => p35 = .go (x.1, x.2.1) ∧ Stp [3, 4] (Lg.OB b0 3 (Lg.OV v0_0 4 (Lg.O0 (fun _ => False)))) w x.2.2.1 w' ∧ OwnSl 4 Rep.b 5 x.2.2.1 w' x.2.2.2 x.1 ∧ Blk 3 x.2.2.1 w' b0 64 [x.2.2.2, vi x.2.1]) (fun x => []) ?_ ?_
    ·refine WC.loop (σ := (List UInt8 × Int × Int × Own × Value)) (fun x k w' => loopN k (bitio_Writer_Put_lp1 a1) (x.1, x.2.1, x.2.2.1) = some p35 ∧ Stp [3, 4] (Lg.OB b0 3 (Lg.OV v0_0 4 (Lg.O0 (fun _ => False)))) w x.2.2.2.1 w' ∧ OwnSl 4 Rep.b 5 x.2.2.2.1 w' x.2.2.2.2 x.1 ∧ Blk 3 x.2.2.2.1 w' b0 64 [x.2.2.2.2, vi x.2.1]) (fun x => [(0, Value.pointer (some ⟨b0, 0, none⟩)), (1, vu a1), (2, vi x.2.2.1)]) (a0.b, a0.n, a2, (Lg.OB b0 3 (Lg.OV v0_0 4 (Lg.O0 (fun _ => False)))), v0_0) k36 (.cons rfl (.cons rfl (.cons rfl .nil))) ⟨h, (Stp.refl _ _ _), ho11, hb12⟩ ?_
     rintro ⟨c19, c22, nv23, O24, v20⟩ k36 wd25 ⟨h, hst26, hf21, hb18⟩
     obtain ⟨j38, q39, rfl, h, hn40⟩ := rnd1 h
     unfold bitio_Writer_Put_lp1 at h
     try dsimp only at h hst26 hf21 hb18
     refine (show WC _ _ _ _ [(0, Value.pointer (some ⟨b0, 0, none⟩)), (1, vu a1), (2, vi nv23)] _ from ?_)
     refine WC.seq ?_
     refine WC.seq ?_
     refine WC.region ?_
     refine WL.y (Y.move rfl) rfl ?_
     refine WL.y (Y.gtr_i rfl rfl) rfl ?_
     refine WL.nil ?_
     refine At.then ?_
     rcases cnd h with ⟨hc41, h⟩ | ⟨hc41, h⟩
     ·refine WC.condT' rfl hc41 ?_
      refine WC.skip ?_
      refine At.then ?_
      obtain ⟨p51, h, hk52⟩ := bnd h
      refine WC.join (σ := (List UInt8 × Int × Int × Own × Value)) (fun x w' => (x.1, x.2.1, x.2.2.1) = p51 ∧ Stp [3, 4] O24 wd25 x.2.2.2.1 w' ∧ OwnSl 4 Rep.b 5 x.2.2.2.1 w' x.2.2.2.2 x.1 ∧ Blk 3 x.2.2.2.1 w' b0 64 [x.2.2.2.2, vi x.2.1]) (fun x => [(0, Value.pointer (some ⟨b0, 0, none⟩)), (1, vu a1), (2, vi x.2.2.1)]) ?_ ?_
      ·refine WC.block ?_
       refine WC.seq ?_
       obtain ⟨p60, h, hk61⟩ := bnd h
       refine WC.join (σ := (List UInt8 × Own × Value)) (fun x w' => x.1 = p60 ∧ Stp [3, 4] O24 wd25 x.2.1 w' ∧ OwnSl 4 Rep.b 5 x.2.1 w' x.2.2 x.1 ∧ Blk 3 x.2.1 w' b0 64 [x.2.2, vi c22]) (fun x => [(0, Value.pointer (some ⟨b0, 0, none⟩)), (1, vu a1), (2, vi nv23)]) ?_ ?_
       ·refine WC.seq ?_
        refine WC.region ?_
        refine WL.y (Y.move rfl) rfl ?_
        obtain ⟨r62, hp63, h⟩ := bnd h
        refine WL.call (vals := [Value.pointer (some ⟨b0, 0, none⟩)]) kok39 rfl rfl (c_bitio_Writer_room (A := fun _ => True) (a0 := (bitio_Writer.mk c19 c22)) (hf21.src.sl) hb18.blk trivial hp63) ?_
        rintro vr66 wd65 ⟨rfl, hm64⟩
        obtain ⟨O67, hold68, hnew69, hst70⟩ := adoptE O24 (fun k => 1) hm64
        refine WL.y (Y.eql_i rfl rfl) rfl ?_
        refine WL.nil ?_
        refine At.then ?_
        rcases cnd h with ⟨hc71, h⟩ | ⟨hc71, h⟩
        ·refine WC.condT' rfl hc71 ?_
         refine WC.region ?_
         refine WL.y (Y.move rfl) rfl ?_
         refine WL.y (Y.move rfl) rfl ?_
         refine WL.y (Y.nilCheck rfl) rfl ?_
         refine WL.y (Y.fieldAddr fo64_0 rfl) rfl ?_
         have hf72 := hb18.st hst70 rfl
         refine WL.y (Y.loadSc ty27 rfl rfl (hf72.cell 0 _ rfl)) rfl ?_
         refine WL.buildSlice (O := O67) (R := Rep.b) (vals := [(0, vb 0)]) 11 [vb 0] (xs := [0]) (by decide) ty27 ty5 (by decide) (by decide) (Fits.evalp rfl) (by kernel_rfl) rfl ⟨[vb 0], [], rfl, rfl, rfl⟩ rfl ?_
         intro v73 O75 wd76 hst77 ho74
         obtain ⟨xs78, hxs78, h⟩ := bnd h
         have hf79 := hf21.st hst70 rfl rfl rfl
         have hf80 := hf79.st hst77 rfl rfl rfl
         refine WL.append (by decide) ty27 ty5 rfl (by decide) rfl rfl hf80 ho74.src hxs78 rfl ?_
         intro v84 O81 wd82 hst83 ho85
         refine WL.y (Y.nilCheck rfl) rfl ?_
         refine WL.y (Y.fieldAddr fo64_0 rfl) rfl ?_
         have hh89 := h
         obtain ⟨p86, m87, c88, rfl⟩ := ho85.shape
         have h := hh89
         have hf90 := hf72.st hst77 rfl
         have hf91 := hf90.st hst83 rfl
         refine WL.store (v := (Value.slice p86 m87 c88)) (cells' := [(Value.slice p86 m87 c88), vi c22]) ty27 rfl rfl hf91 rfl (Nat.le_of_ble_eq_true rfl) rfl rfl ?_
         intro wd92 hst93 hb94
         refine WL.nil ?_
         have hf95 := ho85.st hst93 rfl rfl rfl
         exact At.join (σ := (List UInt8 × Own × Value)) (xs78, O81, (Value.slice p86 m87 c88)) ⟨some1 h, (Stp.trans (Stp.up hst70 rfl) (Stp.trans (Stp.up hst77 rfl) (Stp.trans (Stp.up hst83 rfl) (Stp.up hst93 rfl)))), hf95, hb94⟩ (.cons rfl (.cons rfl (.cons rfl .nil)))
        ·refine WC.condF' rfl hc71 ?_
         refine WC.skip ?_
         have hf96 := hf21.st hst70 rfl rfl rfl
         have hf97 := hb18.st hst70 rfl
         exact At.join (σ := (List UInt8 × Own × Value)) (c19, O67, v20) ⟨some1 h, (Stp.up hst70 rfl), hf96, hf97⟩ (.cons rfl (.cons rfl (.cons rfl .nil)))
       ·rintro ⟨c54, O57, v55⟩ wd58 ⟨rfl, hst59, hf56, hb53⟩
        replace h := hk61
        try dsimp only at h hst59 hf56 hb53
        refine (show At _ _ _ [(0, Value.pointer (some ⟨b0, 0, none⟩)), (1, vu a1), (2, vi nv23)] _ from ?_)
        refine At.then ?_
        refine WC.seq ?_
        refine WC.region ?_
        refine WL.y (Y.move rfl) rfl ?_
        obtain ⟨r98, hp99, h⟩ := bnd h
        refine WL.call (vals := [Value.pointer (some ⟨b0, 0, none⟩)]) kok39 rfl rfl (c_bitio_Writer_room (A := fun _ => True) (a0 := (bitio_Writer.mk c54 c22)) (hf56.src.sl) hb53.blk trivial hp99) ?_
        rintro vr102 wd101 ⟨rfl, hm100⟩
        obtain ⟨O103, hold104, hnew105, hst106⟩ := adoptE O57 (fun k => 1) hm100
        refine WL.y (Y.assign rfl) rfl ?_
        refine WL.nil ?_
        refine At.then ?_
        refine WC.seq ?_
        refine WC.region ?_
        refine WL.y (Y.move rfl) rfl ?_
        refine WL.y (Y.move rfl) rfl ?_
        refine WL.y (Y.min_i rfl rfl) rfl ?_
        obtain ⟨k107, hk107, h⟩ := lt1 h
        refine WL.yE (Y.assign rfl) (congrArg vi hk107.symm) rfl ?_
        refine WL.nil ?_
        refine At.then ?_
        refine WC.seq ?_
        refine WC.region ?_
        refine WL.y (Y.move rfl) rfl ?_
        refine WL.y (Y.move rfl) rfl ?_
        refine WL.y (Y.move rfl) rfl ?_
        refine WL.y (Y.sub_i rfl rfl) rfl ?_
        refine WL.y (Y.conv_iu ty3.u ty55.u rfl) rfl ?_
        refine WL.y (Y.shr_uu rfl rfl) rfl ?_
        obtain ⟨piece108, hpiece108, h⟩ := lt1 h
        refine WL.yE (Y.assign rfl) (congrArg vu hpiece108.symm) rfl ?_
        refine WL.nil ?_
        refine At.then ?_
        refine WC.seq ?_
        obtain ⟨p110, h, hk111⟩ := bnd h
        refine WC.join (σ := UInt64) (fun x w' => x = p110 ∧ wd101 = w') (fun x => [(0, Value.pointer (some ⟨b0, 0, none⟩)), (1, vu a1), (2, vi nv23), (7, vi r98), (8, vi k107), (9, vu x)]) ?_ ?_
        ·refine WC.seq ?_
         refine WC.region ?_
         refine WL.y (Y.move rfl) rfl ?_
         refine WL.y (Y.lss_i rfl rfl) rfl ?_
         refine WL.nil ?_
         refine At.then ?_
         rcases cnd h with ⟨hc112, h⟩ | ⟨hc112, h⟩
         ·refine WC.condT' rfl hc112 ?_
          refine WC.region ?_
          refine WL.y (Y.move rfl) rfl ?_
          refine WL.y (Y.move rfl) rfl ?_
          refine WL.y (Y.conv_iu ty3.u ty55.u rfl) rfl ?_
          refine WL.y (Y.shl_uu (a := 1) rfl rfl) rfl ?_
          refine WL.y (Y.sub_u (b := 1) rfl rfl) rfl ?_
          refine WL.y (Y.and_u rfl rfl) rfl ?_
          obtain ⟨piece113, hpiece113, h⟩ := lt1 h
          refine WL.yE (Y.assign rfl) (congrArg vu hpiece113.symm) rfl ?_
          refine WL.nil ?_
          exact At.join (σ := UInt64) piece113 ⟨some1 h, rfl⟩ (.cons rfl (.cons rfl (.cons rfl (.cons rfl (.cons rfl (.cons rfl .nil))))))
         ·refine WC.condF' rfl hc112 ?_
          refine WC.skip ?_
          exact At.join (σ := UInt64) piece108 ⟨some1 h, rfl⟩ (.cons rfl (.cons rfl (.cons rfl (.cons rfl (.cons rfl (.cons rfl .nil))))))
        ·rintro piece109 _ ⟨rfl, rfl⟩
         replace h := hk111
         try dsimp only at h
         refine (show At _ _ _ [(0, Value.pointer (some ⟨b0, 0, none⟩)), (1, vu a1), (2, vi nv23), (7, vi r98), (8, vi k107), (9, vu piece109)] _ from ?_)
         refine At.then ?_
         refine WC.seq ?_
         refine WC.draw 21 O103 fmix (by kernel_rfl) ?_
         intro wd114 hst115
         refine WS.y (Y.move rfl) rfl ?_
         refine WS.y (Y.nilCheck rfl) rfl ?_
         refine WS.y (Y.fieldAddr fo64_0 rfl) rfl ?_
         have hf116 := hb53.st hst106 rfl
         have hf117 := hf116.st hst115 rfl
         refine WS.y (Y.loadSc ty27 rfl rfl (hf117.cell 0 _ rfl)) rfl ?_
         refine WS.y (Y.move rfl) rfl ?_
         refine WS.y (Y.nilCheck rfl) rfl ?_
         refine WS.y (Y.fieldAddr fo64_0 rfl) rfl ?_
         refine WS.y (Y.loadSc ty27 rfl rfl (hf117.cell 0 _ rfl)) rfl ?_
         have hf118 := hf56.st hst106 rfl rfl rfl
         have hf119 := hf118.st hst115 rfl rfl rfl
         refine WS.y (Y.len ty27 rfl hf119.src.sl) rfl ?_
         refine WS.y (Y.sub_i rfl rfl) rfl ?_
         obtain ⟨e120, he120, h⟩ := bnd h
         obtain ⟨b121, cap128, cs127, hv122, hi123, hl124, hc125, hok126⟩ := OwnSl.at hf119 he120
         obtain rfl := hok126
         replace hc125 : CellsAt _ _ _ [vb e120] := hc125
         have hca129 := CAt.own hf119 hv122 hc125
         refine WS.y (Y.indexAddr ty27 ty5 rfl hv122 rfl hi123 hl124) rfl ?_
         refine WS.y (Y.loadSc ty5 rfl rfl hca129.at_) rfl ?_
         refine WS.y (Y.move rfl) rfl ?_
         refine WS.y (Y.move rfl) rfl ?_
         refine WS.y (Y.move rfl) rfl ?_
         refine WS.y (Y.sub_i rfl rfl) rfl ?_
         refine WS.y (Y.conv_iu ty3.u ty55.u rfl) rfl ?_
         refine WS.y (Y.shl_uu rfl rfl) rfl ?_
         refine WS.y (Y.conv_ub ty23.u ty5.u rfl) rfl ?_
         refine WS.y (Y.or_b rfl rfl) rfl ?_
         obtain ⟨e130, he130, h⟩ := bnd h
         obtain ⟨b131, cap138, cs137, hv132, hi133, hl134, hc135, hok136⟩ := OwnSl.at hf119 he130
         obtain rfl := hok136
         replace hc135 : CellsAt _ _ _ [vb e130] := hc135
         have hca139 := CAt.own hf119 hv132 hc135
         refine WS.y (Y.indexAddr ty27 ty5 rfl hv132 rfl hi133 hl134) rfl ?_
         refine WS.tail ?_
         obtain ⟨t140, ht140, h⟩ := lt1 h
         refine WL.ren 79 rfl (congrArg vb ht140.symm) ?_
         obtain ⟨xs141, hxs141, h⟩ := bnd h
         refine WL.storeOwn (by decide) ty5 rfl rfl rfl hf119 hv132 hxs141 ?_
         intro wd142 hst143 ho144
         refine WL.nil ?_
         refine At.then ?_
         refine WC.seq ?_
         refine WC.region ?_
         refine WL.y (Y.move rfl) rfl ?_
         refine WL.y (Y.nilCheck rfl) rfl ?_
         refine WL.y (Y.fieldAddr fo64_1 rfl) rfl ?_
         have hf145 := hf117.st hst143 rfl
         refine WL.y (Y.loadSc ty3 rfl rfl (hf145.cell 1 _ rfl)) rfl ?_
         refine WL.y (Y.move rfl) rfl ?_
         refine WL.y (Y.add_i rfl rfl) rfl ?_
         refine WL.y (Y.nilCheck rfl) rfl ?_
         refine WL.y (Y.fieldAddr fo64_1 rfl) rfl ?_
         obtain ⟨t146, ht146, h⟩ := lt1 h
         refine WL.ren 86 rfl (congrArg vi ht146.symm) ?_
         refine WL.store (v := vi t146) (cells' := [v55, vi t146]) ty3 rfl rfl hf145 rfl (Nat.le_of_ble_eq_true rfl) rfl rfl ?_
         intro wd147 hst148 hb149
         refine WL.nil ?_
         refine At.then ?_
         refine WC.region ?_
         refine WL.y (Y.move rfl) rfl ?_
         refine WL.y (Y.move rfl) rfl ?_
         refine WL.y (Y.sub_i rfl rfl) rfl ?_
         obtain ⟨nv150, hnv150, h⟩ := lt1 h
         refine WL.yE (Y.assign rfl) (congrArg vi hnv150.symm) rfl ?_
         refine WL.nil ?_
         refine At.inBlock ?_
         have hf151 := ho144.st hst148 rfl rfl rfl
         exact At.join (σ := (List UInt8 × Int × Int × Own × Value)) (xs141, t146, nv150, O103, v55) ⟨some1 h, (Stp.trans (Stp.up hst59 rfl) (Stp.trans (Stp.up hst106 rfl) (Stp.trans (Stp.up hst115 rfl) (Stp.trans (Stp.up hst143 rfl) (Stp.up hst148 rfl))))), hf151, hb149⟩ (.cons rfl (.cons rfl (.cons rfl .nil)))
      ·rintro ⟨c43, c46, nv47, O48, v44⟩ wd49 ⟨rfl, hst50, hf45, hb42⟩
       replace h := hk52
       try dsimp only at h hst50 hf45 hb42
       refine (show At _ _ _ [(0, Value.pointer (some ⟨b0, 0, none⟩)), (1, vu a1), (2, vi nv47)] _ from ?_)
       exact At.round (c43, c46, nv47, O48, v44) j38 (Nat.lt_succ_self _) ⟨next1 h hn40, (Stp.trans (Stp.up hst26 rfl) (Stp.up hst50 rfl)), hf45, hb42⟩ (.cons rfl (.cons rfl (.cons rfl .nil)))
     ·refine WC.condF' rfl hc41 ?_
      refine WC.exit ?_
      refine At.thenX ?_
      refine At.loopX ?_
      exact At.hitB (σ := (List UInt8 × Int × Own × Value)) (c19, c22, O24, v20) ⟨brk1 h hn40, (Stp.up hst26 rfl), hf21, hb18⟩ .nil
    ·rintro ⟨c28, c31, O32, v29⟩ wd33 ⟨rfl, hst34, hf30, hb27⟩
     replace h := flowK_go hk37
     try dsimp only at h hst34 hf30 hb27
     refine (show At _ _ _ [] _ from ?_)
     refine At.inBlockHit ?_
     refine At.then ?_
     refine WC.seq ?_
     refine WC.region ?_
     refine WL.y (Y.assign rfl) rfl ?_
     refine WL.nil ?_
     refine At.then ?_
     refine WC.ret ?_
     obtain ⟨rfl, rfl⟩ := tup2 h
     have hs152 : Stp [3, 4] (Lg.OB b0 3 (Lg.OV v0_0 4 (Lg.O0 (fun _ => False)))) w O32 wd33 := (Stp.up hst34 rfl)
     exact At.res (.inl rfl) rfl (.tmp rfl .nil) ⟨v29, rfl, (Stp.modL hs152 (sB sV1) rfl rfl), (OwnSl.outG hf30 hs152 (lowB (lowV low0 rfl rfl) rfl rfl) (lsB (lbV (ln0 rfl)) rfl)), hb27.blk⟩

theorem c_xor_window_behind {a0 : xor_window} {w : World} {r0 : Int} (h : xor_window_behind a0 = some r0) : Rets Tryd.prog 32 [Value.agg (List.toArray [vi a0.ahead, vi a0.size])] w (fun v w' => v = vi r0 ∧ Ext w w') := by
 unfold xor_window_behind at h
 refine Rets.enter Tryd.func32 rfl rfl ?_
 refine (show WC _ _ _ _ [(0, Value.agg (List.toArray [vi a0.ahead, vi a0.size]))] _ from ?_)
 refine WC.seq ?_
 refine WC.region ?_
 refine WL.box (O := (Lg.O0 (fun _ => False))) 11 [vi a0.ahead, vi a0.size] rfl rfl rfl ?_
 intro p12 O13 wd14 hst15 hb11
 refine WL.y (Y.assign rfl) rfl ?_
 refine WL.nil ?_
 refine At.then ?_
 refine WC.seq ?_
 refine WC.region ?_
 refine WL.y (Y.fieldAddr fo60_0 rfl) rfl ?_
 refine WL.y (Y.loadSc ty3 rfl rfl (hb11.cell 0 _ rfl)) rfl ?_
 refine WL.y (Y.sub_i rfl rfl) rfl ?_
 refine WL.y (Y.fieldAddr fo60_1 rfl) rfl ?_
 refine WL.y (Y.loadSc ty3 rfl rfl (hb11.cell 1 _ rfl)) rfl ?_
 refine WL.y (Y.sub_i rfl rfl) rfl ?_
 obtain ⟨t16, ht16, h⟩ := lt1 h
 refine WL.yE (Y.assign rfl) (congrArg vi ht16.symm) rfl ?_
 refine WL.nil ?_
 refine At.then ?_
 refine WC.ret ?_
 obtain rfl := some1 h
 have hs17 : Stp [] (Lg.O0 (fun _ => False)) w O13 wd14 := (Stp.up hst15 rfl)
 exact At.res (.inl rfl) rfl (.tmp rfl .nil) ⟨rfl, (Stp.ext hs17 rfl rfl)⟩

theorem c_math_bits_Len64 {a0 : UInt64} {w : World} {r0 : Int} (h : math_bits_Len64 a0 = some r0) : Rets Tryd.prog 43 [vu a0] w (fun v w' => v = vi r0 ∧ Ext w w') := by
 unfold math_bits_Len64 at h
 refine Rets.enter Tryd.func43 rfl rfl ?_
 refine (show WC _ _ _ _ [(0, vu a0)] _ from ?_)
 refine WC.seq ?_
 refine WC.region ?_
 refine WL.y (Y.assign rfl) rfl ?_
 refine WL.nil ?_
 refine At.then ?_
 refine WC.seq ?_
 obtain ⟨p13, h, hk14⟩ := bnd h
 refine WC.join (σ := (UInt64 × Int)) (fun x w' => (x.1, x.2) = p13 ∧ w = w') (fun x => [(0, vu x.1), (2, vi x.2)]) ?_ ?_
 ·refine WC.seq ?_
  refine WC.region ?_
  refine WL.y (Y.move rfl) rfl ?_
  refine WL.y (Y.geq_u (b := 4294967296) rfl rfl) rfl ?_
  refine WL.nil ?_
  refine At.then ?_
  rcases cnd h with ⟨hc15, h⟩ | ⟨hc15, h⟩
  ·refine WC.condT' rfl hc15 ?_
   refine WC.seq ?_
   refine WC.region ?_
   refine WL.y (Y.move rfl) rfl ?_
   refine WL.y (Y.shr_uu (m := 32) rfl rfl) rfl ?_
   obtain ⟨x16, hx16, h⟩ := lt1 h
   refine WL.yE (Y.assign rfl) (congrArg vu hx16.symm) rfl ?_
   refine WL.nil ?_
   refine At.then ?_
   refine WC.region ?_
   refine WL.y (Y.assign rfl) rfl ?_
   refine WL.nil ?_
   exact At.join (σ := (UInt64 × Int)) (x16, 32) ⟨some1 h, rfl⟩ (.cons rfl (.cons rfl .nil))
  ·refine WC.condF' rfl hc15 ?_
   refine WC.skip ?_
   exact At.join (σ := (UInt64 × Int)) (a0, 0) ⟨some1 h, rfl⟩ (.cons rfl (.cons rfl .nil))
 ·rintro ⟨x11, nv12⟩ _ ⟨rfl, rfl⟩
  replace h := hk14
  try dsimp only at h
  refine (show At _ _ _ [(0, vu x11), (2, vi nv12)] _ from ?_)
  refine At.then ?_
  refine WC.seq ?_
  obtain ⟨p19, h, hk20⟩ := bnd h
  refine WC.join (σ := (UInt64 × Int)) (fun x w' => (x.1, x.2) = p19 ∧ w = w') (fun x => [(0, vu x.1), (2, vi x.2)]) ?_ ?_
  ·refine WC.seq ?_
   refine WC.region ?_
   refine WL.y (Y.move rfl) rfl ?_
   refine WL.y (Y.geq_u (b := 65536) rfl rfl) rfl ?_
   refine WL.nil ?_
   refine At.then ?_
   rcases cnd h with ⟨hc21, h⟩ | ⟨hc21, h⟩
   ·refine WC.condT' rfl hc21 ?_
    refine WC.seq ?_
    refine WC.region ?_
    refine WL.y (Y.move rfl) rfl ?_
    refine WL.y (Y.shr_uu (m := 16) rfl rfl) rfl ?_
    obtain ⟨x22, hx22, h⟩ := lt1 h
    refine WL.yE (Y.assign rfl) (congrArg vu hx22.symm) rfl ?_
    refine WL.nil ?_
    refine At.then ?_
    refine WC.region ?_
    refine WL.y (Y.move rfl) rfl ?_
    refine WL.y (Y.add_i rfl rfl) rfl ?_
    obtain ⟨nv23, hnv23, h⟩ := lt1 h
    refine WL.yE (Y.assign rfl) (congrArg vi hnv23.symm) rfl ?_
    refine WL.nil ?_
    exact At.join (σ := (UInt64 × Int)) (x22, nv23) ⟨some1 h, rfl⟩ (.cons rfl (.cons rfl .nil))
   ·refine WC.condF' rfl hc21 ?_
    refine WC.skip ?_
    exact At.join (σ := (UInt64 × Int)) (x11, nv12) ⟨some1 h, rfl⟩ (.cons rfl (.cons rfl .nil))
  ·rintro ⟨x17, nv18⟩ _ ⟨rfl, rfl⟩
   replace h := hk20
   try dsimp only at h
   refine (show At _ _ _ [(0, vu x17), (2, vi nv18)] _ from ?_)
   refine At.then ?_
   refine WC.seq ?_
   obtain ⟨p26, h, hk27⟩ := bnd h
   refine WC.join (σ := (UInt64 × Int)) (fun x w' => (x.1, x.2) = p26 ∧ w = w') (fun x => [(0, vu x.1), (2, vi x.2)]) ?_ ?_
   ·refine WC.seq ?_
    refine WC.region ?_
    refine WL.y (Y.move rfl) rfl ?_
    refine WL.y (Y.geq_u (b := 256) rfl rfl) rfl ?_
    refine WL.nil ?_
    refine At.then ?_
    rcases cnd h with ⟨hc28, h⟩ | ⟨hc28, h⟩
    ·refine WC.condT' rfl hc28 ?_
     refine WC.seq ?_
     refine WC.region ?_
     refine WL.y (Y.move rfl) rfl ?_
     refine WL.y (Y.shr_uu (m := 8) rfl rfl) rfl ?_
     obtain ⟨x29, hx29, h⟩ := lt1 h
     refine WL.yE (Y.assign rfl) (congrArg vu hx29.symm) rfl ?_
     refine WL.nil ?_
     refine At.then ?_
     refine WC.region ?_
     refine WL.y (Y.move rfl) rfl ?_
     refine WL.y (Y.add_i rfl rfl) rfl ?_
     obtain ⟨nv30, hnv30, h⟩ := lt1 h
     refine WL.yE (Y.assign rfl) (congrArg vi hnv30.symm) rfl ?_
     refine WL.nil ?_
     exact At.join (σ := (UInt64 × Int)) (x29, nv30) ⟨some1 h, rfl⟩ (.cons rfl (.cons rfl .nil))
    ·refine WC.condF' rfl hc28 ?_
     refine WC.skip ?_
     exact At.join (σ := (UInt64 × Int)) (x17, nv18) ⟨some1 h, rfl⟩ (.cons rfl (.cons rfl .nil))
   ·rintro ⟨x24, nv25⟩ _ ⟨rfl, rfl⟩
    replace h := hk27
    try dsimp only at h
    refine (show At _ _ _ [(0, vu x24), (2, vi nv25)] _ from ?_)
    refine At.then ?_
    refine WC.seq ?_
    refine WC.region ?_
    refine WL.y (Y.move rfl) rfl ?_
    refine WL.y (Y.move rfl) rfl ?_
    refine WL.y (Y.conv_ub ty23.u ty5.u rfl) rfl ?_
    obtain ⟨c31, hc31, h⟩ := bnd h
    refine WL.y (Y.index_s (xs := lit_c95356610d) ty9 rfl rfl hc31) rfl ?_
    refine WL.y (Y.conv_bi ty5.u ty3.u rfl) rfl ?_
    refine WL.y (Y.add_i rfl rfl) rfl ?_
    obtain ⟨nv32, hnv32, h⟩ := lt1 h
    refine WL.yE (Y.assign rfl) (congrArg vi hnv32.symm) rfl ?_
    refine WL.nil ?_
    refine At.then ?_
    refine WC.ret ?_
    obtain rfl := some1 h
    have hs33 : Stp [] (Lg.O0 (fun _ => False)) w (Lg.O0 (fun _ => False)) w := (Stp.refl _ _ _)
    exact At.res (.inl rfl) rfl (.tmp rfl .nil) ⟨rfl, (Stp.ext hs33 rfl rfl)⟩

theorem c_math_bits_LeadingZeros64 {a0 : UInt64} {w : World} {r0 : Int} (h : math_bits_LeadingZeros64 a0 = some r0) : Rets Tryd.prog 40 [vu a0] w (fun v w' => v = vi r0 ∧ Ext w w') := by
 unfold math_bits_LeadingZeros64 at h
 refine Rets.enter Tryd.func40 rfl rfl ?_
 refine (show WC _ _ _ _ [(0, vu a0)] _ from ?_)
 refine WC.seq ?_
 refine WC.region ?_
 refine WL.y (Y.assign rfl) rfl ?_
 refine WL.nil ?_
 refine At.then ?_
 refine WC.seq ?_
 refine WC.region ?_
 refine WL.y (Y.move rfl) rfl ?_
 obtain ⟨r11, hp12, h⟩ := bnd h
 refine WL.call (vals := [vu a0]) kok43 rfl rfl (c_math_bits_Len64 hp12) ?_
 rintro vr15 wd14 ⟨rfl, hm13⟩
 obtain ⟨O16, hold17, hnew18, hst19⟩ := adoptE (Lg.O0 (fun _ => False)) (fun k => 1) hm13
 refine WL.y (Y.sub_i rfl rfl) rfl ?_
 obtain ⟨t20, ht20, h⟩ := lt1 h
 refine WL.yE (Y.assign rfl) (congrArg vi ht20.symm) rfl ?_
 refine WL.nil ?_
 refine At.then ?_
 refine WC.ret ?_
 obtain rfl := some1 h
 have hs21 : Stp [] (Lg.O0 (fun _ => False)) w O16 wd14 := (Stp.up hst19 rfl)
 exact At.res (.inl rfl) rfl (.tmp rfl .nil) ⟨rfl, (Stp.ext hs21 rfl rfl)⟩

theorem c_math_bits_TrailingZeros64 {A : Nat → Prop} {a0 : UInt64} {w : World} (hG1 : CellsAt w 1 0 (gdat1.map vb)) (hGA1 : A 1) {r0 : Int} (h : math_bits_TrailingZeros64 a0 = some r0) : Rets Tryd.prog 41 [vu a0] w (fun v w' => v = vi r0 ∧ Ext w w') := by
 unfold math_bits_TrailingZeros64 at h
 refine Rets.enter Tryd.func41 rfl rfl ?_
 have hG11 : CAt [0, 1] (Lg.O0 A) w 1 0 (gdat1.map vb) := CAt.glob hG1 (if_pos hGA1)
 refine (show WC _ _ _ _ [(0, vu a0)] _ from ?_)
 refine WC.seq ?_
 refine WC.region ?_
 refine WL.y (Y.assign rfl) rfl ?_
 refine WL.nil ?_
 refine At.then ?_
 refine WC.seq ?_
 refine WC.seq ?_
 refine WC.region ?_
 refine WL.y (Y.move rfl) rfl ?_
 refine WL.y (Y.eql_u (b := 0) rfl rfl) rfl ?_
 refine WL.nil ?_
 refine At.then ?_
 rcases cnd h with ⟨hc12, h⟩ | ⟨hc12, h⟩
 ·refine WC.condT' rfl hc12 ?_
  refine WC.seq ?_
  refine WC.region ?_
  refine WL.y (Y.assign rfl) rfl ?_
  refine WL.nil ?_
  refine At.then ?_
  refine WC.ret ?_
  refine At.thenR ?_
  obtain rfl := some1 h
  have hs13 : Stp [] (Lg.O0 A) w (Lg.O0 A) w := (Stp.refl _ _ _)
  exact At.res (.inl rfl) rfl (.tmp rfl .nil) ⟨rfl, (Stp.ext hs13 rfl rfl)⟩
 ·refine WC.condF' rfl hc12 ?_
  refine WC.skip ?_
  refine At.then ?_
  refine WC.seq ?_
  refine WC.region ?_
  refine WL.y (Y.move rfl) rfl ?_
  refine WL.y (Y.move rfl) rfl ?_
  refine WL.y (Y.neg_u rfl) rfl ?_
  refine WL.y (Y.and_u rfl rfl) rfl ?_
  refine WL.y (Y.mul_u (b := 285870213051353865) rfl rfl) rfl ?_
  refine WL.y (Y.shr_uu (m := 58) rfl rfl) rfl ?_
  obtain ⟨e14, he14, h⟩ := bnd h
  obtain ⟨cs15, hca16, hok17, hi18, hl19⟩ := CAt.idx (R := Rep.b) (A := fun _ => True) hG11 (rowsB gdat1) he14
  obtain rfl := hok17
  replace hca16 : CAt _ _ _ _ _ [vb e14] := hca16
  refine WL.y (Y.indexAddrA ty84 ty5 rfl rfl hi18 hl19) rfl ?_
  refine WL.y (Y.loadSc ty5 rfl rfl hca16.at_) rfl ?_
  refine WL.y (Y.conv_bi ty5.u ty3.u rfl) rfl ?_
  obtain ⟨t20, ht20, h⟩ := lt1 h
  refine WL.yE (Y.assign rfl) (congrArg vi ht20.symm) rfl ?_
  refine WL.nil ?_
  refine At.then ?_
  refine WC.ret ?_
  obtain rfl := some1 h
  have hs21 : Stp [] (Lg.O0 A) w (Lg.O0 A) w := (Stp.refl _ _ _)
  exact At.res (.inl rfl) rfl (.tmp rfl .nil) ⟨rfl, (Stp.ext hs21 rfl rfl)⟩

theorem c_xor_window_holds {A : Nat → Prop} {a0 : xor_window} {a1 : UInt64} {w : World} (hG0 : CellsAt w 0 0 [vi 0, vi 0]) (hGA0 : A 0) (hG1 : CellsAt w 1 0 (gdat1.map vb)) (hGA1 : A 1) {r0 : Bool} (h : xor_window_holds a0 a1 = some r0) : Rets Tryd.prog 31 [Value.agg (List.toArray [vi a0.ahead, vi a0.size]), vu a1] w (fun v w' => v = Value.bool r0 ∧ Ext w w') := by
 unfold xor_window_holds at h
 refine Rets.enter Tryd.func31 rfl rfl ?_
 have hG11 : CAt [0, 1] (Lg.O0 A) w 0 0 [vi 0, vi 0] := CAt.glob hG0 (if_pos hGA0)
 have hG12 : CAt [0, 1] (Lg.O0 A) w 1 0 (gdat1.map vb) := CAt.glob hG1 (if_pos hGA1)
 refine (show WC _ _ _ _ [(0, Value.agg (List.toArray [vi a0.ahead, vi a0.size])), (1, vu a1)] _ from ?_)
 refine WC.seq ?_
 refine WC.region ?_
 refine WL.box (O := (Lg.O0 A)) 11 [vi a0.ahead, vi a0.size] rfl rfl rfl ?_
 intro p14 O15 wd16 hst17 hb13
 refine WL.y (Y.assign rfl) rfl ?_
 refine WL.nil ?_
 refine At.then ?_
 refine WC.seq ?_
 refine WC.drawH [] [0, 1, 2, 3, 4, 5, 6, 7, 8, 9, 10, 11, 12, 13, 14, 15, 16, 17] O15 18 fmix rfl (by kernel_rfl) ?_
 intro wd18 hst19
 refine WD.y 0 rfl (by kernel_rfl) (fun wd21 O20 hst22 => have hf23 := hb13.st hst19 rfl; have hf24 := hf23.st hst22 rfl; Y.loadAg ty60 rfl rfl (hf24.cells 0 [vi a0.ahead, vi a0.size] rfl) rfl) rfl ?_
 refine WD.y 1 rfl (by kernel_rfl) (fun wd26 O25 hst27 => have hf28 := hG11.st hst17 rfl; have hf29 := hf28.st hst19 rfl; have hf30 := hf29.st hst27 rfl; Y.loadAg ty60 rfl rfl hf30.at_ rfl) rfl ?_
 refine WD.y 2 rfl (by kernel_rfl) (fun _ _ _ => Y.neq_ag agok60 rfl rfl (EqF.cons (by decide) (fun w => run_part_plain w (by kernel_rfl) rfl) (fun w => run_part_plain w (by kernel_rfl) rfl) (EqV.i (a := a0.ahead) (b := 0) ty3.u) (EqF.cons (by decide) (fun w => run_part_plain w (by kernel_rfl) rfl) (fun w => run_part_plain w (by kernel_rfl) rfl) (EqV.i (a := a0.size) (b := 0) ty3.u) EqF.nil))) rfl ?_
 refine WD.y 3 rfl (by kernel_rfl) (fun _ _ _ => Y.move rfl) rfl ?_
 obtain ⟨p41, h, hk42⟩ := bnd h
 refine WD.join (σ := (Bool × Own)) (f' := 8) [9, 8, 5, 7, 6, 4, 3, 2, 1, 0] (fun x O' w' => x.1 = p41 ∧ Stp [] O15 wd18 x.2 w' ∧ x.2 = O') (fun x => [(1, vu a1), (2, Value.pointer (some ⟨p14, 0, none⟩)), (4, Value.bool false), (14, Value.bool x.1)]) (fun hJ43 => ?_) ?_
 ·rcases cnd h with ⟨hE44, h⟩ | ⟨hE44, h⟩
  ·refine WD.ren 8 rfl (congrArg Value.bool hE44) ?_
   refine WD.gT 4 rfl (by kernel_rfl) rfl rfl (fun _ _ _ => Y.move rfl) rfl ?_
   refine WD.gT 6 rfl (by kernel_rfl) rfl rfl (fun _ _ _ => Y.fieldAddr fo60_0 rfl) rfl ?_
   refine WD.gT 7 rfl (by kernel_rfl) rfl rfl (fun wd52 O51 hst53 => have hf54 := hb13.st hst19 rfl; have hf55 := hf54.st hst53 rfl; Y.loadSc ty3 rfl rfl (hf55.cell 0 _ rfl)) rfl ?_
   refine WD.heavy 5 rfl (by kernel_rfl) ?_
   refine WL.ung rfl rfl ?_
   obtain ⟨r56, hp57, h⟩ := bnd h
   refine WL.call (vals := [vu a1]) kok40 rfl rfl (c_math_bits_LeadingZeros64 hp57) ?_
   rintro vr60 wd59 ⟨rfl, hm58⟩
   obtain ⟨O61, hold62, hnew63, hst64⟩ := adoptE O15 (fun k => 1) hm58
   refine WL.nil ?_
   refine At.dq (Stp.up hst64 rfl) ?_
   refine WD.gT 8 rfl (by kernel_rfl) rfl rfl (fun _ _ _ => Y.geq_i rfl rfl) rfl ?_
   refine WD.y 9 rfl (by kernel_rfl) (fun _ _ _ => Y.pick (b := true) rfl rfl) rfl ?_
   refine WD.ren 8 rfl (congrArg Value.bool hE44.symm) ?_
   exact hJ43 (decide (a0.ahead ≤ r56), O61) _ _ _ ⟨some1 h, (Stp.up hst64 rfl), rfl⟩ (.cons rfl (.cons rfl (.cons rfl (.cons rfl .nil))))
  ·refine WD.ren 8 rfl (congrArg Value.bool hE44) ?_
   refine WD.gS 4 rfl (by kernel_rfl) rfl rfl rfl rfl ?_
   refine WD.gS 6 rfl (by kernel_rfl) rfl rfl rfl rfl ?_
   refine WD.gS 7 rfl (by kernel_rfl) rfl rfl rfl rfl ?_
   refine WD.heavy 5 rfl (by kernel_rfl) ?_
   refine WL.gS rfl rfl rfl rfl ?_
   refine WL.nil ?_
   refine At.dq (Stp.refl _ _ _) ?_
   refine WD.gS 8 rfl (by kernel_rfl) rfl rfl rfl rfl ?_
   refine WD.y 9 rfl (by kernel_rfl) (fun _ _ _ => Y.pick (b := false) rfl rfl) rfl ?_
   refine WD.ren 8 rfl (congrArg Value.bool hE44.symm) ?_
   exact hJ43 (false, O15) _ _ _ ⟨some1 h, (Stp.refl _ _ _), rfl⟩ (.cons rfl (.cons rfl (.cons rfl (.cons rfl .nil))))
 ·rintro ⟨x37, O38⟩ _ wd39 ⟨rfl, hst40, rfl⟩
  replace h := hk42
  try dsimp only at h hst40
  refine (show WD _ _ _ _ _ _ _ _ [(1, vu a1), (2, Value.pointer (some ⟨p14, 0, none⟩)), (4, Value.bool false), (14, Value.bool x37)] _ _ from ?_)
  refine WD.y 10 rfl (by kernel_rfl) (fun _ _ _ => Y.move rfl) rfl ?_
  obtain ⟨p81, h, hk82⟩ := bnd h
  refine WD.join (σ := (Bool × Own)) (f' := 1) [16, 15, 14, 12, 13, 11, 10, 9, 8, 5, 7, 6, 4, 3, 2, 1, 0] (fun x O' w' => x.1 = p81 ∧ Stp [] O38 wd39 x.2 w' ∧ x.2 = O') (fun x => [(4, Value.bool false), (21, Value.bool x.1)]) (fun hJ83 => ?_) ?_
  ·rcases cnd h with ⟨hE84, h⟩ | ⟨hE84, h⟩
   ·refine WD.ren 15 rfl (congrArg Value.bool hE84) ?_
    refine WD.gT 11 rfl (by kernel_rfl) rfl rfl (fun _ _ _ => Y.move rfl) rfl ?_
    refine WD.gT 13 rfl (by kernel_rfl) rfl rfl (fun wd89 O88 hst90 => have hf91 := hb13.st hst19 rfl; have hf92 := hf91.st hst40 rfl; have hf93 := hf92.st hst90 rfl; Y.loadAg ty60 rfl rfl (hf93.cells 0 [vi a0.ahead, vi a0.size] rfl) rfl) rfl ?_
    refine WD.heavy 12 rfl (by kernel_rfl) ?_
    refine WL.ung rfl rfl ?_
    have hf94 := hG12.st hst17 rfl
    have hf95 := hf94.st hst19 rfl
    have hf96 := hf95.st hst40 rfl
    obtain ⟨r97, hp98, h⟩ := bnd h
    refine WL.call (vals := [vu a1]) kok41 rfl rfl (c_math_bits_TrailingZeros64 (A := fun _ => True) hf96.at_ trivial hp98) ?_
    rintro vr101 wd100 ⟨rfl, hm99⟩
    obtain ⟨O102, hold103, hnew104, hst105⟩ := adoptE O38 (fun k => 1) hm99
    refine WL.nil ?_
    refine At.dq (Stp.up hst105 rfl) ?_
    refine WD.heavy 14 rfl (by kernel_rfl) ?_
    refine WL.ung rfl rfl ?_
    obtain ⟨r106, hp107, h⟩ := bnd h
    refine WL.call (vals := [Value.agg (List.toArray [vi a0.ahead, vi a0.size])]) kok32 rfl rfl (c_xor_window_behind (a0 := a0) hp107) ?_
    rintro vr110 wd109 ⟨rfl, hm108⟩
    obtain ⟨O111, hold112, hnew113, hst114⟩ := adoptE O102 (fun k => 1) hm108
    refine WL.nil ?_
    refine At.dq (Stp.up hst114 rfl) ?_
    refine WD.gT 15 rfl (by kernel_rfl) rfl rfl (fun _ _ _ => Y.geq_i rfl rfl) rfl ?_
    refine WD.y 16 rfl (by kernel_rfl) (fun _ _ _ => Y.pick (b := true) rfl rfl) rfl ?_
    refine WD.ren 15 rfl (congrArg Value.bool hE84.symm) ?_
    exact hJ83 (decide (r106 ≤ r97), O111) _ _ _ ⟨some1 h, (Stp.trans (Stp.up hst105 rfl) (Stp.up hst114 rfl)), rfl⟩ (.cons rfl (.cons rfl .nil))
   ·refine WD.ren 15 rfl (congrArg Value.bool hE84) ?_
    refine WD.gS 11 rfl (by kernel_rfl) rfl rfl rfl rfl ?_
    refine WD.gS 13 rfl (by kernel_rfl) rfl rfl rfl rfl ?_
    refine WD.heavy 12 rfl (by kernel_rfl) ?_
    refine WL.gS rfl rfl rfl rfl ?_
    refine WL.nil ?_
    refine At.dq (Stp.refl _ _ _) ?_
    refine WD.heavy 14 rfl (by kernel_rfl) ?_
    refine WL.gS rfl rfl rfl rfl ?_
    refine WL.nil ?_
    refine At.dq (Stp.refl _ _ _) ?_
    refine WD.gS 15 rfl (by kernel_rfl) rfl rfl rfl rfl ?_
    refine WD.y 16 rfl (by kernel_rfl) (fun _ _ _ => Y.pick (b := false) rfl rfl) rfl ?_
    refine WD.ren 15 rfl (congrArg Value.bool hE84.symm) ?_
    exact hJ83 (false, O38) _ _ _ ⟨some1 h, (Stp.refl _ _ _), rfl⟩ (.cons rfl (.cons rfl .nil))
  ·rintro ⟨x77, O78⟩ _ wd79 ⟨rfl, hst80, rfl⟩
   replace h := hk82
   try dsimp only at h hst80
   refine (show WD _ _ _ _ _ _ _ _ [(4, Value.bool false), (21, Value.bool x77)] _ _ from ?_)
   refine WD.y 17 rfl (by kernel_rfl) (fun _ _ _ => Y.assign rfl) rfl ?_
   refine WD.done_ (by kernel_rfl) ?_
   refine At.then ?_
   refine WC.ret ?_
   obtain rfl := some1 h
   have hs127 : Stp [] (Lg.O0 A) w O78 wd79 := (Stp.trans (Stp.up hst17 rfl) (Stp.trans (Stp.up hst19 rfl) (Stp.trans (Stp.up hst40 rfl) (Stp.up hst80 rfl))))
   exact At.res (.inl rfl) rfl (.tmp rfl .nil) ⟨rfl, (Stp.ext hs127 rfl rfl)⟩

theorem c_xor_around {A : Nat → Prop} {a0 : UInt64} {w : World} (hG1 : CellsAt w 1 0 (gdat1.map vb)) (hGA1 : A 1) {r0 : xor_window} (h : xor_around a0 = some r0) : Rets Tryd.prog 33 [vu a0] w (fun v w' => v = Value.agg (List.toArray [vi r0.ahead, vi r0.size]) ∧ Ext w w') := by
 unfold xor_around at h
 refine Rets.enter Tryd.func33 rfl rfl ?_
 have hG11 : CAt [0, 1] (Lg.O0 A) w 1 0 (gdat1.map vb) := CAt.glob hG1 (if_pos hGA1)
 refine (show WC _ _ _ _ [(0, vu a0)] _ from ?_)
 refine WC.seq ?_
 refine WC.region ?_
 refine WL.alloc (O := (Lg.O0 A)) 11 [vi 0, vi 0] ty60 rfl rfl ?_
 intro p13 O14 wd15 hst16 hb12
 refine WL.nil ?_
 refine At.then ?_
 refine WC.seq ?_
 refine WC.region ?_
 refine WL.y (Y.move rfl) rfl ?_
 obtain ⟨r17, hp18, h⟩ := bnd h
 refine WL.call (vals := [vu a0]) kok40 rfl rfl (c_math_bits_LeadingZeros64 hp18) ?_
 rintro vr21 wd20 ⟨rfl, hm19⟩
 obtain ⟨O22, hold23, hnew24, hst25⟩ := adoptE O14 (fun k => 1) hm19
 refine WL.y (Y.min_i rfl rfl) rfl ?_
 obtain ⟨ahead26, hahead26, h⟩ := lt1 h
 refine WL.yE (Y.assign rfl) (congrArg vi hahead26.symm) rfl ?_
 refine WL.nil ?_
 refine At.then ?_
 refine WC.seq ?_
 refine WC.region ?_
 refine WL.y (Y.move rfl) rfl ?_
 refine WL.y (Y.move rfl) rfl ?_
 refine WL.y (Y.sub_i rfl rfl) rfl ?_
 refine WL.y (Y.move rfl) rfl ?_
 have hf27 := hG11.st hst16 rfl
 have hf28 := hf27.st hst25 rfl
 obtain ⟨r29, hp30, h⟩ := bnd h
 refine WL.call (vals := [vu a0]) kok41 rfl rfl (c_math_bits_TrailingZeros64 (A := fun _ => True) hf28.at_ trivial hp30) ?_
 rintro vr33 wd32 ⟨rfl, hm31⟩
 obtain ⟨O34, hold35, hnew36, hst37⟩ := adoptE O22 (fun k => 1) hm31
 refine WL.y (Y.sub_i rfl rfl) rfl ?_
 refine WL.y (Y.build (vals := [(0, vi ahead26), (1, vi (w64 ((w64 (64 - ahead26)) - r29)))]) (cells := [vi ahead26, vi (w64 ((w64 (64 - ahead26)) - r29))]) (Fits.evalp rfl) (by kernel_rfl)) rfl ?_
 have hf38 := hb12.st hst25 rfl
 have hf39 := hf38.st hst37 rfl
 refine WL.store (v := Value.agg (List.toArray [vi ahead26, vi (w64 ((w64 (64 - ahead26)) - r29))])) (cells' := [vi ahead26, vi (w64 ((w64 (64 - ahead26)) - r29))]) ty60 rfl rfl hf39 rfl (Nat.le_of_ble_eq_true rfl) rfl rfl ?_
 intro wd40 hst41 hb42
 refine WL.nil ?_
 refine At.then ?_
 refine WC.ret ?_
 obtain rfl := some1 h
 have hs43 : Stp [11] (Lg.O0 A) w O34 wd40 := (Stp.trans (Stp.up hst16 rfl) (Stp.trans (Stp.up hst25 rfl) (Stp.trans (Stp.up hst37 rfl) (Stp.up hst41 rfl))))
 exact At.res (.inl rfl) rfl (.cell rfl (hb42.runAg 0 [vi ahead26, vi (w64 ((w64 (64 - ahead26)) - r29))] ty60 rfl rfl rfl) .nil) ⟨rfl, (Stp.ext hs43 rfl rfl)⟩

theorem c_xor_Row_Put {A : Nat → Prop} {a0 : xor_Row} {b0 : Nat} {v1_0 : Value} {a1 : bitio_Writer} {b1 : Nat} {a2 : UInt64} {w : World} (hb0 : w.heap[b0]? = some (.cells (List.toArray [vi a0.n, vu a0.last, vi a0.win.ahead, vi a0.win.size]) 62 (0, 0))) (hs1_0 : Row Rep.b 5 w v1_0 a1.b) (hb1 : w.heap[b1]? = some (.cells (List.toArray [v1_0, vi a1.n]) 64 (0, 0))) (hG0 : CellsAt w 0 0 [vi 0, vi 0]) (hGA0 : A 0) (hG1 : CellsAt w 1 0 (gdat1.map vb)) (hGA1 : A 1) (hne0_1 : b0 ≠ b1) (hne0_2 : Value.ownBlock v1_0 ≠ some b0) (hne1_2 : Value.ownBlock v1_0 ≠ some b1) (hA : ∀ k, A k → k ≠ b0 ∧ k ≠ b1 ∧ Value.ownBlock v1_0 ≠ some k) {q0 : xor_Row} {q1 : bitio_Writer} (h : xor_Row_Put a0 a1 a2 = some (q0, q1)) : Rets Tryd.prog 16 [Value.pointer (some ⟨b0, 0, none⟩), Value.pointer (some ⟨b1, 0, none⟩), vu a2] w (fun v w' => ∃ (z1_0 : Value), v = Value.tuple (List.toArray []) ∧ Mod (fun k => k = b0 ∨ k = b1 ∨ Value.ownBlock v1_0 = some k) w w' ∧ w'.heap[b0]? = some (.cells (List.toArray [vi q0.n, vu q0.last, vi q0.win.ahead, vi q0.win.size]) 62 (0, 0)) ∧ RowG Rep.b 5 w w' v1_0 z1_0 q1.b ∧ w'.heap[b1]? = some (.cells (List.toArray [z1_0, vi q1.n]) 64 (0, 0))) := by
 unfold xor_Row_Put at h
 refine Rets.enter Tryd.func16 rfl rfl ?_
 have hb11 : Blk 3 (Lg.OB b0 3 (Lg.OB b1 4 (Lg.OV v1_0 5 (Lg.O0 A)))) w b0 62 [vi a0.n, vu a0.last, vi a0.win.ahead, vi a0.win.size] := ⟨(if_pos rfl), hb0⟩
 have ho12 : OwnSl 5 Rep.b 5 (Lg.OB b0 3 (Lg.OB b1 4 (Lg.OV v1_0 5 (Lg.O0 A)))) w v1_0 a1.b := Row.start Flat.b hs1_0 (fun k hk => ((if_neg (fun (e : k = b0) => hne0_2 (e ▸ hk))).trans ((if_neg (fun (e : k = b1) => hne1_2 (e ▸ hk))).trans (if_pos hk))))
 have hb13 : Blk 4 (Lg.OB b0 3 (Lg.OB b1 4 (Lg.OV v1_0 5 (Lg.O0 A)))) w b1 64 [v1_0, vi a1.n] := ⟨((if_neg (fun (e : b1 = b0) => hne0_1 e.symm)).trans (if_pos rfl)), hb1⟩
 have hG14 : CAt [0, 1] (Lg.OB b0 3 (Lg.OB b1 4 (Lg.OV v1_0 5 (Lg.O0 A)))) w 0 0 [vi 0, vi 0] := CAt.glob hG0 ((if_neg (hA _ hGA0).1).trans ((if_neg (hA _ hGA0).2.1).trans ((if_neg (hA _ hGA0).2.2).trans (if_pos hGA0))))
 have hG15 : CAt [0, 1] (Lg.OB b0 3 (Lg.OB b1 4 (Lg.OV v1_0 5 (Lg.O0 A)))) w 1 0 (gdat1.map vb) := CAt.glob hG1 ((if_neg (hA _ hGA1).1).trans ((if_neg (hA _ hGA1).2.1).trans ((if_neg (hA _ hGA1).2.2).trans (if_pos hGA1))))
 refine (show WC _ _ _ _ [(0, Value.pointer (some ⟨b0, 0, none⟩)), (1, Value.pointer (some ⟨b1, 0, none⟩)), (2, vu a2)] _ from ?_)
 refine WC.seq ?_
 refine WC.region ?_
 refine WL.y (Y.move rfl) rfl ?_
 refine WL.y (Y.move rfl) rfl ?_
 refine WL.y (Y.nilCheck rfl) rfl ?_
 refine WL.y (Y.fieldAddr fo62_1 rfl) rfl ?_
 refine WL.y (Y.loadSc ty23 rfl rfl (hb11.cell 1 _ rfl)) rfl ?_
 refine WL.y (Y.xor_u rfl rfl) rfl ?_
 obtain ⟨d16, hd16, h⟩ := lt1 h
 refine WL.yE (Y.assign rfl) (congrArg vu hd16.symm) rfl ?_
 refine WL.nil ?_
 refine At.then ?_
 refine WC.seq ?_
 obtain ⟨p28, h, hk29⟩ := bnd h
 refine WC.join (σ := (Int × Int × List UInt8 × Int × Own × Value)) (fun x w' => (x.1, x.2.1, x.2.2.1, x.2.2.2.1) = p28 ∧ Stp [3, 4, 5] (Lg.OB b0 3 (Lg.OB b1 4 (Lg.OV v1_0 5 (Lg.O0 A)))) w x.2.2.2.2.1 w' ∧ Blk 3 x.2.2.2.2.1 w' b0 62 [vi a0.n, vu a0.last, vi x.1, vi x.2.1] ∧ OwnSl 5 Rep.b 5 x.2.2.2.2.1 w' x.2.2.2.2.2 x.2.2.1 ∧ Blk 4 x.2.2.2.2.1 w' b1 64 [x.2.2.2.2.2, vi x.2.2.2.1]) (fun x => [(0, Value.pointer (some ⟨b0, 0, none⟩)), (2, vu a2)]) ?_ ?_
 ·refine WC.block ?_
  refine WC.seq ?_
  refine WC.region ?_
  refine WL.y (Y.move rfl) rfl ?_
  refine WL.y (Y.nilCheck rfl) rfl ?_
  refine WL.y (Y.fieldAddr fo62_0 rfl) rfl ?_
  refine WL.y (Y.loadSc ty3 rfl rfl (hb11.cell 0 _ rfl)) rfl ?_
  refine WL.y (Y.eql_i rfl rfl) rfl ?_
  obtain ⟨t30, ht30, h⟩ := lt1 h
  refine WL.yE (Y.assign rfl) (congrArg Value.bool ht30.symm) rfl ?_
  refine WL.nil ?_
  refine At.then ?_
  rcases cnd h with ⟨hc31, h⟩ | ⟨hc31, h⟩
  ·refine WC.condT' rfl hc31 ?_
   refine WC.region ?_
   refine WL.y (Y.move rfl) rfl ?_
   refine WL.y (Y.move rfl) rfl ?_
   obtain ⟨⟨r32, r33⟩, hp34, h⟩ := bnd h
   refine WL.call (vals := [Value.pointer (some ⟨b1, 0, none⟩), vu a2, vi 64]) kok30 rfl rfl (c_bitio_Writer_Put (a0 := a1) ho12.row hb13.blk (ne_lab ho12 hb13.lab rfl) hp34) ?_
   rintro vr40 wd39 ⟨z35, rfl, hm38, f36, f37⟩
   obtain ⟨O41, hold42, hnew43, hst44⟩ := adopt (Lg.OB b0 3 (Lg.OB b1 4 (Lg.OV v1_0 5 (Lg.O0 A)))) (fun k => if Value.ownBlock z35 = some k then 5 else 1) [4, 5] hm38 (memOr (memB hb13.lab rfl) (memV ho12.labs rfl))
   have ho45 : OwnSl 5 Rep.b 5 O41 wd39 z35 r33.b := RowG.adopt Flat.b ho12.labs f36 hold42 hnew43 (fun k hk => if_pos hk)
   have hb46 : Blk 4 O41 wd39 b1 64 [z35, vi r33.n] := Blk.adopt hb13 hold42 f37
   refine WL.nil ?_
   refine At.inBlock ?_
   have hf47 := hb11.st hst44 rfl
   exact At.join (σ := (Int × Int × List UInt8 × Int × Own × Value)) (a0.win.ahead, a0.win.size, r33.b, r33.n, O41, z35) ⟨some1 h, (Stp.up hst44 rfl), hf47, ho45, hb46⟩ (.cons rfl (.cons rfl .nil))
  ·refine WC.condF' rfl hc31 ?_
   refine WC.seq ?_
   refine WC.region ?_
   refine WL.y (Y.move rfl) rfl ?_
   refine WL.y (Y.eql_u (b := 0) rfl rfl) rfl ?_
   obtain ⟨t48, ht48, h⟩ := lt1 h
   refine WL.yE (Y.assign rfl) (congrArg Value.bool ht48.symm) rfl ?_
   refine WL.nil ?_
   refine At.then ?_
   rcases cnd h with ⟨hc49, h⟩ | ⟨hc49, h⟩
   ·refine WC.condT' rfl hc49 ?_
    refine WC.region ?_
    refine WL.y (Y.move rfl) rfl ?_
    obtain ⟨⟨r50, r51⟩, hp52, h⟩ := bnd h
    refine WL.call (vals := [Value.pointer (some ⟨b1, 0, none⟩), vu 0, vi 1]) kok30 rfl rfl (c_bitio_Writer_Put (a0 := a1) ho12.row hb13.blk (ne_lab ho12 hb13.lab rfl) hp52) ?_
    rintro vr58 wd57 ⟨z53, rfl, hm56, f54, f55⟩
    obtain ⟨O59, hold60, hnew61, hst62⟩ := adopt (Lg.OB b0 3 (Lg.OB b1 4 (Lg.OV v1_0 5 (Lg.O0 A)))) (fun k => if Value.ownBlock z53 = some k then 5 else 1) [4, 5] hm56 (memOr (memB hb13.lab rfl) (memV ho12.labs rfl))
    have ho63 : OwnSl 5 Rep.b 5 O59 wd57 z53 r51.b := RowG.adopt Flat.b ho12.labs f54 hold60 hnew61 (fun k hk => if_pos hk)
    have hb64 : Blk 4 O59 wd57 b1 64 [z53, vi r51.n] := Blk.adopt hb13 hold60 f55
    refine WL.nil ?_
    refine At.inBlock ?_
    have hf65 := hb11.st hst62 rfl
    exact At.join (σ := (Int × Int × List UInt8 × Int × Own × Value)) (a0.win.ahead, a0.win.size, r51.b, r51.n, O59, z53) ⟨some1 h, (Stp.up hst62 rfl), hf65, ho63, hb64⟩ (.cons rfl (.cons rfl .nil))
   ·refine WC.condF' rfl hc49 ?_
    refine WC.seq ?_
    refine WC.region ?_
    refine WL.y (Y.move rfl) rfl ?_
    refine WL.y (Y.nilCheck rfl) rfl ?_
    refine WL.y (Y.fieldAddr fo62_2 rfl) rfl ?_
    refine WL.y (Y.loadAg ty60 rfl rfl (hb11.cells 2 [vi a0.win.ahead, vi a0.win.size] rfl) rfl) rfl ?_
    refine WL.y (Y.move rfl) rfl ?_
    obtain ⟨r66, hp67, h⟩ := bnd h
    refine WL.call (vals := [Value.agg (List.toArray [vi a0.win.ahead, vi a0.win.size]), vu d16]) kok31 rfl rfl (c_xor_window_holds (A := fun _ => True) (a0 := a0.win) hG14.at_ trivial hG15.at_ trivial hp67) ?_
    rintro vr70 wd69 ⟨rfl, hm68⟩
    obtain ⟨O71, hold72, hnew73, hst74⟩ := adoptE (Lg.OB b0 3 (Lg.OB b1 4 (Lg.OV v1_0 5 (Lg.O0 A)))) (fun k => 1) hm68
    refine WL.y (Y.assign rfl) rfl ?_
    refine WL.nil ?_
    refine At.then ?_
    rcases cnd h with ⟨hc75, h⟩ | ⟨hc75, h⟩
    ·refine WC.condT' rfl hc75 ?_
     refine WC.seq ?_
     refine WC.region ?_
     refine WL.y (Y.move rfl) rfl ?_
     have hf76 := ho12.st hst74 rfl rfl rfl
     have hf77 := hb13.st hst74 rfl
     obtain ⟨⟨r78, r79⟩, hp80, h⟩ := bnd h
     refine WL.call (vals := [Value.pointer (some ⟨b1, 0, none⟩), vu 2, vi 2]) kok30 rfl rfl (c_bitio_Writer_Put (a0 := a1) hf76.row hf77.blk (ne_lab hf76 hf77.lab rfl) hp80) ?_
     rintro vr86 wd85 ⟨z81, rfl, hm84, f82, f83⟩
     obtain ⟨O87, hold88, hnew89, hst90⟩ := adopt O71 (fun k => if Value.ownBlock z81 = some k then 5 else 1) [4, 5] hm84 (memOr (memB hf77.lab rfl) (memV hf76.labs rfl))
     have ho91 : OwnSl 5 Rep.b 5 O87 wd85 z81 r79.b := RowG.adopt Flat.b hf76.labs f82 hold88 hnew89 (fun k hk => if_pos hk)
     have hb92 : Blk 4 O87 wd85 b1 64 [z81, vi r79.n] := Blk.adopt hf77 hold88 f83
     refine WL.nil ?_
     refine At.then ?_
     refine WC.drawH [4, 5] [0, 1, 2, 3, 4, 5, 6, 7, 8, 9, 10, 11, 12, 13, 14] O87 15 fmix rfl (by kernel_rfl) ?_
     intro wd93 hst94
     refine WD.y 0 rfl (by kernel_rfl) (fun _ _ _ => Y.move rfl) rfl ?_
     refine WD.y 1 rfl (by kernel_rfl) (fun _ _ _ => Y.move rfl) rfl ?_
     refine WD.y 2 rfl (by kernel_rfl) (fun _ _ _ => Y.move rfl) rfl ?_
     refine WD.y 3 rfl (by kernel_rfl) (fun _ _ _ => Y.nilCheck rfl) rfl ?_
     refine WD.y 4 rfl (by kernel_rfl) (fun _ _ _ => Y.fieldAddr fo62_2 rfl) rfl ?_
     refine WD.y 5 rfl (by kernel_rfl) (fun wd111 O110 hst112 => have hf113 := hb11.st hst74 rfl; have hf114 := hf113.st hst90 rfl; have hf115 := hf114.st hst94 rfl; have hf116 := hf115.st hst112 rfl; Y.loadAg ty60 rfl rfl (hf116.cells 2 [vi a0.win.ahead, vi a0.win.size] rfl) rfl) rfl ?_
     refine WD.y 9 rfl (by kernel_rfl) (fun _ _ _ => Y.move rfl) rfl ?_
     refine WD.y 10 rfl (by kernel_rfl) (fun _ _ _ => Y.nilCheck rfl) rfl ?_
     refine WD.y 11 rfl (by kernel_rfl) (fun _ _ _ => Y.fieldAddr fo62_2 rfl) rfl ?_
     refine WD.y 12 rfl (by kernel_rfl) (fun _ _ _ => Y.fieldAddr fo60_1 rfl) rfl ?_
     refine WD.y 13 rfl (by kernel_rfl) (fun wd130 O129 hst131 => have hf132 := hb11.st hst74 rfl; have hf133 := hf132.st hst90 rfl; have hf134 := hf133.st hst94 rfl; have hf135 := hf134.st hst131 rfl; Y.loadSc ty3 rfl rfl (hf135.cell 3 _ rfl)) rfl ?_
     refine WD.heavy 6 rfl (by kernel_rfl) ?_
     obtain ⟨r136, hp137, h⟩ := bnd h
     refine WL.call (vals := [Value.agg (List.toArray [vi a0.win.ahead, vi a0.win.size])]) kok32 rfl rfl (c_xor_window_behind (a0 := a0.win) hp137) ?_
     rintro vr140 wd139 ⟨rfl, hm138⟩
     obtain ⟨O141, hold142, hnew143, hst144⟩ := adoptE O87 (fun k => 1) hm138
     refine WL.nil ?_
     refine At.dq (Stp.up hst144 rfl) ?_
     refine WD.y 7 rfl (by kernel_rfl) (fun _ _ _ => Y.conv_iu ty3.u ty55.u rfl) rfl ?_
     refine WD.y 8 rfl (by kernel_rfl) (fun _ _ _ => Y.shr_uu rfl rfl) rfl ?_
     refine WD.heavy 14 rfl (by kernel_rfl) ?_
     have hf151 := ho91.st hst94 rfl rfl rfl
     have hf152 := hf151.st hst144 rfl rfl rfl
     have hf153 := hb92.st hst94 rfl
     have hf154 := hf153.st hst144 rfl
     obtain ⟨⟨r155, r156⟩, hp157, h⟩ := bnd h
     refine WL.call (vals := [Value.pointer (some ⟨b1, 0, none⟩), vu (shrU d16 ((toU64 r136).toNat)), vi a0.win.size]) kok30 rfl rfl (c_bitio_Writer_Put (a0 := r79) hf152.row hf154.blk (ne_lab hf152 hf154.lab rfl) hp157) ?_
     rintro vr163 wd162 ⟨z158, rfl, hm161, f159, f160⟩
     obtain ⟨O164, hold165, hnew166, hst167⟩ := adopt O141 (fun k => if Value.ownBlock z158 = some k then 5 else 1) [4, 5] hm161 (memOr (memB hf154.lab rfl) (memV hf152.labs rfl))
     have ho168 : OwnSl 5 Rep.b 5 O164 wd162 z158 r156.b := RowG.adopt Flat.b hf152.labs f159 hold165 hnew166 (fun k hk => if_pos hk)
     have hb169 : Blk 4 O164 wd162 b1 64 [z158, vi r156.n] := Blk.adopt hf154 hold165 f160
     refine WL.nil ?_
     refine At.dq (Stp.up hst167 rfl) ?_
     refine WD.done_ (by kernel_rfl) ?_
     refine At.inBlock ?_
     have hf170 := hb11.st hst74 rfl
     have hf171 := hf170.st hst90 rfl
     have hf172 := hf171.st hst94 rfl
     have hf173 := hf172.st hst144 rfl
     have hf174 := hf173.st hst167 rfl
     exact At.join (σ := (Int × Int × List UInt8 × Int × Own × Value)) (a0.win.ahead, a0.win.size, r156.b, r156.n, O164, z158) ⟨some1 h, (Stp.trans (Stp.up hst74 rfl) (Stp.trans (Stp.up hst90 rfl) (Stp.trans (Stp.up hst94 rfl) (Stp.trans (Stp.up hst144 rfl) (Stp.up hst167 rfl))))), hf174, ho168, hb169⟩ (.cons rfl (.cons rfl .nil))
    ·refine WC.condF' rfl hc75 ?_
     refine WC.seq ?_
     refine WC.region ?_
     refine WL.y (Y.move rfl) rfl ?_
     refine WL.y (Y.move rfl) rfl ?_
     have hf175 := hG15.st hst74 rfl
     obtain ⟨r176, hp177, h⟩ := bnd h
     refine WL.call (vals := [vu d16]) kok33 rfl rfl (c_xor_around (A := fun _ => True) hf175.at_ trivial hp177) ?_
     rintro vr180 wd179 ⟨rfl, hm178⟩
     obtain ⟨O181, hold182, hnew183, hst184⟩ := adoptE O71 (fun k => 1) hm178
     refine WL.y (Y.nilCheck rfl) rfl ?_
     refine WL.y (Y.fieldAddr fo62_2 rfl) rfl ?_
     have hf185 := hb11.st hst74 rfl
     have hf186 := hf185.st hst184 rfl
     refine WL.store (v := Value.agg (List.toArray [vi r176.ahead, vi r176.size])) (cells' := [vi a0.n, vu a0.last, vi r176.ahead, vi r176.size]) ty60 rfl rfl hf186 rfl (Nat.le_of_ble_eq_true rfl) rfl rfl ?_
     intro wd187 hst188 hb189
     refine WL.nil ?_
     refine At.then ?_
     refine WC.seq ?_
     refine WC.region ?_
     refine WL.y (Y.move rfl) rfl ?_
     have hf190 := ho12.st hst74 rfl rfl rfl
     have hf191 := hf190.st hst184 rfl rfl rfl
     have hf192 := hf191.st hst188 rfl rfl rfl
     have hf193 := hb13.st hst74 rfl
     have hf194 := hf193.st hst184 rfl
     have hf195 := hf194.st hst188 rfl
     obtain ⟨⟨r196, r197⟩, hp198, h⟩ := bnd h
     refine WL.call (vals := [Value.pointer (some ⟨b1, 0, none⟩), vu 3, vi 2]) kok30 rfl rfl (c_bitio_Writer_Put (a0 := a1) hf192.row hf195.blk (ne_lab hf192 hf195.lab rfl) hp198) ?_
     rintro vr204 wd203 ⟨z199, rfl, hm202, f200, f201⟩
     obtain ⟨O205, hold206, hnew207, hst208⟩ := adopt O181 (fun k => if Value.ownBlock z199 = some k then 5 else 1) [4, 5] hm202 (memOr (memB hf195.lab rfl) (memV hf192.labs rfl))
     have ho209 : OwnSl 5 Rep.b 5 O205 wd203 z199 r197.b := RowG.adopt Flat.b hf192.labs f200 hold206 hnew207 (fun k hk => if_pos hk)
     have hb210 : Blk 4 O205 wd203 b1 64 [z199, vi r197.n] := Blk.adopt hf195 hold206 f201
     refine WL.nil ?_
     refine At.then ?_
     refine WC.seq ?_
     refine WC.region ?_
     refine WL.y (Y.move rfl) rfl ?_
     refine WL.y (Y.move rfl) rfl ?_
     refine WL.y (Y.nilCheck rfl) rfl ?_
     refine WL.y (Y.fieldAddr fo62_2 rfl) rfl ?_
     refine WL.y (Y.fieldAddr fo60_0 rfl) rfl ?_
     have hf211 := hb189.st hst208 rfl
     refine WL.y (Y.loadSc ty3 rfl rfl (hf211.cell 2 _ rfl)) rfl ?_
     refine WL.y (Y.conv_iu ty3.u ty23.u rfl) rfl ?_
     obtain ⟨⟨r212, r213⟩, hp214, h⟩ := bnd h
     refine WL.call (vals := [Value.pointer (some ⟨b1, 0, none⟩), vu (toU64 r176.ahead), vi 5]) kok30 rfl rfl (c_bitio_Writer_Put (a0 := r197) ho209.row hb210.blk (ne_lab ho209 hb210.lab rfl) hp214) ?_
     rintro vr220 wd219 ⟨z215, rfl, hm218, f216, f217⟩
     obtain ⟨O221, hold222, hnew223, hst224⟩ := adopt O205 (fun k => if Value.ownBlock z215 = some k then 5 else 1) [4, 5] hm218 (memOr (memB hb210.lab rfl) (memV ho209.labs rfl))
     have ho225 : OwnSl 5 Rep.b 5 O221 wd219 z215 r213.b := RowG.adopt Flat.b ho209.labs f216 hold222 hnew223 (fun k hk => if_pos hk)
     have hb226 : Blk 4 O221 wd219 b1 64 [z215, vi r213.n] := Blk.adopt hb210 hold222 f217
     refine WL.nil ?_
     refine At.then ?_
     refine WC.seq ?_
     refine WC.region ?_
     refine WL.y (Y.move rfl) rfl ?_
     refine WL.y (Y.move rfl) rfl ?_
     refine WL.y (Y.nilCheck rfl) rfl ?_
     refine WL.y (Y.fieldAddr fo62_2 rfl) rfl ?_
     refine WL.y (Y.fieldAddr fo60_1 rfl) rfl ?_
     have hf227 := hf211.st hst224 rfl
     refine WL.y (Y.loadSc ty3 rfl rfl (hf227.cell 3 _ rfl)) rfl ?_
     refine WL.y (Y.sub_i rfl rfl) rfl ?_
     refine WL.y (Y.conv_iu ty3.u ty23.u rfl) rfl ?_
     obtain ⟨⟨r228, r229⟩, hp230, h⟩ := bnd h
     refine WL.call (vals := [Value.pointer (some ⟨b1, 0, none⟩), vu (toU64 (w64 (r176.size - 1))), vi 6]) kok30 rfl rfl (c_bitio_Writer_Put (a0 := r213) ho225.row hb226.blk (ne_lab ho225 hb226.lab rfl) hp230) ?_
     rintro vr236 wd235 ⟨z231, rfl, hm234, f232, f233⟩
     obtain ⟨O237, hold238, hnew239, hst240⟩ := adopt O221 (fun k => if Value.ownBlock z231 = some k then 5 else 1) [4, 5] hm234 (memOr (memB hb226.lab rfl) (memV ho225.labs rfl))
     have ho241 : OwnSl 5 Rep.b 5 O237 wd235 z231 r229.b := RowG.adopt Flat.b ho225.labs f232 hold238 hnew239 (fun k hk => if_pos hk)
     have hb242 : Blk 4 O237 wd235 b1 64 [z231, vi r229.n] := Blk.adopt hb226 hold238 f233
     refine WL.nil ?_
     refine At.then ?_
     refine WC.drawH [4, 5] [0, 1, 2, 3, 4, 5, 6, 7, 8, 9, 10, 11, 12, 13, 14] O237 15 fmix rfl (by kernel_rfl) ?_
     intro wd243 hst244
     refine WD.y 0 rfl (by kernel_rfl) (fun _ _ _ => Y.move rfl) rfl ?_
     refine WD.y 1 rfl (by kernel_rfl) (fun _ _ _ => Y.move rfl) rfl ?_
     refine WD.y 2 rfl (by kernel_rfl) (fun _ _ _ => Y.move rfl) rfl ?_
     refine WD.y 3 rfl (by kernel_rfl) (fun _ _ _ => Y.nilCheck rfl) rfl ?_
     refine WD.y 4 rfl (by kernel_rfl) (fun _ _ _ => Y.fieldAddr fo62_2 rfl) rfl ?_
     refine WD.y 5 rfl (by kernel_rfl) (fun wd261 O260 hst262 => have hf263 := hf227.st hst240 rfl; have hf264 := hf263.st hst244 rfl; have hf265 := hf264.st hst262 rfl; Y.loadAg ty60 rfl rfl (hf265.cells 2 [vi r176.ahead, vi r176.size] rfl) rfl) rfl ?_
     refine WD.y 9 rfl (by kernel_rfl) (fun _ _ _ => Y.move rfl) rfl ?_
     refine WD.y 10 rfl (by kernel_rfl) (fun _ _ _ => Y.nilCheck rfl) rfl ?_
     refine WD.y 11 rfl (by kernel_rfl) (fun _ _ _ => Y.fieldAddr fo62_2 rfl) rfl ?_
     refine WD.y 12 rfl (by kernel_rfl) (fun _ _ _ => Y.fieldAddr fo60_1 rfl) rfl ?_
     refine WD.y 13 rfl (by kernel_rfl) (fun wd279 O278 hst280 => have hf281 := hf227.st hst240 rfl; have hf282 := hf281.st hst244 rfl; have hf283 := hf282.st hst280 rfl; Y.loadSc ty3 rfl rfl (hf283.cell 3 _ rfl)) rfl ?_
     refine WD.heavy 6 rfl (by kernel_rfl) ?_
     obtain ⟨r284, hp285, h⟩ := bnd h
     refine WL.call (vals := [Value.agg (List.toArray [vi r176.ahead, vi r176.size])]) kok32 rfl rfl (c_xor_window_behind (a0 := r176) hp285) ?_
     rintro vr288 wd287 ⟨rfl, hm286⟩
     obtain ⟨O289, hold290, hnew291, hst292⟩ := adoptE O237 (fun k => 1) hm286
     refine WL.nil ?_
     refine At.dq (Stp.up hst292 rfl) ?_
     refine WD.y 7 rfl (by kernel_rfl) (fun _ _ _ => Y.conv_iu ty3.u ty55.u rfl) rfl ?_
     refine WD.y 8 rfl (by kernel_rfl) (fun _ _ _ => Y.shr_uu rfl rfl) rfl ?_
     refine WD.heavy 14 rfl (by kernel_rfl) ?_
     have hf299 := ho241.st hst244 rfl rfl rfl
     have hf300 := hf299.st hst292 rfl rfl rfl
     have hf301 := hb242.st hst244 rfl
     have hf302 := hf301.st hst292 rfl
     obtain ⟨⟨r303, r304⟩, hp305, h⟩ := bnd h
     refine WL.call (vals := [Value.pointer (some ⟨b1, 0, none⟩), vu (shrU d16 ((toU64 r284).toNat)), vi r176.size]) kok30 rfl rfl (c_bitio_Writer_Put (a0 := r229) hf300.row hf302.blk (ne_lab hf300 hf302.lab rfl) hp305) ?_
     rintro vr311 wd310 ⟨z306, rfl, hm309, f307, f308⟩
     obtain ⟨O312, hold313, hnew314, hst315⟩ := adopt O289 (fun k => if Value.ownBlock z306 = some k then 5 else 1) [4, 5] hm309 (memOr (memB hf302.lab rfl) (memV hf300.labs rfl))
     have ho316 : OwnSl 5 Rep.b 5 O312 wd310 z306 r304.b := RowG.adopt Flat.b hf300.labs f307 hold313 hnew314 (fun k hk => if_pos hk)
     have hb317 : Blk 4 O312 wd310 b1 64 [z306, vi r304.n] := Blk.adopt hf302 hold313 f308
     refine WL.nil ?_
     refine At.dq (Stp.up hst315 rfl) ?_
     refine WD.done_ (by kernel_rfl) ?_
     refine At.inBlock ?_
     have hf318 := hf227.st hst240 rfl
     have hf319 := hf318.st hst244 rfl
     have hf320 := hf319.st hst292 rfl
     have hf321 := hf320.st hst315 rfl
     exact At.join (σ := (Int × Int × List UInt8 × Int × Own × Value)) (r176.ahead, r176.size, r304.b, r304.n, O312, z306) ⟨some1 h, (Stp.trans (Stp.up hst74 rfl) (Stp.trans (Stp.up hst184 rfl) (Stp.trans (Stp.up hst188 rfl) (Stp.trans (Stp.up hst208 rfl) (Stp.trans (Stp.up hst224 rfl) (Stp.trans (Stp.up hst240 rfl) (Stp.trans (Stp.up hst244 rfl) (Stp.trans (Stp.up hst292 rfl) (Stp.up hst315 rfl))))))))), hf321, ho316, hb317⟩ (.cons rfl (.cons rfl .nil))
 ·rintro ⟨c18, c19, c21, c24, O25, v22⟩ wd26 ⟨rfl, hst27, hb17, hf23, hb20⟩
  replace h := hk29
  try dsimp only at h hst27 hb17 hf23 hb20
  refine (show At _ _ _ [(0, Value.pointer (some ⟨b0, 0, none⟩)), (2, vu a2)] _ from ?_)
  refine At.then ?_
  refine WC.seq ?_
  refine WC.region ?_
  refine WL.y (Y.move rfl) rfl ?_
  refine WL.y (Y.nilCheck rfl) rfl ?_
  refine WL.y (Y.fieldAddr fo62_0 rfl) rfl ?_
  refine WL.y (Y.loadSc ty3 rfl rfl (hb17.cell 0 _ rfl)) rfl ?_
  refine WL.y (Y.add_i rfl rfl) rfl ?_
  refine WL.y (Y.nilCheck rfl) rfl ?_
  refine WL.y (Y.fieldAddr fo62_0 rfl) rfl ?_
  obtain ⟨t322, ht322, h⟩ := lt1 h
  refine WL.ren 94 rfl (congrArg vi ht322.symm) ?_
  refine WL.store (v := vi t322) (cells' := [vi t322, vu a0.last, vi c18, vi c19]) ty3 rfl rfl hb17 rfl (Nat.le_of_ble_eq_true rfl) rfl rfl ?_
  intro wd323 hst324 hb325
  refine WL.nil ?_
  refine At.then ?_
  refine WC.region ?_
  refine WL.y (Y.move rfl) rfl ?_
  refine WL.y (Y.move rfl) rfl ?_
  refine WL.y (Y.nilCheck rfl) rfl ?_
  refine WL.y (Y.fieldAddr fo62_1 rfl) rfl ?_
  refine WL.store (v := vu a2) (cells' := [vi t322, vu a2, vi c18, vi c19]) ty23 rfl rfl hb325 rfl (Nat.le_of_ble_eq_true rfl) rfl rfl ?_
  intro wd326 hst327 hb328
  refine WL.nil ?_
  obtain ⟨rfl, rfl⟩ := tup2 h
  have hs329 : Stp [3, 4, 5] (Lg.OB b0 3 (Lg.OB b1 4 (Lg.OV v1_0 5 (Lg.O0 A)))) w O25 wd326 := (Stp.trans (Stp.up hst27 rfl) (Stp.trans (Stp.up hst324 rfl) (Stp.up hst327 rfl)))
  have hf330 := hb20.st hst324 rfl
  have hf331 := hf330.st hst327 rfl
  have hf332 := hf23.st hst324 rfl rfl rfl
  have hf333 := hf332.st hst327 rfl rfl rfl
  exact At.res (.inr rfl) rfl .nil ⟨v22, rfl, (Stp.modL hs329 (sB (sB sV1)) rfl rfl), hb328.blk, (OwnSl.outG hf333 hs329 (lowB (lowB (lowV low0 rfl rfl) rfl rfl) rfl rfl) (lsB (lsB (lbV (ln0 rfl)) rfl) rfl)), hf331.blk⟩

theorem c_bitio_Writer_Len {A : Nat → Prop} {v0_0 : Value} {a0 : bitio_Writer} {b0 : Nat} {w : World} (hs0_0 : Sl Rep.b w A v0_0 a0.b) (hb0 : w.heap[b0]? = some (.cells (List.toArray [v0_0, vi a0.n]) 64 (0, 0))) (hm0 : A b0) {r0 : Int} (h : bitio_Writer_Len a0 = some r0) : Rets Tryd.prog 17 [Value.pointer (some ⟨b0, 0, none⟩)] w (fun v w' => v = vi r0 ∧ Ext w w') := by
 unfold bitio_Writer_Len at h
 refine Rets.enter Tryd.func17 rfl rfl ?_
 have hf11 : Sl Rep.b w (imm (Lg.O0 A)) v0_0 a0.b := (Sl.start hs0_0)
 have hb12 : Blk 0 (Lg.O0 A) w b0 64 [v0_0, vi a0.n] := ⟨(if_pos hm0), hb0⟩
 refine (show WC _ _ _ _ [(0, Value.pointer (some ⟨b0, 0, none⟩))] _ from ?_)
 refine WC.seq ?_
 refine WC.region ?_
 refine WL.y (Y.assign rfl) rfl ?_
 refine WL.nil ?_
 refine At.then ?_
 refine WC.seq ?_
 refine WC.region ?_
 refine WL.y (Y.move rfl) rfl ?_
 refine WL.y (Y.nilCheck rfl) rfl ?_
 refine WL.y (Y.fieldAddr fo64_1 rfl) rfl ?_
 refine WL.y (Y.loadSc ty3 rfl rfl (hb12.cell 1 _ rfl)) rfl ?_
 refine WL.y (Y.assign rfl) rfl ?_
 refine WL.nil ?_
 refine At.then ?_
 refine WC.ret ?_
 obtain rfl := some1 h
 have hs13 : Stp [] (Lg.O0 A) w (Lg.O0 A) w := (Stp.refl _ _ _)
 exact At.res (.inl rfl) rfl (.tmp rfl .nil) ⟨rfl, (Stp.ext hs13 rfl rfl)⟩

theorem c_xor_Cost {A : Nat → Prop} {a0 : List UInt64} {v0 : Value} {w : World} (hs0 : Sl Rep.u w A v0 a0) (hG0 : CellsAt w 0 0 [vi 0, vi 0]) (hGA0 : A 0) (hG1 : CellsAt w 1 0 (gdat1.map vb)) (hGA1 : A 1) {r0 : Int} (h : xor_Cost a0 = some r0) : Rets Tryd.prog 7 [v0] w (fun v w' => v = vi r0 ∧ Ext w w') := by
 unfold xor_Cost at h
 refine Rets.enter Tryd.func7 rfl rfl ?_
 have hf11 : Sl Rep.u w (imm (Lg.O0 A)) v0 a0 := (Sl.start hs0)
 have hG12 : CAt [0, 1] (Lg.O0 A) w 0 0 [vi 0, vi 0] := CAt.glob hG0 (if_pos hGA0)
 have hG13 : CAt [0, 1] (Lg.O0 A) w 1 0 (gdat1.map vb) := CAt.glob hG1 (if_pos hGA1)
 refine (show WC _ _ _ _ [(0, v0)] _ from ?_)
 refine WC.seq ?_
 refine WC.region ?_
 refine WL.y (Y.assign rfl) rfl ?_
 refine WL.nil ?_
 refine At.then ?_
 refine WC.seq ?_
 refine WC.region ?_
 obtain ⟨r14, hp15, h⟩ := bnd h
 refine WL.call (vals := []) kok11 rfl rfl (c_bitio_NewWriter hp15) ?_
 rintro vr23 wd22 ⟨p16, u17, rfl, hm21, f18, f19, f20⟩
 obtain ⟨O24, hold25, hnew26, hst27⟩ := adoptE (Lg.O0 A) (fun k => if k = p16 then 11 else if Value.ownBlock u17 = some k then 12 else 1) hm21
 have hf29 : OwnSl 12 Rep.b 5 O24 wd22 u17 r14.b := RowF.adopt 12 Flat.b f19 hnew26 (fun k hk => (if_neg (fun (e : k = p16) => f20 (e ▸ hk))).trans (if_pos hk))
 have hb28 : Blk 11 O24 wd22 p16 64 [u17, vi r14.n] := Blk.new f18 hnew26 (if_pos rfl)
 obtain ⟨r30, hp31, h⟩ := bnd h
 refine WL.call (vals := []) kok10 rfl rfl (c_xor_NewRow hp31) ?_
 rintro vr36 wd35 ⟨p32, rfl, hm34, f33⟩
 obtain ⟨O37, hold38, hnew39, hst40⟩ := adoptE O24 (fun k => if k = p32 then 13 else 1) hm34
 have hb41 : Blk 13 O37 wd35 p32 62 [vi r30.n, vu r30.last, vi r30.win.ahead, vi r30.win.size] := Blk.new f33 hnew39 (if_pos rfl)
 refine WL.y (Y.assign rfl) rfl ?_
 refine WL.y (Y.assign rfl) rfl ?_
 refine WL.nil ?_
 refine At.then ?_
 refine WC.seq ?_
 refine WC.seq ?_
 refine WC.region ?_
 refine WL.y (Y.move rfl) rfl ?_
 have hf42 := hf11.mono (imm_st hst27 rfl rfl)
 have hf43 := hf42.mono (imm_st hst40 rfl rfl)
 refine WL.y (Y.len ty22 rfl hf43) rfl ?_
 refine WL.y (Y.move rfl) rfl ?_
 refine WL.nil ?_
 refine At.then ?_
 refine WC.block ?_
 obtain ⟨p66, h, hk68⟩ := flow1 h
 obtain ⟨k67, h⟩ := loop_some h
 refine WC.joinB 0 (σ := (List UInt8 × Int × Own × Value)) (fun x w' => p66 = .go (x.1, x.2.1) ∧ Stp [11, 12, 13, 1001] O37 wd35 x.2.2.1 w' ∧ OwnSl 1002 Rep.b 5 x.2.2.1 w' x.2.2.2 x.1 ∧ Blk 11 x.2.2.1 w' p16 64 [x.2.2.2, vi x.2.1]) (fun x => [(3, Value.pointer (some ⟨p16, 0, none⟩))]) ?_ ?_
 ·have hf69 := hf29.st hst40 rfl rfl rfl
  obtain ⟨O70, hst71, ho72⟩ := OwnSl.rlb 1001 rfl hf69
  have hf73 := hb28.st hst40 rfl
  have hf74 := hf73.st hst71 rfl
  have hf75 := hb41.st hst71 rfl
  refine WC.loop (σ := (List UInt8 × Int × Int × UInt64 × Int × Int × Int × Own × Value)) (fun x k w' => loopN k (xor_Cost_lp1 a0) (x.1, x.2.1, x.2.2.1, x.2.2.2.1, x.2.2.2.2.1, x.2.2.2.2.2.1, x.2.2.2.2.2.2.1) = some p66 ∧ Stp [11, 12, 13, 1001] O37 wd35 x.2.2.2.2.2.2.2.1 w' ∧ OwnSl 1001 Rep.b 5 x.2.2.2.2.2.2.2.1 w' x.2.2.2.2.2.2.2.2 x.1 ∧ Blk 11 x.2.2.2.2.2.2.2.1 w' p16 64 [x.2.2.2.2.2.2.2.2, vi x.2.1] ∧ Blk 13 x.2.2.2.2.2.2.2.1 w' p32 62 [vi x.2.2.1, vu x.2.2.2.1, vi x.2.2.2.2.1, vi x.2.2.2.2.2.1]) (fun x => [(3, Value.pointer (some ⟨p16, 0, none⟩)), (4, Value.pointer (some ⟨p32, 0, none⟩)), (9, v0), (10, vi (a0.length : Int)), (11, vi x.2.2.2.2.2.2.1)]) (r14.b, r14.n, r30.n, r30.last, r30.win.ahead, r30.win.size, 0, O70, u17) k67 (.cons rfl (.cons rfl (.cons rfl (.cons rfl (.cons rfl .nil))))) ⟨h, (Stp.up hst71 rfl), ho72, hf74, hf75⟩ ?_
  rintro ⟨c45, c48, c50, c51, c52, c53, x54, O55, v46⟩ k67 wd56 ⟨h, hst57, hf47, hb44, hb49⟩
  obtain ⟨j76, q77, rfl, h, hn78⟩ := rnd1 h
  unfold xor_Cost_lp1 at h
  try dsimp only at h hst57 hf47 hb44 hb49
  refine (show WC _ _ _ _ [(3, Value.pointer (some ⟨p16, 0, none⟩)), (4, Value.pointer (some ⟨p32, 0, none⟩)), (9, v0), (10, vi (a0.length : Int)), (11, vi x54)] _ from ?_)
  refine WC.seq ?_
  refine WC.region ?_
  refine WL.y (Y.lss_i rfl rfl) rfl ?_
  refine WL.nil ?_
  refine At.then ?_
  refine WC.seq ?_
  rcases cnd h with ⟨hc79, h⟩ | ⟨hc79, h⟩
  ·refine WC.condT' rfl hc79 ?_
   refine WC.skip ?_
   refine At.then ?_
   refine WC.seq ?_
   refine WC.block ?_
   refine WC.seq ?_
   refine WC.region ?_
   obtain ⟨e80, he80, h⟩ := bnd h
   have hf89 := hf43.mono (imm_st hst57 rfl rfl)
   obtain ⟨b81, off90, cap88, cs87, hv82, hi83, hl84, hc85, hok86, hA91⟩ := Sl.at2 hf89 he80
   obtain rfl := hok86
   replace hc85 : CellsAt _ _ _ [vu e80] := hc85
   have hca92 := CAt.imm hc85 hA91
   refine WL.y (Y.indexAddr ty22 ty23 rfl hv82 rfl hi83 hl84) rfl ?_
   refine WL.y (Y.loadSc ty23 rfl rfl hca92.at_) rfl ?_
   refine WL.y (Y.assign rfl) rfl ?_
   refine WL.nil ?_
   refine At.then ?_
   refine WC.region ?_
   refine WL.y (Y.move rfl) rfl ?_
   refine WL.y (Y.move rfl) rfl ?_
   refine WL.y (Y.move rfl) rfl ?_
   have hf93 := hG12.st hst27 rfl
   have hf94 := hf93.st hst40 rfl
   have hf95 := hf94.st hst57 rfl
   have hf96 := hG13.st hst27 rfl
   have hf97 := hf96.st hst40 rfl
   have hf98 := hf97.st hst57 rfl
   obtain ⟨⟨r99, r100⟩, hp101, h⟩ := bnd h
   refine WL.call (vals := [Value.pointer (some ⟨p32, 0, none⟩), Value.pointer (some ⟨p16, 0, none⟩), vu e80]) kok16 rfl rfl (c_xor_Row_Put (A := out [13, 11, 1001] O55) (a0 := (xor_Row.mk c50 c51 (xor_window.mk c52 c53))) (a1 := (bitio_Writer.mk c45 c48)) hb49.blk hf47.row hb44.blk hf95.at_ (CAt.inO hf95 rfl rfl) hf98.at_ (CAt.inO hf98 rfl rfl) (ne_blk hb49.lab hb44.lab rfl) (ne_lab hf47 hb49.lab rfl) (ne_lab hf47 hb44.lab rfl) (fun k hk => ⟨out_ne hb49.lab rfl k hk, out_ne hb44.lab rfl k hk, out_neV (w := wd56) hf47.labs rfl k hk⟩) hp101) ?_
   rintro vr108 wd107 ⟨z102, rfl, hm106, f103, f104, f105⟩
   obtain ⟨O109, hold110, hnew111, hst112⟩ := adopt O55 (fun k => if Value.ownBlock z102 = some k then 1001 else 1) [13, 11, 1001] hm106 (memOr (memB hb49.lab rfl) (memOr (memB hb44.lab rfl) (memV hf47.labs rfl)))
   have hb113 : Blk 13 O109 wd107 p32 62 [vi r99.n, vu r99.last, vi r99.win.ahead, vi r99.win.size] := Blk.adopt hb49 hold110 f103
   have ho114 : OwnSl 1001 Rep.b 5 O109 wd107 z102 r100.b := RowG.adopt Flat.b hf47.labs f104 hold110 hnew111 (fun k hk => if_pos hk)
   have hb115 : Blk 11 O109 wd107 p16 64 [z102, vi r100.n] := Blk.adopt hb44 hold110 f105
   refine WL.nil ?_
   refine At.inBlock ?_
   refine At.then ?_
   refine WC.region ?_
   refine WL.y (Y.add_i rfl rfl) rfl ?_
   refine WL.y (Y.move rfl) rfl ?_
   refine WL.nil ?_
   exact At.round (r100.b, r100.n, r99.n, r99.last, r99.win.ahead, r99.win.size, w64 (x54 + 1), O109, z102) j76 (Nat.lt_succ_self _) ⟨next1 h hn78, (Stp.trans (Stp.up hst57 rfl) (Stp.up hst112 rfl)), ho114, hb115, hb113⟩ (.cons rfl (.cons rfl (.cons rfl (.cons rfl (.cons rfl .nil)))))
  ·refine WC.condF' rfl hc79 ?_
   refine WC.exit ?_
   refine At.thenX ?_
   refine At.loopX ?_
   obtain ⟨O116, hst117, ho118⟩ := OwnSl.rlb 1002 rfl hf47
   have hf119 := hb44.st hst117 rfl
   exact At.hitB (σ := (List UInt8 × Int × Own × Value)) (c45, c48, O116, v46) ⟨brk1 h hn78, (Stp.trans (Stp.up hst57 rfl) (Stp.up hst117 rfl)), ho118, hf119⟩ (.cons rfl .nil)
 ·rintro ⟨c59, c62, O63, v60⟩ wd64 ⟨rfl, hst65, hf61, hb58⟩
  replace h := flowK_go hk68
  try dsimp only at h hst65 hf61 hb58
  refine (show At _ _ _ [(3, Value.pointer (some ⟨p16, 0, none⟩))] _ from ?_)
  refine At.inBlockHit ?_
  refine At.then ?_
  refine WC.seq ?_
  refine WC.region ?_
  refine WL.y (Y.move rfl) rfl ?_
  obtain ⟨r120, hp121, h⟩ := bnd h
  refine WL.call (vals := [Value.pointer (some ⟨p16, 0, none⟩)]) kok17 rfl rfl (c_bitio_Writer_Len (A := fun _ => True) (a0 := (bitio_Writer.mk c59 c62)) (hf61.src.sl) hb58.blk trivial hp121) ?_
  rintro vr124 wd123 ⟨rfl, hm122⟩
  obtain ⟨O125, hold126, hnew127, hst128⟩ := adoptE O63 (fun k => 1) hm122
  refine WL.y (Y.assign rfl) rfl ?_
  refine WL.nil ?_
  refine At.then ?_
  refine WC.ret ?_
  obtain rfl := some1 h
  have hs129 : Stp [11, 12, 13, 1001] (Lg.O0 A) w O125 wd123 := (Stp.trans (Stp.up hst27 rfl) (Stp.trans (Stp.up hst40 rfl) (Stp.trans (Stp.up hst65 rfl) (Stp.up hst128 rfl))))
  exact At.res (.inl rfl) rfl (.tmp rfl .nil) ⟨rfl, (Stp.ext hs129 rfl rfl)⟩

theorem c_xor_Row_Len {A : Nat → Prop} {a0 : xor_Row} {b0 : Nat} {w : World} (hb0 : w.heap[b0]? = some (.cells (List.toArray [vi a0.n, vu a0.last, vi a0.win.ahead, vi a0.win.size]) 62 (0, 0))) (hm0 : A b0) {r0 : Int} (h : xor_Row_Len a0 = some r0) : Rets Tryd.prog 15 [Value.pointer (some ⟨b0, 0, none⟩)] w (fun v w' => v = vi r0 ∧ Ext w w') := by
 unfold xor_Row_Len at h
 refine Rets.enter Tryd.func15 rfl rfl ?_
 have hb11 : Blk 0 (Lg.O0 A) w b0 62 [vi a0.n, vu a0.last, vi a0.win.ahead, vi a0.win.size] := ⟨(if_pos hm0), hb0⟩
 refine (show WC _ _ _ _ [(0, Value.pointer (some ⟨b0, 0, none⟩))] _ from ?_)
 refine WC.seq ?_
 refine WC.region ?_
 refine WL.y (Y.assign rfl) rfl ?_
 refine WL.nil ?_
 refine At.then ?_
 refine WC.seq ?_
 refine WC.region ?_
 refine WL.y (Y.move rfl) rfl ?_
 refine WL.y (Y.nilCheck rfl) rfl ?_
 refine WL.y (Y.fieldAddr fo62_0 rfl) rfl ?_
 refine WL.y (Y.loadSc ty3 rfl rfl (hb11.cell 0 _ rfl)) rfl ?_
 refine WL.y (Y.assign rfl) rfl ?_
 refine WL.nil ?_
 refine At.then ?_
 refine WC.ret ?_
 obtain rfl := some1 h
 have hs12 : Stp [] (Lg.O0 A) w (Lg.O0 A) w := (Stp.refl _ _ _)
 exact At.res (.inl rfl) rfl (.tmp rfl .nil) ⟨rfl, (Stp.ext hs12 rfl rfl)⟩

theorem c_law07_awake {A : Nat → Prop} {w : World} (hG0 : CellsAt w 0 0 [vi 0, vi 0]) (hGA0 : A 0) (hG1 : CellsAt w 1 0 (gdat1.map vb)) (hGA1 : A 1) {r0 : Bool} (h : law07_awake = some r0) : Rets Tryd.prog 6 [] w (fun v w' => v = Value.bool r0 ∧ Ext w w') := by
 unfold law07_awake at h
 refine Rets.enter Tryd.func6 rfl rfl ?_
 have hG11 : CAt [0, 1] (Lg.O0 A) w 0 0 [vi 0, vi 0] := CAt.glob hG0 (if_pos hGA0)
 have hG12 : CAt [0, 1] (Lg.O0 A) w 1 0 (gdat1.map vb) := CAt.glob hG1 (if_pos hGA1)
 refine (show WC _ _ _ _ [] _ from ?_)
 refine WC.seq ?_
 refine WC.region ?_
 refine WL.y (Y.assign rfl) rfl ?_
 refine WL.nil ?_
 refine At.then ?_
 refine WC.seq ?_
 refine WC.region ?_
 obtain ⟨r13, hp14, h⟩ := bnd h
 refine WL.call (vals := []) kok11 rfl rfl (c_bitio_NewWriter hp14) ?_
 rintro vr22 wd21 ⟨p15, u16, rfl, hm20, f17, f18, f19⟩
 obtain ⟨O23, hold24, hnew25, hst26⟩ := adoptE (Lg.O0 A) (fun k => if k = p15 then 11 else if Value.ownBlock u16 = some k then 12 else 1) hm20
 have hf28 : OwnSl 12 Rep.b 5 O23 wd21 u16 r13.b := RowF.adopt 12 Flat.b f18 hnew25 (fun k hk => (if_neg (fun (e : k = p15) => f19 (e ▸ hk))).trans (if_pos hk))
 have hb27 : Blk 11 O23 wd21 p15 64 [u16, vi r13.n] := Blk.new f17 hnew25 (if_pos rfl)
 refine WL.y (Y.assign rfl) rfl ?_
 refine WL.nil ?_
 refine At.then ?_
 refine WC.seq ?_
 refine WC.region ?_
 obtain ⟨r29, hp30, h⟩ := bnd h
 refine WL.call (vals := []) kok10 rfl rfl (c_xor_NewRow hp30) ?_
 rintro vr35 wd34 ⟨p31, rfl, hm33, f32⟩
 obtain ⟨O36, hold37, hnew38, hst39⟩ := adoptE O23 (fun k => if k = p31 then 13 else 1) hm33
 have hb40 : Blk 13 O36 wd34 p31 62 [vi r29.n, vu r29.last, vi r29.win.ahead, vi r29.win.size] := Blk.new f32 hnew38 (if_pos rfl)
 refine WL.y (Y.assign rfl) rfl ?_
 refine WL.nil ?_
 refine At.then ?_
 refine WC.seq ?_
 refine WC.seq ?_
 refine WC.region ?_
 refine WL.y (Y.move rfl) rfl ?_
 refine WL.y (Y.eql_nil (r := false) ty36.u rfl rfl rfl) rfl ?_
 refine WL.y (Y.move rfl) rfl ?_
 refine WL.ung rfl rfl ?_
 refine WL.y (Y.move rfl) rfl ?_
 refine WL.ung rfl rfl ?_
 refine WL.y (Y.eql_nil (r := false) ty34.u rfl rfl rfl) rfl ?_
 refine WL.y (Y.pick (b := false) rfl rfl) rfl ?_
 refine WL.nil ?_
 refine At.then ?_
 refine WC.condF rfl ?_
 refine WC.skip ?_
 refine At.then ?_
 refine WC.seq ?_
 refine WC.region ?_
 refine WL.y (Y.move rfl) rfl ?_
 refine WL.y (Y.move rfl) rfl ?_
 have hf41 := hf28.st hst39 rfl rfl rfl
 have hf42 := hb27.st hst39 rfl
 have hf43 := hG11.st hst26 rfl
 have hf44 := hf43.st hst39 rfl
 have hf45 := hG12.st hst26 rfl
 have hf46 := hf45.st hst39 rfl
 obtain ⟨⟨r47, r48⟩, hp49, h⟩ := bnd h
 refine WL.call (vals := [Value.pointer (some ⟨p31, 0, none⟩), Value.pointer (some ⟨p15, 0, none⟩), vu 4607182418800017408]) kok16 rfl rfl (c_xor_Row_Put (A := out [13, 11, 12] O36) (a0 := r29) (a1 := r13) hb40.blk hf41.row hf42.blk hf44.at_ (CAt.inO hf44 rfl rfl) hf46.at_ (CAt.inO hf46 rfl rfl) (ne_blk hb40.lab hf42.lab rfl) (ne_lab hf41 hb40.lab rfl) (ne_lab hf41 hf42.lab rfl) (fun k hk => ⟨out_ne hb40.lab rfl k hk, out_ne hf42.lab rfl k hk, out_neV (w := wd34) hf41.labs rfl k hk⟩) hp49) ?_
 rintro vr56 wd55 ⟨z50, rfl, hm54, f51, f52, f53⟩
 obtain ⟨O57, hold58, hnew59, hst60⟩ := adopt O36 (fun k => if Value.ownBlock z50 = some k then 12 else 1) [13, 11, 12] hm54 (memOr (memB hb40.lab rfl) (memOr (memB hf42.lab rfl) (memV hf41.labs rfl)))
 have hb61 : Blk 13 O57 wd55 p31 62 [vi r47.n, vu r47.last, vi r47.win.ahead, vi r47.win.size] := Blk.adopt hb40 hold58 f51
 have ho62 : OwnSl 12 Rep.b 5 O57 wd55 z50 r48.b := RowG.adopt Flat.b hf41.labs f52 hold58 hnew59 (fun k hk => if_pos hk)
 have hb63 : Blk 11 O57 wd55 p15 64 [z50, vi r48.n] := Blk.adopt hf42 hold58 f53
 refine WL.nil ?_
 refine At.then ?_
 refine WC.seq ?_
 refine WC.region ?_
 refine WL.y (Y.move rfl) rfl ?_
 refine WL.y (Y.move rfl) rfl ?_
 have hf64 := hf44.st hst60 rfl
 have hf65 := hf46.st hst60 rfl
 obtain ⟨⟨r66, r67⟩, hp68, h⟩ := bnd h
 refine WL.call (vals := [Value.pointer (some ⟨p31, 0, none⟩), Value.pointer (some ⟨p15, 0, none⟩), vu 4607182418800017408]) kok16 rfl rfl (c_xor_Row_Put (A := out [13, 11, 12] O57) (a0 := r47) (a1 := r48) hb61.blk ho62.row hb63.blk hf64.at_ (CAt.inO hf64 rfl rfl) hf65.at_ (CAt.inO hf65 rfl rfl) (ne_blk hb61.lab hb63.lab rfl) (ne_lab ho62 hb61.lab rfl) (ne_lab ho62 hb63.lab rfl) (fun k hk => ⟨out_ne hb61.lab rfl k hk, out_ne hb63.lab rfl k hk, out_neV (w := wd55) ho62.labs rfl k hk⟩) hp68) ?_
 rintro vr75 wd74 ⟨z69, rfl, hm73, f70, f71, f72⟩
 obtain ⟨O76, hold77, hnew78, hst79⟩ := adopt O57 (fun k => if Value.ownBlock z69 = some k then 12 else 1) [13, 11, 12] hm73 (memOr (memB hb61.lab rfl) (memOr (memB hb63.lab rfl) (memV ho62.labs rfl)))
 have hb80 : Blk 13 O76 wd74 p31 62 [vi r66.n, vu r66.last, vi r66.win.ahead, vi r66.win.size] := Blk.adopt hb61 hold77 f70
 have ho81 : OwnSl 12 Rep.b 5 O76 wd74 z69 r67.b := RowG.adopt Flat.b ho62.labs f71 hold77 hnew78 (fun k hk => if_pos hk)
 have hb82 : Blk 11 O76 wd74 p15 64 [z69, vi r67.n] := Blk.adopt hb63 hold77 f72
 refine WL.nil ?_
 refine At.then ?_
 refine WC.seq ?_
 refine WC.region ?_
 refine WL.y (Y.move rfl) rfl ?_
 refine WL.y (Y.move rfl) rfl ?_
 have hf83 := hf64.st hst79 rfl
 have hf84 := hf65.st hst79 rfl
 obtain ⟨⟨r85, r86⟩, hp87, h⟩ := bnd h
 refine WL.call (vals := [Value.pointer (some ⟨p31, 0, none⟩), Value.pointer (some ⟨p15, 0, none⟩), vu 4611686018427387904]) kok16 rfl rfl (c_xor_Row_Put (A := out [13, 11, 12] O76) (a0 := r66) (a1 := r67) hb80.blk ho81.row hb82.blk hf83.at_ (CAt.inO hf83 rfl rfl) hf84.at_ (CAt.inO hf84 rfl rfl) (ne_blk hb80.lab hb82.lab rfl) (ne_lab ho81 hb80.lab rfl) (ne_lab ho81 hb82.lab rfl) (fun k hk => ⟨out_ne hb80.lab rfl k hk, out_ne hb82.lab rfl k hk, out_neV (w := wd74) ho81.labs rfl k hk⟩) hp87) ?_
 rintro vr94 wd93 ⟨z88, rfl, hm92, f89, f90, f91⟩
 obtain ⟨O95, hold96, hnew97, hst98⟩ := adopt O76 (fun k => if Value.ownBlock z88 = some k then 12 else 1) [13, 11, 12] hm92 (memOr (memB hb80.lab rfl) (memOr (memB hb82.lab rfl) (memV ho81.labs rfl)))
 have hb99 : Blk 13 O95 wd93 p31 62 [vi r85.n, vu r85.last, vi r85.win.ahead, vi r85.win.size] := Blk.adopt hb80 hold96 f89
 have ho100 : OwnSl 12 Rep.b 5 O95 wd93 z88 r86.b := RowG.adopt Flat.b ho81.labs f90 hold96 hnew97 (fun k hk => if_pos hk)
 have hb101 : Blk 11 O95 wd93 p15 64 [z88, vi r86.n] := Blk.adopt hb82 hold96 f91
 refine WL.nil ?_
 refine At.then ?_
 refine WC.seq ?_
 refine WC.region ?_
 refine WL.y (Y.move rfl) rfl ?_
 obtain ⟨r102, hp103, h⟩ := bnd h
 refine WL.call (vals := [Value.pointer (some ⟨p15, 0, none⟩)]) kok17 rfl rfl (c_bitio_Writer_Len (A := fun _ => True) (a0 := r86) (ho100.src.sl) hb101.blk trivial hp103) ?_
 rintro vr106 wd105 ⟨rfl, hm104⟩
 obtain ⟨O107, hold108, hnew109, hst110⟩ := adoptE O95 (fun k => 1) hm104
 refine WL.y (Y.eql_i rfl rfl) rfl ?_
 refine WL.y (Y.move rfl) rfl ?_
 obtain ⟨p115, h, hk116⟩ := bnd h
 refine WL.cut 4 (σ := (Bool × Own)) (fun x w' => x.1 = p115 ∧ Stp [] O107 wd105 x.2 w') (fun x => [(27, Value.bool x.1)]) ?_ ?_
 ·rcases cnd h with ⟨hE117, h⟩ | ⟨hE117, h⟩
  ·refine WL.ren 23 rfl (congrArg Value.bool hE117) ?_
   refine WL.ung rfl rfl ?_
   refine WL.y (Y.move rfl) rfl ?_
   refine WL.ung rfl rfl ?_
   have hf118 := hb99.st hst110 rfl
   obtain ⟨r119, hp120, h⟩ := bnd h
   refine WL.call (vals := [Value.pointer (some ⟨p31, 0, none⟩)]) kok15 rfl rfl (c_xor_Row_Len (A := fun _ => True) (a0 := r85) hf118.blk trivial hp120) ?_
   rintro vr123 wd122 ⟨rfl, hm121⟩
   obtain ⟨O124, hold125, hnew126, hst127⟩ := adoptE O107 (fun k => 1) hm121
   refine WL.ung rfl rfl ?_
   refine WL.y (Y.eql_i rfl rfl) rfl ?_
   refine WL.y (Y.pick (b := true) rfl rfl) rfl ?_
   exact WL.nil (At.join (σ := (Bool × Own)) (decide (r119 = 3), O124) ⟨some1 h, (Stp.up hst127 rfl)⟩ (.cons rfl .nil))
  ·refine WL.ren 23 rfl (congrArg Value.bool hE117) ?_
   refine WL.gS rfl rfl rfl rfl ?_
   refine WL.gS rfl rfl rfl rfl ?_
   refine WL.gS rfl rfl rfl rfl ?_
   refine WL.y (Y.pick (b := false) rfl rfl) rfl ?_
   exact WL.nil (At.join (σ := (Bool × Own)) (false, O107) ⟨some1 h, (Stp.refl _ _ _)⟩ (.cons rfl .nil))
 ·rintro ⟨x111, O112⟩ wd113 ⟨rfl, hst114⟩
  replace h := hk116
  try dsimp only at h hst114
  refine (show WL _ _ _ _ _ [(27, Value.bool x111)] _ from ?_)
  refine WL.y (Y.move rfl) rfl ?_
  obtain ⟨p132, h, hk133⟩ := bnd h
  refine WL.cut 4 (σ := (Bool × Own)) (fun x w' => x.1 = p132 ∧ Stp [] O112 wd113 x.2 w') (fun x => [(32, Value.bool x.1)]) ?_ ?_
  ·rcases cnd h with ⟨hE134, h⟩ | ⟨hE134, h⟩
   ·refine WL.ren 28 rfl (congrArg Value.bool hE134) ?_
    refine WL.ung rfl rfl ?_
    refine WL.buildSlice (O := O112) (R := Rep.u) (vals := [(0, vu 1), (1, vu 1)]) 14 [vu 1, vu 1] (xs := [1, 1]) (by decide) ty22 ty23 (by decide) (by decide) (Fits.evalp rfl) (by kernel_rfl) rfl ⟨[vu 1], [vu 1], rfl, rfl, ⟨[vu 1], [], rfl, rfl, rfl⟩⟩ rfl ?_
    intro v135 O137 wd138 hst139 ho136
    refine WL.ung rfl rfl ?_
    have hf140 := hf83.st hst98 rfl
    have hf141 := hf140.st hst110 rfl
    have hf142 := hf141.st hst114 rfl
    have hf143 := hf142.st hst139 rfl
    have hf144 := hf84.st hst98 rfl
    have hf145 := hf144.st hst110 rfl
    have hf146 := hf145.st hst114 rfl
    have hf147 := hf146.st hst139 rfl
    obtain ⟨r148, hp149, h⟩ := bnd h
    refine WL.call (vals := [v135]) kok7 rfl rfl (c_xor_Cost (A := fun _ => True) (ho136.src.sl) hf143.at_ trivial hf147.at_ trivial hp149) ?_
    rintro vr152 wd151 ⟨rfl, hm150⟩
    obtain ⟨O153, hold154, hnew155, hst156⟩ := adoptE O137 (fun k => 1) hm150
    refine WL.ung rfl rfl ?_
    refine WL.y (Y.eql_i rfl rfl) rfl ?_
    refine WL.y (Y.pick (b := true) rfl rfl) rfl ?_
    exact WL.nil (At.join (σ := (Bool × Own)) (decide (r148 = 65), O153) ⟨some1 h, (Stp.trans (Stp.up hst139 rfl) (Stp.up hst156 rfl))⟩ (.cons rfl .nil))
   ·refine WL.ren 28 rfl (congrArg Value.bool hE134) ?_
    refine WL.gS rfl rfl rfl rfl ?_
    refine WL.gS rfl rfl rfl rfl ?_
    refine WL.gS rfl rfl rfl rfl ?_
    refine WL.y (Y.pick (b := false) rfl rfl) rfl ?_
    exact WL.nil (At.join (σ := (Bool × Own)) (false, O112) ⟨some1 h, (Stp.refl _ _ _)⟩ (.cons rfl .nil))
  ·rintro ⟨x128, O129⟩ wd130 ⟨rfl, hst131⟩
   replace h := hk133
   try dsimp only at h hst131
   refine (show WL _ _ _ _ _ [(32, Value.bool x128)] _ from ?_)
   refine WL.y (Y.assign rfl) rfl ?_
   refine WL.nil ?_
   refine At.then ?_
   refine WC.ret ?_
   obtain rfl := some1 h
   have hs157 : Stp [11, 12, 13] (Lg.O0 A) w O129 wd130 := (Stp.trans (Stp.up hst26 rfl) (Stp.trans (Stp.up hst39 rfl) (Stp.trans (Stp.up hst60 rfl) (Stp.trans (Stp.up hst79 rfl) (Stp.trans (Stp.up hst98 rfl) (Stp.trans (Stp.up hst110 rfl) (Stp.trans (Stp.up hst114 rfl) (Stp.up hst131 rfl))))))))
   exact At.res (.inl rfl) rfl (.tmp rfl .nil) ⟨rfl, (Stp.ext hs157 rfl rfl)⟩

theorem c_bytes_Clone {A : Nat → Prop} {a0 : List UInt8} {v0 : Value} {w : World} (hs0 : Sl Rep.b w A v0 a0) {r0 : List UInt8} (h : bytes_Clone a0 = some r0) : Rets Tryd.prog 23 [v0] w (fun v w' => ∃ (u0 : Value), v = u0 ∧ Ext w w' ∧ RowF Rep.b 5 w w' u0 r0) := by
  unfold bytes_Clone at h
  refine Rets.enter Tryd.func23 rfl rfl ?_
  refine (show WC _ _ _ _ [(0, v0)] _ from ?_)
  refine WC.seq (WC.region (WL.y (Y.assign rfl) rfl (WL.nil (At.then ?_))))
  refine WC.seq (WC.seq (WC.region ?_))
  refine WL.y (Y.move rfl) rfl ?_
  rcases hs0.nilOr with ⟨rfl, rfl⟩ | ⟨q, n, c, rfl⟩
  · refine WL.y (Y.slnil (p := none) (n := 0) (c := 0) ty27.u rfl rfl) rfl (WL.nil (At.then ?_))
    refine WC.condT rfl (WC.seq (WC.region (WL.y (Y.assign rfl) rfl (WL.nil (At.then (WC.ret (At.thenR ?_)))))))
    have : r0 = [] := by simpa [app] using h.symm
    subst this
    exact At.res (.inl rfl) rfl (.tmp rfl .nil) ⟨_, rfl, Ext.refl w, RowF.nil⟩
  · refine WL.y (Y.slnil (p := some _) ty27.u rfl rfl) rfl (WL.nil (At.then ?_))
    refine WC.condF rfl (WC.skip (At.then ?_))
    refine WC.seq (WC.region ?_)
    have hs := hs0
    refine WL.buildSlice (O := Lg.O0 A) (R := Rep.b) (vals := []) 11 [] (xs := []) (by decide) ty27 ty5 (by decide) (by decide) (Fits.evalp rfl) (by kernel_rfl) rfl rfl rfl ?_
    intro v O1 w1 hst1 ho1
    refine WL.y (Y.move rfl) rfl ?_
    have hs1 := (Sl.start hs).mono (imm_st hst1 rfl rfl)
    refine WL.append (by decide) ty27 ty5 rfl (by decide) rfl rfl ho1 hs1.src h rfl ?_
    intro v2 O2 w2 hst2 ho2
    refine WL.y (Y.assign rfl) rfl (WL.nil (At.then (WC.ret ?_)))
    have hs9 : Stp [11] (Lg.O0 A) w O2 w2 := (Stp.trans (Stp.up hst1 rfl) hst2)
    exact At.res (.inl rfl) rfl (.tmp rfl .nil) ⟨_, rfl, Stp.ext hs9 rfl rfl, OwnSl.outF ho2 hs9 low0 rfl⟩

theorem c_bitio_NewReader {A : Nat → Prop} {a0 : List UInt8} {v0 : Value} {a1 : Int} {w : World} (hs0 : Sl Rep.b w A v0 a0) {r0 : Option bitio_Reader} {r1 : Int} (h : bitio_NewReader a0 a1 = some (r0, r1)) : Rets Tryd.prog 8 [v0, vi a1] w (fun v w' => ∃ (u0 : Value), v = Value.tuple (List.toArray [u0, vi r1]) ∧ Ext w w' ∧ OptP u0 r0 fun d => ∃ (p0 : Nat) (u0_0 : Value), u0 = .pointer (some ⟨p0, 0, none⟩) ∧ (w'.heap[p0]? = some (.cells (List.toArray [u0_0, vi d.n, vi d.at_]) 58 (0, 0)) ∧ w.heap.size ≤ p0) ∧ Sl Rep.b w' (fun k => w.heap.size ≤ k ∧ k ≠ p0) u0_0 d.b) := by
 unfold bitio_NewReader at h
 refine Rets.enter Tryd.func8 rfl rfl ?_
 have hf11 : Sl Rep.b w (imm (Lg.O0 A)) v0 a0 := (Sl.start hs0)
 refine (show WC _ _ _ _ [(0, v0), (1, vi a1)] _ from ?_)
 refine WC.seq ?_
 refine WC.region ?_
 refine WL.y (Y.assign rfl) rfl ?_
 refine WL.y (Y.assign rfl) rfl ?_
 refine WL.nil ?_
 refine At.then ?_
 refine WC.seq ?_
 refine WC.block ?_
 refine WC.seq ?_
 refine WC.region ?_
 refine WL.y (Y.move rfl) rfl ?_
 refine WL.y (Y.lss_i rfl rfl) rfl ?_
 obtain ⟨t12, ht12, h⟩ := lt1 h
 refine WL.yE (Y.assign rfl) (congrArg Value.bool ht12.symm) rfl ?_
 refine WL.nil ?_
 refine At.then ?_
 rcases cnd h with ⟨hc13, h⟩ | ⟨hc13, h⟩
 ·refine WC.condT' rfl hc13 ?_
  refine WC.seq ?_
  refine WC.region ?_
  refine WL.y (Y.assign rfl) rfl ?_
  refine WL.y (Y.assign rfl) rfl ?_
  refine WL.nil ?_
  refine At.then ?_
  refine WC.ret ?_
  refine At.inBlockR ?_
  refine At.thenR ?_
  obtain ⟨rfl, rfl⟩ := tup2 h
  have hs14 : Stp [] (Lg.O0 A) w (Lg.O0 A) w := (Stp.refl _ _ _)
  exact At.res (.inl rfl) rfl (.tmp rfl (.tmp rfl .nil)) ⟨Value.pointer none, rfl, (Stp.ext hs14 rfl rfl), rfl⟩
 ·refine WC.condF' rfl hc13 ?_
  refine WC.seq ?_
  refine WC.region ?_
  refine WL.y (Y.move rfl) rfl ?_
  refine WL.y (Y.len ty27 rfl hf11) rfl ?_
  refine WL.y (Y.move rfl) rfl ?_
  refine WL.y (Y.quo_i (by decide) rfl rfl) rfl ?_
  refine WL.y (Y.lss_i rfl rfl) rfl ?_
  refine WL.y (Y.move rfl) rfl ?_
  refine WL.cut 11 (σ := Unit) (fun _ w' => w = w') (fun _ => [(0, v0), (1, vi a1), (26, Value.bool ((decide ((a0.length : Int) < w64 (a1.tdiv 8))) || ((decide ((a0.length : Int) = w64 (a1.tdiv 8))) && (decide (0 < a1.tmod 8)))))]) ?_ ?_
  ·refine WL.part 15 rfl (fun hE15 => ?_) (fun hE15 => ?_)
   ·refine WL.gS rfl rfl rfl rfl ?_
    refine WL.gS rfl rfl rfl rfl ?_
    refine WL.gS rfl rfl rfl rfl ?_
    refine WL.gS rfl rfl rfl rfl ?_
    refine WL.gS rfl rfl rfl rfl ?_
    refine WL.gS rfl rfl rfl rfl ?_
    refine WL.gS rfl rfl rfl rfl ?_
    refine WL.gS rfl rfl rfl rfl ?_
    refine WL.gS rfl rfl rfl rfl ?_
    refine WL.gS rfl rfl rfl rfl ?_
    refine WL.y (Y.pick (b := true) rfl rfl) rfl ?_
    refine WL.ren (v' := Value.bool ((decide ((a0.length : Int) < w64 (a1.tdiv 8))) || ((decide ((a0.length : Int) = w64 (a1.tdiv 8))) && (decide (0 < a1.tmod 8))))) 26 rfl (congrArg Value.bool (orT hE15)) ?_
    exact WL.nil (At.join () rfl (.cons rfl (.cons rfl (.cons rfl .nil))))
   ·refine WL.ung rfl rfl ?_
    refine WL.y (Y.move rfl) rfl ?_
    refine WL.ung rfl rfl ?_
    refine WL.y (Y.len ty27 rfl hf11) rfl ?_
    refine WL.ung rfl rfl ?_
    refine WL.y (Y.move rfl) rfl ?_
    refine WL.ung rfl rfl ?_
    refine WL.y (Y.quo_i (by decide) rfl rfl) rfl ?_
    refine WL.ung rfl rfl ?_
    refine WL.y (Y.eql_i rfl rfl) rfl ?_
    refine WL.ung rfl rfl ?_
    refine WL.y (Y.move rfl) rfl ?_
    refine WL.cut 4 (σ := Unit) (fun _ w' => w = w') (fun _ => [(0, v0), (1, vi a1), (15, Value.bool false), (25, Value.bool ((decide ((a0.length : Int) = w64 (a1.tdiv 8))) && (decide (0 < a1.tmod 8))))]) ?_ ?_
    ·refine WL.part 21 rfl (fun hE16 => ?_) (fun hE16 => ?_)
     ·refine WL.ung rfl rfl ?_
      refine WL.y (Y.move rfl) rfl ?_
      refine WL.ung rfl rfl ?_
      refine WL.y (Y.rem_i (by decide) rfl rfl) rfl ?_
      refine WL.ung rfl rfl ?_
      refine WL.y (Y.gtr_i rfl rfl) rfl ?_
      refine WL.ung rfl rfl ?_
      refine WL.y (Y.pick (b := true) rfl rfl) rfl ?_
      refine WL.ren (v' := Value.bool ((decide ((a0.length : Int) = w64 (a1.tdiv 8))) && (decide (0 < a1.tmod 8)))) 25 rfl (congrArg Value.bool (andT hE16)) ?_
      exact WL.nil (At.join () rfl (.cons rfl (.cons rfl (.cons rfl (.cons rfl .nil)))))
     ·refine WL.gS rfl rfl rfl rfl ?_
      refine WL.gS rfl rfl rfl rfl ?_
      refine WL.gS rfl rfl rfl rfl ?_
      refine WL.ung rfl rfl ?_
      refine WL.y (Y.pick (b := false) rfl rfl) rfl ?_
      refine WL.ren (v' := Value.bool ((decide ((a0.length : Int) = w64 (a1.tdiv 8))) && (decide (0 < a1.tmod 8)))) 25 rfl (congrArg Value.bool (andF hE16)) ?_
      exact WL.nil (At.join () rfl (.cons rfl (.cons rfl (.cons rfl (.cons rfl .nil)))))
    ·rintro _ _ rfl
     refine (show WL _ _ _ _ _ [(0, v0), (1, vi a1), (15, Value.bool false), (25, Value.bool ((decide ((a0.length : Int) = w64 (a1.tdiv 8))) && (decide (0 < a1.tmod 8))))] _ from ?_)
     refine WL.y (Y.pick (b := false) rfl rfl) rfl ?_
     refine WL.ren (v' := Value.bool ((decide ((a0.length : Int) < w64 (a1.tdiv 8))) || ((decide ((a0.length : Int) = w64 (a1.tdiv 8))) && (decide (0 < a1.tmod 8))))) 26 rfl (congrArg Value.bool (orF hE15)) ?_
     exact WL.nil (At.join () rfl (.cons rfl (.cons rfl (.cons rfl .nil))))
  ·rintro _ _ rfl
   refine (show WL _ _ _ _ _ [(0, v0), (1, vi a1), (26, Value.bool ((decide ((a0.length : Int) < w64 (a1.tdiv 8))) || ((decide ((a0.length : Int) = w64 (a1.tdiv 8))) && (decide (0 < a1.tmod 8)))))] _ from ?_)
   obtain ⟨t17, ht17, h⟩ := lt1 h
   refine WL.yE (Y.assign rfl) (congrArg Value.bool ht17.symm) rfl ?_
   refine WL.nil ?_
   refine At.then ?_
   rcases cnd h with ⟨hc18, h⟩ | ⟨hc18, h⟩
   ·refine WC.condT' rfl hc18 ?_
    refine WC.seq ?_
    refine WC.region ?_
    refine WL.y (Y.assign rfl) rfl ?_
    refine WL.y (Y.assign rfl) rfl ?_
    refine WL.nil ?_
    refine At.then ?_
    refine WC.ret ?_
    refine At.inBlockR ?_
    refine At.thenR ?_
    obtain ⟨rfl, rfl⟩ := tup2 h
    have hs19 : Stp [] (Lg.O0 A) w (Lg.O0 A) w := (Stp.refl _ _ _)
    exact At.res (.inl rfl) rfl (.tmp rfl (.tmp rfl .nil)) ⟨Value.pointer none, rfl, (Stp.ext hs19 rfl rfl), rfl⟩
   ·refine WC.condF' rfl hc18 ?_
    refine WC.seq ?_
    refine WC.region ?_
    refine WL.y (Y.move rfl) rfl ?_
    refine WL.y (Y.len ty27 rfl hf11) rfl ?_
    refine WL.y (Y.move rfl) rfl ?_
    refine WL.y (Y.add_i rfl rfl) rfl ?_
    refine WL.y (Y.quo_i (by decide) rfl rfl) rfl ?_
    refine WL.y (Y.gtr_i rfl rfl) rfl ?_
    obtain ⟨t20, ht20, h⟩ := lt1 h
    refine WL.yE (Y.assign rfl) (congrArg Value.bool ht20.symm) rfl ?_
    refine WL.nil ?_
    refine At.then ?_
    rcases cnd h with ⟨hc21, h⟩ | ⟨hc21, h⟩
    ·refine WC.condT' rfl hc21 ?_
     refine WC.seq ?_
     refine WC.region ?_
     refine WL.y (Y.assign rfl) rfl ?_
     refine WL.y (Y.assign rfl) rfl ?_
     refine WL.nil ?_
     refine At.then ?_
     refine WC.ret ?_
     refine At.inBlockR ?_
     refine At.thenR ?_
     obtain ⟨rfl, rfl⟩ := tup2 h
     have hs22 : Stp [] (Lg.O0 A) w (Lg.O0 A) w := (Stp.refl _ _ _)
     exact At.res (.inl rfl) rfl (.tmp rfl (.tmp rfl .nil)) ⟨Value.pointer none, rfl, (Stp.ext hs22 rfl rfl), rfl⟩
    ·refine WC.condF' rfl hc21 ?_
     refine WC.seq ?_
     refine WC.region ?_
     refine WL.y (Y.move rfl) rfl ?_
     refine WL.y (Y.rem_i (by decide) rfl rfl) rfl ?_
     refine WL.y (Y.gtr_i rfl rfl) rfl ?_
     refine WL.y (Y.move rfl) rfl ?_
     obtain ⟨p24, h, hk25⟩ := bnd h
     refine WL.cut 11 (σ := Bool) (fun x w' => x = p24 ∧ w = w') (fun x => [(0, v0), (1, vi a1), (49, Value.bool x)]) ?_ ?_
     ·rcases cnd h with ⟨hE26, h⟩ | ⟨hE26, h⟩
      ·refine WL.ren 38 rfl (congrArg Value.bool hE26) ?_
       refine WL.ung rfl rfl ?_
       refine WL.y (Y.move rfl) rfl ?_
       refine WL.ung rfl rfl ?_
       refine WL.y (Y.move rfl) rfl ?_
       refine WL.ung rfl rfl ?_
       refine WL.y (Y.quo_i (by decide) rfl rfl) rfl ?_
       refine WL.ung rfl rfl ?_
       obtain ⟨e27, he27, h⟩ := bnd h
       obtain ⟨b28, off36, cap35, cs34, hv29, hi30, hl31, hc32, hok33, hA37⟩ := Sl.at2 hf11 he27
       obtain rfl := hok33
       replace hc32 : CellsAt _ _ _ [vb e27] := hc32
       have hca38 := CAt.imm hc32 hA37
       refine WL.y (Y.indexAddr ty27 ty5 rfl hv29 rfl hi30 hl31) rfl ?_
       refine WL.ung rfl rfl ?_
       refine WL.y (Y.loadSc ty5 rfl rfl hca38.at_) rfl ?_
       refine WL.ung rfl rfl ?_
       refine WL.y (Y.move rfl) rfl ?_
       refine WL.ung rfl rfl ?_
       refine WL.y (Y.rem_i (by decide) rfl rfl) rfl ?_
       refine WL.ung rfl rfl ?_
       refine WL.y (Y.conv_iu ty3.u ty55.u rfl) rfl ?_
       refine WL.ung rfl rfl ?_
       refine WL.y (Y.shl_bu rfl rfl) rfl ?_
       refine WL.ung rfl rfl ?_
       refine WL.y (Y.neq_b (b := 0) rfl rfl) rfl ?_
       refine WL.y (Y.pick (b := true) rfl rfl) rfl ?_
       exact WL.nil (At.join (σ := Bool) (!decide (shlB e27 ((toU64 (a1.tmod 8)).toNat) = 0)) ⟨some1 h, rfl⟩ (.cons rfl (.cons rfl (.cons rfl .nil))))
      ·refine WL.ren 38 rfl (congrArg Value.bool hE26) ?_
       refine WL.gS rfl rfl rfl rfl ?_
       refine WL.gS rfl rfl rfl rfl ?_
       refine WL.gS rfl rfl rfl rfl ?_
       refine WL.gS rfl rfl rfl rfl ?_
       refine WL.gS rfl rfl rfl rfl ?_
       refine WL.gS rfl rfl rfl rfl ?_
       refine WL.gS rfl rfl rfl rfl ?_
       refine WL.gS rfl rfl rfl rfl ?_
       refine WL.gS rfl rfl rfl rfl ?_
       refine WL.gS rfl rfl rfl rfl ?_
       refine WL.y (Y.pick (b := false) rfl rfl) rfl ?_
       exact WL.nil (At.join (σ := Bool) false ⟨some1 h, rfl⟩ (.cons rfl (.cons rfl (.cons rfl .nil))))
     ·rintro x23 _ ⟨rfl, rfl⟩
      replace h := hk25
      try dsimp only at h
      refine (show WL _ _ _ _ _ [(0, v0), (1, vi a1), (49, Value.bool x23)] _ from ?_)
      refine WL.y (Y.assign rfl) rfl ?_
      refine WL.nil ?_
      refine At.then ?_
      rcases cnd h with ⟨hc39, h⟩ | ⟨hc39, h⟩
      ·refine WC.condT' rfl hc39 ?_
       refine WC.seq ?_
       refine WC.region ?_
       refine WL.y (Y.assign rfl) rfl ?_
       refine WL.y (Y.assign rfl) rfl ?_
       refine WL.nil ?_
       refine At.then ?_
       refine WC.ret ?_
       refine At.inBlockR ?_
       refine At.thenR ?_
       obtain ⟨rfl, rfl⟩ := tup2 h
       have hs40 : Stp [] (Lg.O0 A) w (Lg.O0 A) w := (Stp.refl _ _ _)
       exact At.res (.inl rfl) rfl (.tmp rfl (.tmp rfl .nil)) ⟨Value.pointer none, rfl, (Stp.ext hs40 rfl rfl), rfl⟩
      ·refine WC.condF' rfl hc39 ?_
       refine WC.skip ?_
       refine At.inBlock ?_
       refine At.then ?_
       refine WC.seq ?_
       refine WC.region ?_
       refine WL.y (Y.move rfl) rfl ?_
       obtain ⟨r41, hp42, h⟩ := bnd h
       refine WL.call (vals := [v0]) kok23 rfl rfl (c_bytes_Clone (A := fun _ => True) (Sl.all hf11) hp42) ?_
       rintro vr47 wd46 ⟨_, rfl, hm45, f44⟩
       obtain ⟨O48, hold49, hnew50, hst51⟩ := adoptE (Lg.O0 A) (fun k => if Value.ownBlock vr47 = some k then 11 else 1) hm45
       have hf52 : OwnSl 11 Rep.b 5 O48 wd46 vr47 r41 := RowF.adopt 11 Flat.b f44 hnew50 (fun k hk => if_pos hk)
       refine WL.y (Y.move rfl) rfl ?_
       have hh56 := h
       obtain ⟨p53, m54, c55, rfl⟩ := hf52.shape
       have h := hh56
       refine WL.y (Y.build (vals := [(0, (Value.slice p53 m54 c55)), (1, vi a1)]) (cells := [(Value.slice p53 m54 c55), vi a1, vi 0]) (Fits.evalp rfl) (by kernel_rfl)) rfl ?_
       refine WL.box (O := O48) 12 [(Value.slice p53 m54 c55), vi a1, vi 0] rfl rfl rfl ?_
       intro p58 O59 wd60 hst61 hb57
       refine WL.y (Y.assign rfl) rfl ?_
       refine WL.y (Y.assign rfl) rfl ?_
       refine WL.nil ?_
       refine At.then ?_
       refine WC.ret ?_
       obtain ⟨rfl, rfl⟩ := tup2 h
       have hf62 := hf52.st hst61 rfl rfl rfl
       obtain ⟨O63, hst64, hf65⟩ := OwnSl.giveF rfl Flat.b hf62
       have hs66 : Stp [11] (Lg.O0 A) w O63 wd60 := (Stp.trans (Stp.up hst51 rfl) (Stp.trans (Stp.up hst61 rfl) (Stp.up hst64 rfl)))
       have hf67 := hb57.st hst64 rfl
       exact At.res (.inl rfl) rfl (.tmp rfl (.tmp rfl .nil)) ⟨Value.pointer (some ⟨p58, 0, none⟩), rfl, (Stp.ext hs66 rfl rfl), ⟨p58, (Value.slice p53 m54 c55), rfl, (Blk.outF hf67 hs66 low0 rfl), (Sl.outFN hf65 hs66 low0 hf67.lab rfl)⟩⟩

theorem c_ref01_Bits {A : Nat → Prop} {a0 : List UInt8} {v0 : Value} {w : World} (hs0 : Sl Rep.b w A v0 a0) {r0 : List Int} (h : ref01_Bits a0 = some r0) : Rets Tryd.prog 9 [v0] w (fun v w' => ∃ (u0 : Value), v = u0 ∧ Ext w w' ∧ RowF Rep.i 3 w w' u0 r0) := by
 unfold ref01_Bits at h
 refine Rets.enter Tryd.func9 rfl rfl ?_
 have hf11 : Sl Rep.b w (imm (Lg.O0 A)) v0 a0 := (Sl.start hs0)
 refine (show WC _ _ _ _ [(0, v0)] _ from ?_)
 refine WC.seq ?_
 refine WC.region ?_
 refine WL.y (Y.assign rfl) rfl ?_
 refine WL.nil ?_
 refine At.then ?_
 refine WC.seq ?_
 refine WC.region ?_
 refine WL.y (Y.assign rfl) rfl ?_
 refine WL.nil ?_
 refine At.then ?_
 refine WC.seq ?_
 refine WC.seq ?_
 refine WC.region ?_
 refine WL.y (Y.assign rfl) rfl ?_
 refine WL.nil ?_
 refine At.then ?_
 refine WC.block ?_
 obtain ⟨p25, h, hk27⟩ := flow1 h
 obtain ⟨k26, h⟩ := loop_some h
 refine WC.joinB 0 (σ := (List Int × Own × Value)) (fun x w' => p25 = .go x.1 ∧ Stp [12, 1001, 1002, 1004, 1006] (Lg.O0 A) w x.2.1 w' ∧ OwnSl 1010 Rep.i 3 x.2.1 w' x.2.2 x.1) (fun x => [(3, x.2.2)]) ?_ ?_
 ·refine WC.loop (σ := (List Int × Int × Own × Value)) (fun x k w' => loopN k (ref01_Bits_lp1 a0) (x.1, x.2.1) = some p25 ∧ Stp [12, 1001, 1002, 1004, 1006] (Lg.O0 A) w x.2.2.1 w' ∧ OwnSl 1006 Rep.i 3 x.2.2.1 w' x.2.2.2 x.1) (fun x => [(0, v0), (3, x.2.2.2), (4, vi x.2.1)]) ([], 0, (Lg.O0 A), Value.slice none 0 0) k26 (.cons rfl (.cons rfl (.cons rfl .nil))) ⟨h, (Stp.refl _ _ _), (OwnSl.nil 1006 Rep.i 3)⟩ ?_
  rintro ⟨out12, i15, O16, v13⟩ k26 wd17 ⟨h, hst18, hf14⟩
  obtain ⟨j28, q29, rfl, h, hn30⟩ := rnd1 h
  unfold ref01_Bits_lp1 at h
  try dsimp only at h hst18 hf14
  refine (show WC _ _ _ _ [(0, v0), (3, v13), (4, vi i15)] _ from ?_)
  refine WC.seq ?_
  refine WC.seq ?_
  refine WC.region ?_
  refine WL.y (Y.move rfl) rfl ?_
  refine WL.y (Y.move rfl) rfl ?_
  have hf31 := hf11.mono (imm_st hst18 rfl rfl)
  refine WL.y (Y.len ty27 rfl hf31) rfl ?_
  refine WL.y (Y.lss_i rfl rfl) rfl ?_
  refine WL.nil ?_
  refine At.then ?_
  rcases cnd h with ⟨hc32, h⟩ | ⟨hc32, h⟩
  ·refine WC.condT' rfl hc32 ?_
   refine WC.skip ?_
   refine At.then ?_
   refine WC.seq ?_
   refine WC.block ?_
   refine WC.seq ?_
   refine WC.region ?_
   refine WL.y (Y.move rfl) rfl ?_
   refine WL.y (Y.move rfl) rfl ?_
   obtain ⟨e33, he33, h⟩ := bnd h
   obtain ⟨b34, off42, cap41, cs40, hv35, hi36, hl37, hc38, hok39, hA43⟩ := Sl.at2 hf31 he33
   obtain rfl := hok39
   replace hc38 : CellsAt _ _ _ [vb e33] := hc38
   have hca44 := CAt.imm hc38 hA43
   refine WL.y (Y.indexAddr ty27 ty5 rfl hv35 rfl hi36 hl37) rfl ?_
   refine WL.y (Y.loadSc ty5 rfl rfl hca44.at_) rfl ?_
   refine WL.y (Y.conv_bi ty5.u ty3.u rfl) rfl ?_
   obtain ⟨x45, hx45, h⟩ := lt1 h
   refine WL.yE (Y.assign rfl) (congrArg vi hx45.symm) rfl ?_
   refine WL.nil ?_
   refine At.then ?_
   refine WC.seq ?_
   refine WC.region ?_
   refine WL.y (Y.assign rfl) rfl ?_
   refine WL.nil ?_
   refine At.then ?_
   obtain ⟨p52, h, hk53⟩ := bnd h
   refine WC.join (σ := (List Int × Own × Value)) (fun x w' => x.1 = p52 ∧ Stp [1001, 1002, 1006] O16 wd17 x.2.1 w' ∧ OwnSl 1004 Rep.i 3 x.2.1 w' x.2.2 x.1) (fun x => [(0, v0), (3, x.2.2), (4, vi i15)]) ?_ ?_
   ·refine WC.block ?_
    obtain ⟨p67, h, hk69⟩ := flow1 h
    obtain ⟨k68, h⟩ := loop_some h
    refine WC.joinB 2 (σ := (List Int × Own × Value)) (fun x w' => p67 = .go x.1 ∧ Stp [1001, 1006] O16 wd17 x.2.1 w' ∧ OwnSl 1002 Rep.i 3 x.2.1 w' x.2.2 x.1) (fun x => [(0, v0), (3, x.2.2), (4, vi i15)]) ?_ ?_
    ·obtain ⟨O70, hst71, ho72⟩ := OwnSl.rlb 1001 rfl hf14
     refine WC.loop (σ := (List Int × Int × Own × Value)) (fun x k w' => loopN k (ref01_Bits_lp2 x45) (x.1, x.2.1) = some p67 ∧ Stp [1001, 1006] O16 wd17 x.2.2.1 w' ∧ OwnSl 1001 Rep.i 3 x.2.2.1 w' x.2.2.2 x.1) (fun x => [(0, v0), (3, x.2.2.2), (4, vi i15), (5, vi x45), (6, vi x.2.1)]) (out12, 128, O70, v13) k68 (.cons rfl (.cons rfl (.cons rfl (.cons rfl (.cons rfl .nil))))) ⟨h, (Stp.up hst71 rfl), ho72⟩ ?_
     rintro ⟨out54, k57, O58, v55⟩ k68 wd59 ⟨h, hst60, hf56⟩
     obtain ⟨j73, q74, rfl, h, hn75⟩ := rnd1 h
     unfold ref01_Bits_lp2 at h
     try dsimp only at h hst60 hf56
     refine (show WC _ _ _ _ [(0, v0), (3, v55), (4, vi i15), (5, vi x45), (6, vi k57)] _ from ?_)
     refine WC.seq ?_
     refine WC.seq ?_
     refine WC.region ?_
     refine WL.y (Y.move rfl) rfl ?_
     refine WL.y (Y.gtr_i rfl rfl) rfl ?_
     refine WL.nil ?_
     refine At.then ?_
     rcases cnd h with ⟨hc76, h⟩ | ⟨hc76, h⟩
     ·refine WC.condT' rfl hc76 ?_
      refine WC.skip ?_
      refine At.then ?_
      refine WC.seq ?_
      refine WC.block ?_
      refine WC.region ?_
      refine WL.y (Y.move rfl) rfl ?_
      refine WL.y (Y.move rfl) rfl ?_
      refine WL.y (Y.move rfl) rfl ?_
      obtain ⟨hc77, h⟩ := chk1 h
      refine WL.y (Y.quo_i (ne_of_chk hc77) rfl rfl) rfl ?_
      refine WL.y (Y.rem_i (by decide) rfl rfl) rfl ?_
      refine WL.buildSlice (O := O58) (R := Rep.i) (vals := [(0, vi ((w64 (x45.tdiv k57)).tmod 2))]) 11 [vi ((w64 (x45.tdiv k57)).tmod 2)] (xs := [(w64 (x45.tdiv k57)).tmod 2]) (by decide) ty32 ty3 (by decide) (by decide) (Fits.evalp rfl) (by kernel_rfl) rfl ⟨[vi ((w64 (x45.tdiv k57)).tmod 2)], [], rfl, rfl, rfl⟩ rfl ?_
      intro v78 O80 wd81 hst82 ho79
      obtain ⟨xs83, hxs83, h⟩ := bnd h
      have hf84 := hf56.st hst82 rfl rfl rfl
      refine WL.append (by decide) ty32 ty3 rfl (by decide) rfl rfl hf84 ho79.src hxs83 rfl ?_
      intro v88 O85 wd86 hst87 ho89
      refine WL.y (Y.assign rfl) rfl ?_
      refine WL.nil ?_
      refine At.inBlock ?_
      refine At.then ?_
      refine WC.region ?_
      refine WL.y (Y.move rfl) rfl ?_
      refine WL.y (Y.quo_i (by decide) rfl rfl) rfl ?_
      obtain ⟨k90, hk90, h⟩ := lt1 h
      refine WL.yE (Y.assign rfl) (congrArg vi hk90.symm) rfl ?_
      refine WL.nil ?_
      exact At.round (xs83, k90, O85, v88) j73 (Nat.lt_succ_self _) ⟨next1 h hn75, (Stp.trans (Stp.up hst60 rfl) (Stp.trans (Stp.up hst82 rfl) (Stp.up hst87 rfl))), ho89⟩ (.cons rfl (.cons rfl (.cons rfl (.cons rfl (.cons rfl .nil)))))
     ·refine WC.condF' rfl hc76 ?_
      refine WC.exit ?_
      refine At.thenX ?_
      refine At.loopX ?_
      obtain ⟨O91, hst92, ho93⟩ := OwnSl.rlb 1002 rfl hf56
      exact At.hitB (σ := (List Int × Own × Value)) (out54, O91, v55) ⟨brk1 h hn75, (Stp.trans (Stp.up hst60 rfl) (Stp.up hst92 rfl)), ho93⟩ (.cons rfl (.cons rfl (.cons rfl .nil)))
    ·rintro ⟨out61, O64, v62⟩ wd65 ⟨rfl, hst66, hf63⟩
     replace h := flowK_go hk69
     try dsimp only at h hst66 hf63
     refine (show At _ _ _ [(0, v0), (3, v62), (4, vi i15)] _ from ?_)
     refine At.inBlockHit ?_
     obtain ⟨O94, hst95, ho96⟩ := OwnSl.rlb 1004 rfl hf63
     exact At.join (σ := (List Int × Own × Value)) (out61, O94, v62) ⟨some1 h, (Stp.trans (Stp.up hst66 rfl) (Stp.up hst95 rfl)), ho96⟩ (.cons rfl (.cons rfl (.cons rfl .nil)))
   ·rintro ⟨out46, O49, v47⟩ wd50 ⟨rfl, hst51, hf48⟩
    replace h := hk53
    try dsimp only at h hst51 hf48
    refine (show At _ _ _ [(0, v0), (3, v47), (4, vi i15)] _ from ?_)
    refine At.inBlock ?_
    refine At.then ?_
    refine WC.region ?_
    refine WL.y (Y.move rfl) rfl ?_
    refine WL.y (Y.add_i rfl rfl) rfl ?_
    obtain ⟨i97, hi97, h⟩ := lt1 h
    refine WL.yE (Y.assign rfl) (congrArg vi hi97.symm) rfl ?_
    refine WL.nil ?_
    obtain ⟨O98, hst99, ho100⟩ := OwnSl.rlb 1006 rfl hf48
    exact At.round (out46, i97, O98, v47) j28 (Nat.lt_succ_self _) ⟨next1 h hn30, (Stp.trans (Stp.up hst18 rfl) (Stp.trans (Stp.up hst51 rfl) (Stp.up hst99 rfl))), ho100⟩ (.cons rfl (.cons rfl (.cons rfl .nil)))
  ·refine WC.condF' rfl hc32 ?_
   refine WC.exit ?_
   refine At.thenX ?_
   refine At.loopX ?_
   obtain ⟨O101, hst102, ho103⟩ := OwnSl.rlb 1010 rfl hf14
   exact At.hitB (σ := (List Int × Own × Value)) (out12, O101, v13) ⟨brk1 h hn30, (Stp.trans (Stp.up hst18 rfl) (Stp.up hst102 rfl)), ho103⟩ (.cons rfl .nil)
 ·rintro ⟨out19, O22, v20⟩ wd23 ⟨rfl, hst24, hf21⟩
  replace h := flowK_go hk27
  try dsimp only at h hst24 hf21
  refine (show At _ _ _ [(3, v20)] _ from ?_)
  refine At.inBlockHit ?_
  refine At.then ?_
  refine WC.seq ?_
  refine WC.region ?_
  refine WL.y (Y.move rfl) rfl ?_
  refine WL.y (Y.assign rfl) rfl ?_
  refine WL.nil ?_
  refine At.then ?_
  refine WC.ret ?_
  obtain rfl := some1 h
  have hs104 : Stp [12, 1001, 1002, 1004, 1006] (Lg.O0 A) w O22 wd23 := (Stp.up hst24 rfl)
  exact At.res (.inl rfl) rfl (.tmp rfl .nil) ⟨v20, rfl, (Stp.ext hs104 rfl rfl), (OwnSl.outF hf21 hs104 low0 rfl)⟩

theorem c_ref07_with {A : Nat → Prop} {v0_0 : Value} {a0 : ref07_State} {a1 : UInt64} {a2 : ref07_Window} {w : World} (hs0_0 : Sl Rep.u w A v0_0 a0.L) {r0 : ref07_State} (h : ref07_with a0 a1 a2 = some r0) : Rets Tryd.prog 25 [Value.agg (List.toArray [v0_0, vi a0.W.From, vi a0.W.Size]), vu a1, Value.agg (List.toArray [vi a2.From, vi a2.Size])] w (fun v w' => ∃ (u0_0 : Value), v = Value.agg (List.toArray [u0_0, vi r0.W.From, vi r0.W.Size]) ∧ Ext w w' ∧ Sl Rep.u w' (fun k => w.heap.size ≤ k) u0_0 r0.L) := by
 unfold ref07_with at h
 refine Rets.enter Tryd.func25 rfl rfl ?_
 have hf11 : Sl Rep.u w (imm (Lg.O0 A)) v0_0 a0.L := (Sl.start hs0_0)
 refine (show WC _ _ _ _ [(0, Value.agg (List.toArray [v0_0, vi a0.W.From, vi a0.W.Size])), (1, vu a1), (2, Value.agg (List.toArray [vi a2.From, vi a2.Size]))] _ from ?_)
 refine WC.seq ?_
 refine WC.region ?_
 have hh15 := h
 obtain ⟨p12, m13, c14, rfl⟩ := hf11.shape
 have h := hh15
 refine WL.box (O := (Lg.O0 A)) 11 [(Value.slice p12 m13 c14), vi a0.W.From, vi a0.W.Size] rfl rfl rfl ?_
 intro p17 O18 wd19 hst20 hb16
 refine WL.box (O := O18) 12 [vi a2.From, vi a2.Size] rfl rfl rfl ?_
 intro p22 O23 wd24 hst25 hb21
 refine WL.alloc (O := O23) 13 [Value.slice none 0 0, vi 0, vi 0] ty41 rfl rfl ?_
 intro p27 O28 wd29 hst30 hb26
 refine WL.nil ?_
 refine At.then ?_
 refine WC.seq ?_
 refine WC.region ?_
 refine WL.y (Y.assign rfl) rfl ?_
 refine WL.nil ?_
 refine At.then ?_
 refine WC.seq ?_
 refine WC.region ?_
 refine WL.y (Y.move rfl) rfl ?_
 refine WL.y (Y.fieldAddr fo41_0 rfl) rfl ?_
 have hf31 := hb16.st hst25 rfl
 have hf32 := hf31.st hst30 rfl
 refine WL.y (Y.loadSc ty22 rfl rfl (hf32.cell 0 _ rfl)) rfl ?_
 obtain ⟨xs33, hxs33, h⟩ := bnd h
 have hf34 := hf11.mono (imm_st hst20 rfl rfl)
 have hf35 := hf34.mono (imm_st hst25 rfl rfl)
 have hf36 := hf35.mono (imm_st hst30 rfl rfl)
 have ho37 := OwnSl.nil (O := O28) (w := wd29) 14 Rep.u 23
 refine WL.append (by decide) ty22 ty23 rfl (by decide) rfl rfl ho37 (Sl.src hf36) hxs33 rfl ?_
 intro v41 O38 wd39 hst40 ho42
 refine WL.y (Y.assign rfl) rfl ?_
 refine WL.nil ?_
 refine At.then ?_
 refine WC.seq ?_
 refine WC.drawH [14] [0, 1, 2, 3, 4, 5] O38 7 fmix rfl (by kernel_rfl) ?_
 intro wd43 hst44
 refine WD.y 0 rfl (by kernel_rfl) (fun _ _ _ => Y.move rfl) rfl ?_
 refine WD.y 1 rfl (by kernel_rfl) (fun _ _ _ => Y.move rfl) rfl ?_
 refine WD.y 4 rfl (by kernel_rfl) (fun wd52 O51 hst53 => have hf54 := hb21.st hst30 rfl; have hf55 := hf54.st hst40 rfl; have hf56 := hf55.st hst44 rfl; have hf57 := hf56.st hst53 rfl; Y.loadAg ty39 rfl rfl (hf57.cells 0 [vi a2.From, vi a2.Size] rfl) rfl) rfl ?_
 refine WD.heavy 2 rfl (by kernel_rfl) ?_
 refine WL.buildSlice (O := O38) (R := Rep.u) (vals := [(0, vu a1)]) 15 [vu a1] (xs := [a1]) (by decide) ty22 ty23 (by decide) (by decide) (Fits.evalp rfl) (by kernel_rfl) rfl ⟨[vu a1], [], rfl, rfl, rfl⟩ rfl ?_
 intro v58 O60 wd61 hst62 ho59
 refine WL.nil ?_
 refine At.dq (Stp.up hst62 rfl) ?_
 refine WD.heavy 3 rfl (by kernel_rfl) ?_
 obtain ⟨xs63, hxs63, h⟩ := bnd h
 have hf64 := ho42.st hst44 rfl rfl rfl
 have hf65 := hf64.st hst62 rfl rfl rfl
 refine WL.append (by decide) ty22 ty23 rfl (by decide) rfl rfl hf65 ho59.src hxs63 rfl ?_
 intro v69 O66 wd67 hst68 ho70
 refine WL.nil ?_
 refine At.dq (Stp.up hst68 rfl) ?_
 have hh74 := h
 obtain ⟨p71, m72, c73, rfl⟩ := ho70.shape
 have h := hh74
 refine WD.y 5 rfl (by kernel_rfl) (fun _ _ _ => Y.build (vals := [(0, (Value.slice p71 m72 c73)), (1, Value.agg (List.toArray [vi a2.From, vi a2.Size]))]) (cells := [(Value.slice p71 m72 c73), vi a2.From, vi a2.Size]) (Fits.evalp rfl) (by kernel_rfl)) rfl ?_
 refine WD.phase [13] [0, 1, 2, 3, 4, 5, 6] (by kernel_rfl) (by kernel_rfl) ?_
 refine WD.heavy 6 rfl (by kernel_rfl) ?_
 have hf78 := hb26.st hst40 rfl
 have hf79 := hf78.st hst44 rfl
 have hf80 := hf79.st hst62 rfl
 have hf81 := hf80.st hst68 rfl
 refine WL.store (v := Value.agg (List.toArray [(Value.slice p71 m72 c73), vi a2.From, vi a2.Size])) (cells' := [(Value.slice p71 m72 c73), vi a2.From, vi a2.Size]) ty41 rfl rfl hf81 rfl (Nat.le_of_ble_eq_true rfl) rfl rfl ?_
 intro wd82 hst83 hb84
 refine WL.nil ?_
 refine At.dq (Stp.up hst83 rfl) ?_
 refine WD.done_ (by kernel_rfl) ?_
 refine At.then ?_
 refine WC.ret ?_
 obtain rfl := some1 h
 have hf85 := ho70.st hst83 rfl rfl rfl
 obtain ⟨O86, hst87, hf88⟩ := OwnSl.giveF rfl Flat.u hf85
 have hs89 : Stp [13, 14] (Lg.O0 A) w O86 wd82 := (Stp.trans (Stp.up hst20 rfl) (Stp.trans (Stp.up hst25 rfl) (Stp.trans (Stp.up hst30 rfl) (Stp.trans (Stp.up hst40 rfl) (Stp.trans (Stp.up hst44 rfl) (Stp.trans (Stp.up hst62 rfl) (Stp.trans (Stp.up hst68 rfl) (Stp.trans (Stp.up hst83 rfl) (Stp.up hst87 rfl)))))))))
 have hf90 := hb84.st hst87 rfl
 exact At.res (.inl rfl) rfl (.cell rfl (hf90.runAg 0 [(Value.slice p71 m72 c73), vi a2.From, vi a2.Size] ty41 rfl rfl rfl) .nil) ⟨(Value.slice p71 m72 c73), rfl, (Stp.ext hs89 rfl rfl), (Sl.outF hf88 hs89 low0)⟩

theorem c_ref07_last {A : Nat → Prop} {v0_0 : Value} {a0 : ref07_State} {w : World} (hs0_0 : Sl Rep.u w A v0_0 a0.L) {r0 : UInt64} (h : ref07_last a0 = some r0) : Rets Tryd.prog 26 [Value.agg (List.toArray [v0_0, vi a0.W.From, vi a0.W.Size])] w (fun v w' => v = vu r0 ∧ Ext w w') := by
 unfold ref07_last at h
 refine Rets.enter Tryd.func26 rfl rfl ?_
 have hf11 : Sl Rep.u w (imm (Lg.O0 A)) v0_0 a0.L := (Sl.start hs0_0)
 refine (show WC _ _ _ _ [(0, Value.agg (List.toArray [v0_0, vi a0.W.From, vi a0.W.Size]))] _ from ?_)
 refine WC.seq ?_
 refine WC.region ?_
 have hh15 := h
 obtain ⟨p12, m13, c14, rfl⟩ := hf11.shape
 have h := hh15
 refine WL.box (O := (Lg.O0 A)) 11 [(Value.slice p12 m13 c14), vi a0.W.From, vi a0.W.Size] rfl rfl rfl ?_
 intro p17 O18 wd19 hst20 hb16
 refine WL.y (Y.assign (v := vu 0) rfl) rfl ?_
 refine WL.nil ?_
 refine At.then ?_
 refine WC.seq ?_
 refine WC.seq ?_
 refine WC.region ?_
 refine WL.y (Y.fieldAddr fo41_0 rfl) rfl ?_
 refine WL.y (Y.loadSc ty22 rfl rfl (hb16.cell 0 _ rfl)) rfl ?_
 have hf21 := hf11.mono (imm_st hst20 rfl rfl)
 refine WL.y (Y.len ty22 rfl hf21) rfl ?_
 refine WL.y (Y.eql_i rfl rfl) rfl ?_
 refine WL.nil ?_
 refine At.then ?_
 rcases cnd h with ⟨hc22, h⟩ | ⟨hc22, h⟩
 ·refine WC.condT' rfl hc22 ?_
  refine WC.seq ?_
  refine WC.region ?_
  refine WL.y (Y.assign (v := vu 0) rfl) rfl ?_
  refine WL.nil ?_
  refine At.then ?_
  refine WC.ret ?_
  refine At.thenR ?_
  obtain rfl := some1 h
  have hs23 : Stp [] (Lg.O0 A) w O18 wd19 := (Stp.up hst20 rfl)
  exact At.res (.inl rfl) rfl (.tmp rfl .nil) ⟨rfl, (Stp.ext hs23 rfl rfl)⟩
 ·refine WC.condF' rfl hc22 ?_
  refine WC.skip ?_
  refine At.then ?_
  refine WC.seq ?_
  refine WC.region ?_
  refine WL.y (Y.fieldAddr fo41_0 rfl) rfl ?_
  refine WL.y (Y.loadSc ty22 rfl rfl (hb16.cell 0 _ rfl)) rfl ?_
  refine WL.y (Y.fieldAddr fo41_0 rfl) rfl ?_
  refine WL.y (Y.loadSc ty22 rfl rfl (hb16.cell 0 _ rfl)) rfl ?_
  refine WL.y (Y.len ty22 rfl hf21) rfl ?_
  refine WL.y (Y.sub_i rfl rfl) rfl ?_
  obtain ⟨e24, he24, h⟩ := bnd h
  obtain ⟨b25, off33, cap32, cs31, hv26, hi27, hl28, hc29, hok30, hA34⟩ := Sl.at2 hf21 he24
  obtain rfl := hok30
  replace hc29 : CellsAt _ _ _ [vu e24] := hc29
  have hca35 := CAt.imm hc29 hA34
  refine WL.y (Y.indexAddr ty22 ty23 rfl hv26 rfl hi27 hl28) rfl ?_
  refine WL.y (Y.loadSc ty23 rfl rfl hca35.at_) rfl ?_
  refine WL.y (Y.assign rfl) rfl ?_
  refine WL.nil ?_
  refine At.then ?_
  refine WC.ret ?_
  obtain rfl := some1 h
  have hs36 : Stp [] (Lg.O0 A) w O18 wd19 := (Stp.up hst20 rfl)
  exact At.res (.inl rfl) rfl (.tmp rfl .nil) ⟨rfl, (Stp.ext hs36 rfl rfl)⟩

theorem c_ref01_Row {a0 : UInt64} {a1 : Int} {w : World} {r0 : List Int} {r1 : Bool} (h : ref01_Row a0 a1 = some (r0, r1)) : Rets Tryd.prog 37 [vu a0, vi a1] w (fun v w' => ∃ (u0 : Value), v = Value.tuple (List.toArray [u0, Value.bool r1]) ∧ Ext w w' ∧ RowF Rep.i 3 w w' u0 r0) := by
 unfold ref01_Row at h
 refine Rets.enter Tryd.func37 rfl rfl ?_
 refine (show WC _ _ _ _ [(0, vu a0), (1, vi a1)] _ from ?_)
 refine WC.seq ?_
 refine WC.region ?_
 refine WL.y (Y.assign rfl) rfl ?_
 refine WL.y (Y.assign rfl) rfl ?_
 refine WL.nil ?_
 refine At.then ?_
 refine WC.seq ?_
 refine WC.seq ?_
 refine WC.region ?_
 refine WL.y (Y.move rfl) rfl ?_
 refine WL.y (Y.lss_i rfl rfl) rfl ?_
 refine WL.y (Y.move rfl) rfl ?_
 refine WL.cut 3 (σ := Unit) (fun _ w' => w = w') (fun _ => [(0, vu a0), (1, vi a1), (13, Value.bool ((decide (a1 < 0)) || (decide (64 < a1))))]) ?_ ?_
 ·refine WL.part 10 rfl (fun hE11 => ?_) (fun hE11 => ?_)
  ·refine WL.gS rfl rfl rfl rfl ?_
   refine WL.gS rfl rfl rfl rfl ?_
   refine WL.y (Y.pick (b := true) rfl rfl) rfl ?_
   refine WL.ren (v' := Value.bool ((decide (a1 < 0)) || (decide (64 < a1)))) 13 rfl (congrArg Value.bool (orT hE11)) ?_
   exact WL.nil (At.join () rfl (.cons rfl (.cons rfl (.cons rfl .nil))))
  ·refine WL.ung rfl rfl ?_
   refine WL.y (Y.move rfl) rfl ?_
   refine WL.ung rfl rfl ?_
   refine WL.y (Y.gtr_i rfl rfl) rfl ?_
   refine WL.y (Y.pick (b := false) rfl rfl) rfl ?_
   refine WL.ren (v' := Value.bool ((decide (a1 < 0)) || (decide (64 < a1)))) 13 rfl (congrArg Value.bool (orF hE11)) ?_
   exact WL.nil (At.join () rfl (.cons rfl (.cons rfl (.cons rfl .nil))))
 ·rintro _ _ rfl
  refine (show WL _ _ _ _ _ [(0, vu a0), (1, vi a1), (13, Value.bool ((decide (a1 < 0)) || (decide (64 < a1))))] _ from ?_)
  refine WL.nil ?_
  refine At.then ?_
  rcases cnd h with ⟨hc12, h⟩ | ⟨hc12, h⟩
  ·refine WC.condT' rfl hc12 ?_
   refine WC.seq ?_
   refine WC.region ?_
   refine WL.y (Y.assign rfl) rfl ?_
   refine WL.y (Y.assign rfl) rfl ?_
   refine WL.nil ?_
   refine At.then ?_
   refine WC.ret ?_
   refine At.thenR ?_
   obtain ⟨rfl, rfl⟩ := tup2 h
   have hs13 : Stp [] (Lg.O0 (fun _ => False)) w (Lg.O0 (fun _ => False)) w := (Stp.refl _ _ _)
   exact At.res (.inl rfl) rfl (.tmp rfl (.tmp rfl .nil)) ⟨Value.slice none 0 0, rfl, (Stp.ext hs13 rfl rfl), RowF.nil⟩
  ·refine WC.condF' rfl hc12 ?_
   refine WC.skip ?_
   refine At.then ?_
   refine WC.seq ?_
   refine WC.region ?_
   refine WL.y (Y.assign rfl) rfl ?_
   refine WL.nil ?_
   refine At.then ?_
   refine WC.seq ?_
   refine WC.seq ?_
   refine WC.region ?_
   refine WL.y (Y.assign rfl) rfl ?_
   refine WL.nil ?_
   refine At.then ?_
   refine WC.block ?_
   obtain ⟨p29, h, hk31⟩ := flow1 h
   obtain ⟨k30, h⟩ := loop_some h
   refine WC.joinB 0 (σ := (UInt64 × List Int × Own × Value)) (fun x w' => p29 = .go (x.1, x.2.1) ∧ Stp [11, 1001] (Lg.O0 (fun _ => False)) w x.2.2.1 w' ∧ OwnSl 1002 Rep.i 3 x.2.2.1 w' x.2.2.2 x.2.1) (fun x => [(0, vu x.1), (6, x.2.2.2)]) ?_ ?_
   ·refine WC.loop (σ := (UInt64 × List Int × Int × Own × Value)) (fun x k w' => loopN k (ref01_Row_lp1 a1) (x.1, x.2.1, x.2.2.1) = some p29 ∧ Stp [11] (Lg.O0 (fun _ => False)) w x.2.2.2.1 w' ∧ OwnSl 1001 Rep.i 3 x.2.2.2.1 w' x.2.2.2.2 x.2.1) (fun x => [(0, vu x.1), (1, vi a1), (6, x.2.2.2.2), (7, vi x.2.2.1)]) (a0, [], 0, (Lg.O0 (fun _ => False)), Value.slice none 0 0) k30 (.cons rfl (.cons rfl (.cons rfl (.cons rfl .nil)))) ⟨h, (Stp.refl _ _ _), (OwnSl.nil 1001 Rep.i 3)⟩ ?_
    rintro ⟨v14, out15, i18, O19, v16⟩ k30 wd20 ⟨h, hst21, hf17⟩
    obtain ⟨j32, q33, rfl, h, hn34⟩ := rnd1 h
    unfold ref01_Row_lp1 at h
    try dsimp only at h hst21 hf17
    refine (show WC _ _ _ _ [(0, vu v14), (1, vi a1), (6, v16), (7, vi i18)] _ from ?_)
    refine WC.seq ?_
    refine WC.seq ?_
    refine WC.region ?_
    refine WL.y (Y.move rfl) rfl ?_
    refine WL.y (Y.move rfl) rfl ?_
    refine WL.y (Y.lss_i rfl rfl) rfl ?_
    refine WL.nil ?_
    refine At.then ?_
    rcases cnd h with ⟨hc35, h⟩ | ⟨hc35, h⟩
    ·refine WC.condT' rfl hc35 ?_
     refine WC.skip ?_
     refine At.then ?_
     refine WC.seq ?_
     refine WC.block ?_
     refine WC.seq ?_
     refine WC.region ?_
     refine WL.y (Y.move rfl) rfl ?_
     refine WL.y (Y.rem_u (b := 2) (by decide) rfl rfl) rfl ?_
     refine WL.y (Y.conv_ui ty23.u ty3.u rfl) rfl ?_
     refine WL.buildSlice (O := O19) (R := Rep.i) (vals := [(0, vi (w64 ((v14 % 2).toNat : Int)))]) 11 [vi (w64 ((v14 % 2).toNat : Int))] (xs := [w64 ((v14 % 2).toNat : Int)]) (by decide) ty32 ty3 (by decide) (by decide) (Fits.evalp rfl) (by kernel_rfl) rfl ⟨[vi (w64 ((v14 % 2).toNat : Int))], [], rfl, rfl, rfl⟩ rfl ?_
     intro v36 O38 wd39 hst40 ho37
     refine WL.y (Y.move rfl) rfl ?_
     obtain ⟨xs41, hxs41, h⟩ := bnd h
     have hf42 := hf17.st hst40 rfl rfl rfl
     refine WL.append (by decide) ty32 ty3 rfl (by decide) rfl rfl ho37 hf42.src hxs41 rfl ?_
     intro v46 O43 wd44 hst45 ho47
     refine WL.y (Y.assign rfl) rfl ?_
     refine WL.nil ?_
     refine At.then ?_
     refine WC.region ?_
     refine WL.y (Y.move rfl) rfl ?_
     refine WL.y (Y.quo_u (b := 2) (by decide) rfl rfl) rfl ?_
     obtain ⟨v48, hv48, h⟩ := lt1 h
     refine WL.yE (Y.assign rfl) (congrArg vu hv48.symm) rfl ?_
     refine WL.nil ?_
     refine At.inBlock ?_
     refine At.then ?_
     refine WC.region ?_
     refine WL.y (Y.move rfl) rfl ?_
     refine WL.y (Y.add_i rfl rfl) rfl ?_
     obtain ⟨i49, hi49, h⟩ := lt1 h
     refine WL.yE (Y.assign rfl) (congrArg vi hi49.symm) rfl ?_
     refine WL.nil ?_
     obtain ⟨O50, hst51, ho52⟩ := OwnSl.rlb 1001 rfl ho47
     exact At.round (v48, xs41, i49, O50, v46) j32 (Nat.lt_succ_self _) ⟨next1 h hn34, (Stp.trans (Stp.up hst21 rfl) (Stp.trans (Stp.up hst40 rfl) (Stp.trans (Stp.up hst45 rfl) (Stp.up hst51 rfl)))), ho52⟩ (.cons rfl (.cons rfl (.cons rfl (.cons rfl .nil))))
    ·refine WC.condF' rfl hc35 ?_
     refine WC.exit ?_
     refine At.thenX ?_
     refine At.loopX ?_
     obtain ⟨O53, hst54, ho55⟩ := OwnSl.rlb 1002 rfl hf17
     exact At.hitB (σ := (UInt64 × List Int × Own × Value)) (v14, out15, O53, v16) ⟨brk1 h hn34, (Stp.trans (Stp.up hst21 rfl) (Stp.up hst54 rfl)), ho55⟩ (.cons rfl (.cons rfl .nil))
   ·rintro ⟨v22, out23, O26, v24⟩ wd27 ⟨rfl, hst28, hf25⟩
    replace h := flowK_go hk31
    try dsimp only at h hst28 hf25
    refine (show At _ _ _ [(0, vu v22), (6, v24)] _ from ?_)
    refine At.inBlockHit ?_
    refine At.then ?_
    refine WC.seq ?_
    refine WC.region ?_
    refine WL.y (Y.move rfl) rfl ?_
    refine WL.y (Y.move rfl) rfl ?_
    refine WL.y (Y.eql_u (b := 0) rfl rfl) rfl ?_
    refine WL.y (Y.assign rfl) rfl ?_
    obtain ⟨t56, ht56, h⟩ := lt1 h
    refine WL.yE (Y.assign rfl) (congrArg Value.bool ht56.symm) rfl ?_
    refine WL.nil ?_
    refine At.then ?_
    refine WC.ret ?_
    obtain ⟨rfl, rfl⟩ := tup2 h
    have hs57 : Stp [11, 1001] (Lg.O0 (fun _ => False)) w O26 wd27 := (Stp.up hst28 rfl)
    exact At.res (.inl rfl) rfl (.tmp rfl (.tmp rfl .nil)) ⟨v24, rfl, (Stp.ext hs57 rfl rfl), (OwnSl.outF hf25 hs57 low0 rfl)⟩

theorem c_ref07_row {a0 : UInt64} {w : World} {r0 : List Int} (h : ref07_row a0 = some r0) : Rets Tryd.prog 34 [vu a0] w (fun v w' => ∃ (u0 : Value), v = u0 ∧ Ext w w' ∧ RowF Rep.i 3 w w' u0 r0) := by
 unfold ref07_row at h
 refine Rets.enter Tryd.func34 rfl rfl ?_
 refine (show WC _ _ _ _ [(0, vu a0)] _ from ?_)
 refine WC.seq ?_
 refine WC.region ?_
 refine WL.y (Y.assign rfl) rfl ?_
 refine WL.nil ?_
 refine At.then ?_
 refine WC.seq ?_
 refine WC.region ?_
 refine WL.y (Y.move rfl) rfl ?_
 obtain ⟨⟨r11, r12⟩, hp13, h⟩ := bnd h
 refine WL.call (vals := [vu a0, vi 64]) kok37 rfl rfl (c_ref01_Row hp13) ?_
 rintro vr18 wd17 ⟨u14, rfl, hm16, f15⟩
 obtain ⟨O19, hold20, hnew21, hst22⟩ := adoptE (Lg.O0 (fun _ => False)) (fun k => if Value.ownBlock u14 = some k then 11 else 1) hm16
 have hf23 : OwnSl 11 Rep.i 3 O19 wd17 u14 r11 := RowF.adopt 11 Flat.i f15 hnew21 (fun k hk => if_pos hk)
 refine WL.y (Y.move rfl) rfl ?_
 refine WL.y (Y.extract rfl rfl) rfl ?_
 refine WL.y (Y.extract rfl rfl) rfl ?_
 refine WL.y (Y.assign rfl) rfl ?_
 refine WL.y (Y.assign rfl) rfl ?_
 refine WL.nil ?_
 refine At.then ?_
 refine WC.seq ?_
 refine WC.region ?_
 refine WL.y (Y.move rfl) rfl ?_
 refine WL.y (Y.assign rfl) rfl ?_
 refine WL.nil ?_
 refine At.then ?_
 refine WC.ret ?_
 obtain rfl := some1 h
 have hs24 : Stp [] (Lg.O0 (fun _ => False)) w O19 wd17 := (Stp.up hst22 rfl)
 exact At.res (.inl rfl) rfl (.tmp rfl .nil) ⟨u14, rfl, (Stp.ext hs24 rfl rfl), (OwnSl.outF hf23 hs24 low0 rfl)⟩

theorem c_ref07_in {A : Nat → Prop} {a0 : List Int} {v0 : Value} {a1 : ref07_Window} {w : World} (hs0 : Sl Rep.i w A v0 a0) {r0 : Bool} (h : ref07_in a0 a1 = some r0) : Rets Tryd.prog 35 [v0, Value.agg (List.toArray [vi a1.From, vi a1.Size])] w (fun v w' => v = Value.bool r0 ∧ Ext w w') := by
 unfold ref07_in at h
 refine Rets.enter Tryd.func35 rfl rfl ?_
 have hf11 : Sl Rep.i w (imm (Lg.O0 A)) v0 a0 := (Sl.start hs0)
 refine (show WC _ _ _ _ [(0, v0), (1, Value.agg (List.toArray [vi a1.From, vi a1.Size]))] _ from ?_)
 refine WC.seq ?_
 refine WC.region ?_
 refine WL.box (O := (Lg.O0 A)) 11 [vi a1.From, vi a1.Size] rfl rfl rfl ?_
 intro p13 O14 wd15 hst16 hb12
 refine WL.y (Y.assign rfl) rfl ?_
 refine WL.nil ?_
 refine At.then ?_
 refine WC.seq ?_
 refine WC.seq ?_
 refine WC.region ?_
 refine WL.y (Y.assign rfl) rfl ?_
 refine WL.nil ?_
 refine At.then ?_
 refine WC.block ?_
 obtain ⟨p18, h, hk20⟩ := flow1 h
 obtain ⟨k19, h⟩ := loop_some h
 refine WC.joinB 0 (σ := Unit) (fun x w' => p18 = .go () ∧ wd15 = w') (fun x => [(3, Value.pointer (some ⟨p13, 0, none⟩))]) ?_ ?_
 ·refine WC.loop (σ := Int) (fun x k w' => loopN k (ref07_in_lp1 a0 a1) x = some p18 ∧ wd15 = w') (fun x => [(0, v0), (3, Value.pointer (some ⟨p13, 0, none⟩)), (5, vi x)]) 0 k19 (.cons rfl (.cons rfl (.cons rfl .nil))) ⟨h, rfl⟩ ?_
  rintro i17 k19 _ ⟨h, rfl⟩
  obtain ⟨j21, q22, rfl, h, hn23⟩ := rnd1 h
  unfold ref07_in_lp1 at h
  try dsimp only at h
  refine (show WC _ _ _ _ [(0, v0), (3, Value.pointer (some ⟨p13, 0, none⟩)), (5, vi i17)] _ from ?_)
  refine WC.seq ?_
  refine WC.seq ?_
  refine WC.region ?_
  refine WL.y (Y.move rfl) rfl ?_
  refine WL.y (Y.lss_i rfl rfl) rfl ?_
  refine WL.nil ?_
  refine At.then ?_
  rcases cnd h with ⟨hc24, h⟩ | ⟨hc24, h⟩
  ·refine WC.condT' rfl hc24 ?_
   refine WC.skip ?_
   refine At.then ?_
   refine WC.seq ?_
   refine WC.block ?_
   refine WC.seq ?_
   refine WC.region ?_
   refine WL.y (Y.move rfl) rfl ?_
   refine WL.y (Y.move rfl) rfl ?_
   obtain ⟨e25, he25, h⟩ := bnd h
   have hf34 := hf11.mono (imm_st hst16 rfl rfl)
   obtain ⟨b26, off35, cap33, cs32, hv27, hi28, hl29, hc30, hok31, hA36⟩ := Sl.at2 hf34 he25
   obtain rfl := hok31
   replace hc30 : CellsAt _ _ _ [vi e25] := hc30
   have hca37 := CAt.imm hc30 hA36
   refine WL.y (Y.indexAddr ty32 ty3 rfl hv27 rfl hi28 hl29) rfl ?_
   refine WL.y (Y.loadSc ty3 rfl rfl hca37.at_) rfl ?_
   refine WL.y (Y.eql_i rfl rfl) rfl ?_
   refine WL.y (Y.move rfl) rfl ?_
   refine WL.cut 14 (σ := Unit) (fun _ w' => wd15 = w') (fun _ => [(0, v0), (3, Value.pointer (some ⟨p13, 0, none⟩)), (5, vi i17), (29, Value.bool ((decide (e25 = 1)) && ((decide (i17 < a1.From)) || (decide (w64 (a1.From + a1.Size) ≤ i17)))))]) ?_ ?_
   ·refine WL.part 15 rfl (fun hE38 => ?_) (fun hE38 => ?_)
    ·refine WL.ung rfl rfl ?_
     refine WL.y (Y.move rfl) rfl ?_
     refine WL.ung rfl rfl ?_
     refine WL.y (Y.fieldAddr fo39_0 rfl) rfl ?_
     refine WL.ung rfl rfl ?_
     refine WL.y (Y.loadSc ty3 rfl rfl (hb12.cell 0 _ rfl)) rfl ?_
     refine WL.ung rfl rfl ?_
     refine WL.y (Y.lss_i rfl rfl) rfl ?_
     refine WL.ung rfl rfl ?_
     refine WL.y (Y.move rfl) rfl ?_
     refine WL.cut 8 (σ := Unit) (fun _ w' => wd15 = w') (fun _ => [(0, v0), (3, Value.pointer (some ⟨p13, 0, none⟩)), (5, vi i17), (15, Value.bool true), (16, vi i17), (17, Value.pointer (some ⟨p13, 0, none⟩)), (18, vi a1.From), (19, Value.bool (decide (i17 < a1.From))), (20, Value.bool (decide (i17 < a1.From))), (28, Value.bool ((decide (i17 < a1.From)) || (decide (w64 (a1.From + a1.Size) ≤ i17))))]) ?_ ?_
     ·refine WL.part 20 rfl (fun hE39 => ?_) (fun hE39 => ?_)
      ·refine WL.gS rfl rfl rfl rfl ?_
       refine WL.gS rfl rfl rfl rfl ?_
       refine WL.gS rfl rfl rfl rfl ?_
       refine WL.gS rfl rfl rfl rfl ?_
       refine WL.gS rfl rfl rfl rfl ?_
       refine WL.gS rfl rfl rfl rfl ?_
       refine WL.gS rfl rfl rfl rfl ?_
       refine WL.ung rfl rfl ?_
       refine WL.y (Y.pick (b := true) rfl rfl) rfl ?_
       refine WL.ren (v' := Value.bool ((decide (i17 < a1.From)) || (decide (w64 (a1.From + a1.Size) ≤ i17)))) 28 rfl (congrArg Value.bool (orT hE39)) ?_
       refine WL.ren 20 rfl (congrArg Value.bool hE39.symm) ?_
       exact WL.nil (At.join () rfl (.cons rfl (.cons rfl (.cons rfl (.cons rfl (.cons rfl (.cons rfl (.cons rfl (.cons rfl (.cons rfl (.cons rfl .nil)))))))))))
      ·refine WL.ung rfl rfl ?_
       refine WL.y (Y.move rfl) rfl ?_
       refine WL.ung rfl rfl ?_
       refine WL.y (Y.fieldAddr fo39_0 rfl) rfl ?_
       refine WL.ung rfl rfl ?_
       refine WL.y (Y.loadSc ty3 rfl rfl (hb12.cell 0 _ rfl)) rfl ?_
       refine WL.ung rfl rfl ?_
       refine WL.y (Y.fieldAddr fo39_1 rfl) rfl ?_
       refine WL.ung rfl rfl ?_
       refine WL.y (Y.loadSc ty3 rfl rfl (hb12.cell 1 _ rfl)) rfl ?_
       refine WL.ung rfl rfl ?_
       refine WL.y (Y.add_i rfl rfl) rfl ?_
       refine WL.ung rfl rfl ?_
       refine WL.y (Y.geq_i rfl rfl) rfl ?_
       refine WL.ung rfl rfl ?_
       refine WL.y (Y.pick (b := false) rfl rfl) rfl ?_
       refine WL.ren (v' := Value.bool ((decide (i17 < a1.From)) || (decide (w64 (a1.From + a1.Size) ≤ i17)))) 28 rfl (congrArg Value.bool (orF hE39)) ?_
       refine WL.ren 20 rfl (congrArg Value.bool hE39.symm) ?_
       exact WL.nil (At.join () rfl (.cons rfl (.cons rfl (.cons rfl (.cons rfl (.cons rfl (.cons rfl (.cons rfl (.cons rfl (.cons rfl (.cons rfl .nil)))))))))))
     ·rintro _ _ rfl
      refine (show WL _ _ _ _ _ [(0, v0), (3, Value.pointer (some ⟨p13, 0, none⟩)), (5, vi i17), (15, Value.bool true), (16, vi i17), (17, Value.pointer (some ⟨p13, 0, none⟩)), (18, vi a1.From), (19, Value.bool (decide (i17 < a1.From))), (20, Value.bool (decide (i17 < a1.From))), (28, Value.bool ((decide (i17 < a1.From)) || (decide (w64 (a1.From + a1.Size) ≤ i17))))] _ from ?_)
      refine WL.y (Y.pick (b := true) rfl rfl) rfl ?_
      refine WL.ren (v' := Value.bool ((decide (e25 = 1)) && ((decide (i17 < a1.From)) || (decide (w64 (a1.From + a1.Size) ≤ i17))))) 29 rfl (congrArg Value.bool (andT hE38)) ?_
      exact WL.nil (At.join () rfl (.cons rfl (.cons rfl (.cons rfl (.cons rfl .nil)))))
    ·refine WL.gS rfl rfl rfl rfl ?_
     refine WL.gS rfl rfl rfl rfl ?_
     refine WL.gS rfl rfl rfl rfl ?_
     refine WL.gS rfl rfl rfl rfl ?_
     refine WL.gS rfl rfl rfl rfl ?_
     refine WL.gS rfl rfl rfl rfl ?_
     refine WL.gS rfl rfl rfl rfl ?_
     refine WL.gS rfl rfl rfl rfl ?_
     refine WL.gS rfl rfl rfl rfl ?_
     refine WL.gS rfl rfl rfl rfl ?_
     refine WL.gS rfl rfl rfl rfl ?_
     refine WL.gS rfl rfl rfl rfl ?_
     refine WL.gS rfl rfl rfl rfl ?_
     refine WL.y (Y.pick (b := false) rfl rfl) rfl ?_
     refine WL.ren (v' := Value.bool ((decide (e25 = 1)) && ((decide (i17 < a1.From)) || (decide (w64 (a1.From + a1.Size) ≤ i17))))) 29 rfl (congrArg Value.bool (andF hE38)) ?_
     exact WL.nil (At.join () rfl (.cons rfl (.cons rfl (.cons rfl (.cons rfl .nil)))))
   ·rintro _ _ rfl
    refine (show WL _ _ _ _ _ [(0, v0), (3, Value.pointer (some ⟨p13, 0, none⟩)), (5, vi i17), (29, Value.bool ((decide (e25 = 1)) && ((decide (i17 < a1.From)) || (decide (w64 (a1.From + a1.Size) ≤ i17)))))] _ from ?_)
    refine WL.nil ?_
    refine At.then ?_
    rcases cnd h with ⟨hc40, h⟩ | ⟨hc40, h⟩
    ·refine WC.condT' rfl hc40 ?_
     refine WC.seq ?_
     refine WC.region ?_
     refine WL.y (Y.assign rfl) rfl ?_
     refine WL.nil ?_
     refine At.then ?_
     refine WC.ret ?_
     refine At.inBlockR ?_
     refine At.thenR ?_
     refine At.loopR ?_
     have h := outr1 h hn23 hk20
     refine At.joinBR ?_
     refine At.inBlockR ?_
     refine At.thenR ?_
     obtain rfl := some1 h
     have hs41 : Stp [] (Lg.O0 A) w O14 wd15 := (Stp.up hst16 rfl)
     exact At.res (.inl rfl) rfl (.tmp rfl .nil) ⟨rfl, (Stp.ext hs41 rfl rfl)⟩
    ·refine WC.condF' rfl hc40 ?_
     refine WC.skip ?_
     refine At.inBlock ?_
     refine At.then ?_
     refine WC.region ?_
     refine WL.y (Y.move rfl) rfl ?_
     refine WL.y (Y.add_i rfl rfl) rfl ?_
     obtain ⟨i42, hi42, h⟩ := lt1 h
     refine WL.yE (Y.assign rfl) (congrArg vi hi42.symm) rfl ?_
     refine WL.nil ?_
     exact At.round i42 j21 (Nat.lt_succ_self _) ⟨next1 h hn23, rfl⟩ (.cons rfl (.cons rfl (.cons rfl .nil)))
  ·refine WC.condF' rfl hc24 ?_
   refine WC.exit ?_
   refine At.thenX ?_
   refine At.loopX ?_
   exact At.hitB (σ := Unit) () ⟨brk1 h hn23, rfl⟩ (.cons rfl .nil)
 ·rintro _ _ ⟨rfl, rfl⟩
  replace h := flowK_go hk20
  refine (show At _ _ _ [(3, Value.pointer (some ⟨p13, 0, none⟩))] _ from ?_)
  refine At.inBlockHit ?_
  refine At.then ?_
  refine WC.seq ?_
  refine WC.region ?_
  refine WL.y (Y.fieldAddr fo39_1 rfl) rfl ?_
  refine WL.y (Y.loadSc ty3 rfl rfl (hb12.cell 1 _ rfl)) rfl ?_
  refine WL.y (Y.gtr_i rfl rfl) rfl ?_
  obtain ⟨t43, ht43, h⟩ := lt1 h
  refine WL.yE (Y.assign rfl) (congrArg Value.bool ht43.symm) rfl ?_
  refine WL.nil ?_
  refine At.then ?_
  refine WC.ret ?_
  obtain rfl := some1 h
  have hs44 : Stp [] (Lg.O0 A) w O14 wd15 := (Stp.up hst16 rfl)
  exact At.res (.inl rfl) rfl (.tmp rfl .nil) ⟨rfl, (Stp.ext hs44 rfl rfl)⟩

theorem c_ref07_around {A : Nat → Prop} {a0 : List Int} {v0 : Value} {w : World} (hs0 : Sl Rep.i w A v0 a0) {r0 : ref07_Window} (h : ref07_around a0 = some r0) : Rets Tryd.prog 36 [v0] w (fun v w' => v = Value.agg (List.toArray [vi r0.From, vi r0.Size]) ∧ Ext w w') := by
 unfold ref07_around at h
 refine Rets.enter Tryd.func36 rfl rfl ?_
 have hf11 : Sl Rep.i w (imm (Lg.O0 A)) v0 a0 := (Sl.start hs0)
 refine (show WC _ _ _ _ [(0, v0)] _ from ?_)
 refine WC.seq ?_
 refine WC.region ?_
 refine WL.alloc (O := (Lg.O0 A)) 11 [vi 0, vi 0] ty39 rfl rfl ?_
 intro p13 O14 wd15 hst16 hb12
 refine WL.nil ?_
 refine At.then ?_
 refine WC.seq ?_
 refine WC.region ?_
 refine WL.y (Y.assign rfl) rfl ?_
 refine WL.nil ?_
 refine At.then ?_
 refine WC.seq ?_
 obtain ⟨p18, h, hk19⟩ := bnd h
 refine WC.join (σ := Int) (fun x w' => x = p18 ∧ wd15 = w') (fun x => [(0, v0), (2, Value.pointer (some ⟨p13, 0, none⟩)), (3, vi x)]) ?_ ?_
 ·refine WC.block ?_
  obtain ⟨p22, h, hk24⟩ := flow1 h
  obtain ⟨k23, h⟩ := loop_some h
  refine WC.joinB 0 (σ := Int) (fun x w' => p22 = .go x ∧ wd15 = w') (fun x => [(0, v0), (2, Value.pointer (some ⟨p13, 0, none⟩)), (3, vi x)]) ?_ ?_
  ·refine WC.loop (σ := Int) (fun x k w' => loopN k (ref07_around_lp1 a0) x = some p22 ∧ wd15 = w') (fun x => [(0, v0), (2, Value.pointer (some ⟨p13, 0, none⟩)), (3, vi x)]) 0 k23 (.cons rfl (.cons rfl (.cons rfl .nil))) ⟨h, rfl⟩ ?_
   rintro from20 k23 _ ⟨h, rfl⟩
   obtain ⟨j25, q26, rfl, h, hn27⟩ := rnd1 h
   unfold ref07_around_lp1 at h
   try dsimp only at h
   refine (show WC _ _ _ _ [(0, v0), (2, Value.pointer (some ⟨p13, 0, none⟩)), (3, vi from20)] _ from ?_)
   refine WC.seq ?_
   refine WC.seq ?_
   refine WC.region ?_
   refine WL.y (Y.move rfl) rfl ?_
   refine WL.y (Y.lss_i rfl rfl) rfl ?_
   refine WL.y (Y.move rfl) rfl ?_
   obtain ⟨p29, h, hk30⟩ := bnd h
   refine WL.cut 6 (σ := Bool) (fun x w' => x = p29 ∧ wd15 = w') (fun x => [(0, v0), (2, Value.pointer (some ⟨p13, 0, none⟩)), (3, vi from20), (13, Value.bool x)]) ?_ ?_
   ·rcases cnd h with ⟨hE31, h⟩ | ⟨hE31, h⟩
    ·refine WL.ren 7 rfl (congrArg Value.bool hE31) ?_
     refine WL.ung rfl rfl ?_
     refine WL.y (Y.move rfl) rfl ?_
     refine WL.ung rfl rfl ?_
     refine WL.y (Y.move rfl) rfl ?_
     refine WL.ung rfl rfl ?_
     obtain ⟨e32, he32, h⟩ := bnd h
     have hf41 := hf11.mono (imm_st hst16 rfl rfl)
     obtain ⟨b33, off42, cap40, cs39, hv34, hi35, hl36, hc37, hok38, hA43⟩ := Sl.at2 hf41 he32
     obtain rfl := hok38
     replace hc37 : CellsAt _ _ _ [vi e32] := hc37
     have hca44 := CAt.imm hc37 hA43
     refine WL.y (Y.indexAddr ty32 ty3 rfl hv34 rfl hi35 hl36) rfl ?_
     refine WL.ung rfl rfl ?_
     refine WL.y (Y.loadSc ty3 rfl rfl hca44.at_) rfl ?_
     refine WL.ung rfl rfl ?_
     refine WL.y (Y.eql_i rfl rfl) rfl ?_
     refine WL.y (Y.pick (b := true) rfl rfl) rfl ?_
     exact WL.nil (At.join (σ := Bool) (decide (e32 = 0)) ⟨some1 h, rfl⟩ (.cons rfl (.cons rfl (.cons rfl (.cons rfl .nil)))))
    ·refine WL.ren 7 rfl (congrArg Value.bool hE31) ?_
     refine WL.gS rfl rfl rfl rfl ?_
     refine WL.gS rfl rfl rfl rfl ?_
     refine WL.gS rfl rfl rfl rfl ?_
     refine WL.gS rfl rfl rfl rfl ?_
     refine WL.gS rfl rfl rfl rfl ?_
     refine WL.y (Y.pick (b := false) rfl rfl) rfl ?_
     exact WL.nil (At.join (σ := Bool) false ⟨some1 h, rfl⟩ (.cons rfl (.cons rfl (.cons rfl (.cons rfl .nil)))))
   ·rintro x28 _ ⟨rfl, rfl⟩
    replace h := hk30
    try dsimp only at h
    refine (show WL _ _ _ _ _ [(0, v0), (2, Value.pointer (some ⟨p13, 0, none⟩)), (3, vi from20), (13, Value.bool x28)] _ from ?_)
    refine WL.nil ?_
    refine At.then ?_
    rcases cnd h with ⟨hc45, h⟩ | ⟨hc45, h⟩
    ·refine WC.condT' rfl hc45 ?_
     refine WC.skip ?_
     refine At.then ?_
     refine WC.block ?_
     refine WC.region ?_
     refine WL.y (Y.move rfl) rfl ?_
     refine WL.y (Y.add_i rfl rfl) rfl ?_
     obtain ⟨from46, hfrom46, h⟩ := lt1 h
     refine WL.yE (Y.assign rfl) (congrArg vi hfrom46.symm) rfl ?_
     refine WL.nil ?_
     refine At.inBlock ?_
     exact At.round from46 j25 (Nat.lt_succ_self _) ⟨next1 h hn27, rfl⟩ (.cons rfl (.cons rfl (.cons rfl .nil)))
    ·refine WC.condF' rfl hc45 ?_
     refine WC.exit ?_
     refine At.thenX ?_
     refine At.loopX ?_
     exact At.hitB (σ := Int) from20 ⟨brk1 h hn27, rfl⟩ (.cons rfl (.cons rfl (.cons rfl .nil)))
  ·rintro from21 _ ⟨rfl, rfl⟩
   replace h := flowK_go hk24
   try dsimp only at h
   refine (show At _ _ _ [(0, v0), (2, Value.pointer (some ⟨p13, 0, none⟩)), (3, vi from21)] _ from ?_)
   refine At.inBlockHit ?_
   exact At.join (σ := Int) from21 ⟨some1 h, rfl⟩ (.cons rfl (.cons rfl (.cons rfl .nil)))
 ·rintro from17 _ ⟨rfl, rfl⟩
  replace h := hk19
  try dsimp only at h
  refine (show At _ _ _ [(0, v0), (2, Value.pointer (some ⟨p13, 0, none⟩)), (3, vi from17)] _ from ?_)
  refine At.then ?_
  refine WC.seq ?_
  refine WC.region ?_
  refine WL.y (Y.assign rfl) rfl ?_
  refine WL.nil ?_
  refine At.then ?_
  refine WC.seq ?_
  obtain ⟨p48, h, hk49⟩ := bnd h
  refine WC.join (σ := Int) (fun x w' => x = p48 ∧ wd15 = w') (fun x => [(2, Value.pointer (some ⟨p13, 0, none⟩)), (3, vi from17), (4, vi x)]) ?_ ?_
  ·refine WC.block ?_
   obtain ⟨p52, h, hk54⟩ := flow1 h
   obtain ⟨k53, h⟩ := loop_some h
   refine WC.joinB 2 (σ := Int) (fun x w' => p52 = .go x ∧ wd15 = w') (fun x => [(2, Value.pointer (some ⟨p13, 0, none⟩)), (3, vi from17), (4, vi x)]) ?_ ?_
   ·refine WC.loop (σ := Int) (fun x k w' => loopN k (ref07_around_lp2 a0 from17) x = some p52 ∧ wd15 = w') (fun x => [(0, v0), (2, Value.pointer (some ⟨p13, 0, none⟩)), (3, vi from17), (4, vi x)]) 64 k53 (.cons rfl (.cons rfl (.cons rfl (.cons rfl .nil)))) ⟨h, rfl⟩ ?_
    rintro end50 k53 _ ⟨h, rfl⟩
    obtain ⟨j55, q56, rfl, h, hn57⟩ := rnd1 h
    unfold ref07_around_lp2 at h
    try dsimp only at h
    refine (show WC _ _ _ _ [(0, v0), (2, Value.pointer (some ⟨p13, 0, none⟩)), (3, vi from17), (4, vi end50)] _ from ?_)
    refine WC.seq ?_
    refine WC.seq ?_
    refine WC.region ?_
    refine WL.y (Y.move rfl) rfl ?_
    refine WL.y (Y.move rfl) rfl ?_
    refine WL.y (Y.gtr_i rfl rfl) rfl ?_
    refine WL.y (Y.move rfl) rfl ?_
    obtain ⟨p59, h, hk60⟩ := bnd h
    refine WL.cut 7 (σ := Bool) (fun x w' => x = p59 ∧ wd15 = w') (fun x => [(0, v0), (2, Value.pointer (some ⟨p13, 0, none⟩)), (3, vi from17), (4, vi end50), (26, Value.bool x)]) ?_ ?_
    ·rcases cnd h with ⟨hE61, h⟩ | ⟨hE61, h⟩
     ·refine WL.ren 19 rfl (congrArg Value.bool hE61) ?_
      refine WL.ung rfl rfl ?_
      refine WL.y (Y.move rfl) rfl ?_
      refine WL.ung rfl rfl ?_
      refine WL.y (Y.move rfl) rfl ?_
      refine WL.ung rfl rfl ?_
      refine WL.y (Y.sub_i rfl rfl) rfl ?_
      refine WL.ung rfl rfl ?_
      obtain ⟨e62, he62, h⟩ := bnd h
      have hf71 := hf11.mono (imm_st hst16 rfl rfl)
      obtain ⟨b63, off72, cap70, cs69, hv64, hi65, hl66, hc67, hok68, hA73⟩ := Sl.at2 hf71 he62
      obtain rfl := hok68
      replace hc67 : CellsAt _ _ _ [vi e62] := hc67
      have hca74 := CAt.imm hc67 hA73
      refine WL.y (Y.indexAddr ty32 ty3 rfl hv64 rfl hi65 hl66) rfl ?_
      refine WL.ung rfl rfl ?_
      refine WL.y (Y.loadSc ty3 rfl rfl hca74.at_) rfl ?_
      refine WL.ung rfl rfl ?_
      refine WL.y (Y.eql_i rfl rfl) rfl ?_
      refine WL.y (Y.pick (b := true) rfl rfl) rfl ?_
      exact WL.nil (At.join (σ := Bool) (decide (e62 = 0)) ⟨some1 h, rfl⟩ (.cons rfl (.cons rfl (.cons rfl (.cons rfl (.cons rfl .nil))))))
     ·refine WL.ren 19 rfl (congrArg Value.bool hE61) ?_
      refine WL.gS rfl rfl rfl rfl ?_
      refine WL.gS rfl rfl rfl rfl ?_
      refine WL.gS rfl rfl rfl rfl ?_
      refine WL.gS rfl rfl rfl rfl ?_
      refine WL.gS rfl rfl rfl rfl ?_
      refine WL.gS rfl rfl rfl rfl ?_
      refine WL.y (Y.pick (b := false) rfl rfl) rfl ?_
      exact WL.nil (At.join (σ := Bool) false ⟨some1 h, rfl⟩ (.cons rfl (.cons rfl (.cons rfl (.cons rfl (.cons rfl .nil))))))
    ·rintro x58 _ ⟨rfl, rfl⟩
     replace h := hk60
     try dsimp only at h
     refine (show WL _ _ _ _ _ [(0, v0), (2, Value.pointer (some ⟨p13, 0, none⟩)), (3, vi from17), (4, vi end50), (26, Value.bool x58)] _ from ?_)
     refine WL.nil ?_
     refine At.then ?_
     rcases cnd h with ⟨hc75, h⟩ | ⟨hc75, h⟩
     ·refine WC.condT' rfl hc75 ?_
      refine WC.skip ?_
      refine At.then ?_
      refine WC.block ?_
      refine WC.region ?_
      refine WL.y (Y.move rfl) rfl ?_
      refine WL.y (Y.sub_i rfl rfl) rfl ?_
      obtain ⟨end76, hend76, h⟩ := lt1 h
      refine WL.yE (Y.assign rfl) (congrArg vi hend76.symm) rfl ?_
      refine WL.nil ?_
      refine At.inBlock ?_
      exact At.round end76 j55 (Nat.lt_succ_self _) ⟨next1 h hn57, rfl⟩ (.cons rfl (.cons rfl (.cons rfl (.cons rfl .nil))))
     ·refine WC.condF' rfl hc75 ?_
      refine WC.exit ?_
      refine At.thenX ?_
      refine At.loopX ?_
      exact At.hitB (σ := Int) end50 ⟨brk1 h hn57, rfl⟩ (.cons rfl (.cons rfl (.cons rfl .nil)))
   ·rintro end51 _ ⟨rfl, rfl⟩
    replace h := flowK_go hk54
    try dsimp only at h
    refine (show At _ _ _ [(2, Value.pointer (some ⟨p13, 0, none⟩)), (3, vi from17), (4, vi end51)] _ from ?_)
    refine At.inBlockHit ?_
    exact At.join (σ := Int) end51 ⟨some1 h, rfl⟩ (.cons rfl (.cons rfl (.cons rfl .nil)))
  ·rintro end47 _ ⟨rfl, rfl⟩
   replace h := hk49
   try dsimp only at h
   refine (show At _ _ _ [(2, Value.pointer (some ⟨p13, 0, none⟩)), (3, vi from17), (4, vi end47)] _ from ?_)
   refine At.then ?_
   refine WC.seq ?_
   refine WC.region ?_
   refine WL.y (Y.move rfl) rfl ?_
   refine WL.y (Y.move rfl) rfl ?_
   refine WL.y (Y.move rfl) rfl ?_
   refine WL.y (Y.sub_i rfl rfl) rfl ?_
   refine WL.y (Y.build (vals := [(0, vi from17), (1, vi (w64 (end47 - from17)))]) (cells := [vi from17, vi (w64 (end47 - from17))]) (Fits.evalp rfl) (by kernel_rfl)) rfl ?_
   refine WL.store (v := Value.agg (List.toArray [vi from17, vi (w64 (end47 - from17))])) (cells' := [vi from17, vi (w64 (end47 - from17))]) ty39 rfl rfl hb12 rfl (Nat.le_of_ble_eq_true rfl) rfl rfl ?_
   intro wd77 hst78 hb79
   refine WL.nil ?_
   refine At.then ?_
   refine WC.ret ?_
   obtain rfl := some1 h
   have hs80 : Stp [11] (Lg.O0 A) w O14 wd77 := (Stp.trans (Stp.up hst16 rfl) (Stp.up hst78 rfl))
   exact At.res (.inl rfl) rfl (.cell rfl (hb79.runAg 0 [vi from17, vi (w64 (end47 - from17))] ty39 rfl rfl rfl) .nil) ⟨rfl, (Stp.ext hs80 rfl rfl)⟩

theorem c_ref07_Put {A : Nat → Prop} {v0_0 : Value} {a0 : ref07_State} {a1 : UInt64} {w : World} (hs0_0 : Sl Rep.u w A v0_0 a0.L) {r0 : List Int} {r1 : ref07_State} (h : ref07_Put a0 a1 = some (r0, r1)) : Rets Tryd.prog 21 [Value.agg (List.toArray [v0_0, vi a0.W.From, vi a0.W.Size]), vu a1] w (fun v w' => ∃ (u0 : Value) (u1_0 : Value), v = Value.tuple (List.toArray [u0, Value.agg (List.toArray [u1_0, vi r1.W.From, vi r1.W.Size])]) ∧ Ext w w' ∧ Sl Rep.i w' (fun k => w.heap.size ≤ k) u0 r0 ∧ Sl Rep.u w' (fun k => w.heap.size ≤ k) u1_0 r1.L) := by
 unfold ref07_Put at h
 refine Rets.enter Tryd.func21 rfl rfl ?_
 have hf11 : Sl Rep.u w (imm (Lg.O0 A)) v0_0 a0.L := (Sl.start hs0_0)
 refine (show WC _ _ _ _ [(0, Value.agg (List.toArray [v0_0, vi a0.W.From, vi a0.W.Size])), (1, vu a1)] _ from ?_)
 refine WC.seq ?_
 refine WC.region ?_
 have hh15 := h
 obtain ⟨p12, m13, c14, rfl⟩ := hf11.shape
 have h := hh15
 refine WL.box (O := (Lg.O0 A)) 11 [(Value.slice p12 m13 c14), vi a0.W.From, vi a0.W.Size] rfl rfl rfl ?_
 intro p17 O18 wd19 hst20 hb16
 refine WL.y (Y.assign rfl) rfl ?_
 refine WL.alloc (O := O18) 12 [Value.slice none 0 0, vi 0, vi 0] ty41 rfl rfl ?_
 intro p22 O23 wd24 hst25 hb21
 refine WL.nil ?_
 refine At.then ?_
 refine WC.seq ?_
 refine WC.seq ?_
 refine WC.region ?_
 refine WL.y (Y.fieldAddr fo41_0 rfl) rfl ?_
 have hf26 := hb16.st hst25 rfl
 refine WL.y (Y.loadSc ty22 rfl rfl (hf26.cell 0 _ rfl)) rfl ?_
 have hf27 := hf11.mono (imm_st hst20 rfl rfl)
 have hf28 := hf27.mono (imm_st hst25 rfl rfl)
 refine WL.y (Y.len ty22 rfl hf28) rfl ?_
 refine WL.y (Y.eql_i rfl rfl) rfl ?_
 refine WL.nil ?_
 refine At.then ?_
 rcases cnd h with ⟨hc29, h⟩ | ⟨hc29, h⟩
 ·refine WC.condT' rfl hc29 ?_
  refine WC.seq ?_
  refine WC.drawH [] [0, 1, 2, 3, 4, 5, 6, 7] O23 9 fmix rfl (by kernel_rfl) ?_
  intro wd30 hst31
  refine WD.y 0 rfl (by kernel_rfl) (fun _ _ _ => Y.move rfl) rfl ?_
  refine WD.y 2 rfl (by kernel_rfl) (fun wd36 O35 hst37 => have hf38 := hf26.st hst31 rfl; have hf39 := hf38.st hst37 rfl; Y.loadAg ty41 rfl rfl (hf39.cells 0 [(Value.slice p12 m13 c14), vi a0.W.From, vi a0.W.Size] rfl) rfl) rfl ?_
  refine WD.y 3 rfl (by kernel_rfl) (fun _ _ _ => Y.move rfl) rfl ?_
  refine WD.y 4 rfl (by kernel_rfl) (fun _ _ _ => Y.fieldAddr fo41_1 rfl) rfl ?_
  refine WD.y 5 rfl (by kernel_rfl) (fun wd47 O46 hst48 => have hf49 := hf26.st hst31 rfl; have hf50 := hf49.st hst48 rfl; Y.loadAg ty39 rfl rfl (hf50.cells 1 [vi a0.W.From, vi a0.W.Size] rfl) rfl) rfl ?_
  refine WD.heavy 1 rfl (by kernel_rfl) ?_
  obtain ⟨r51, hp52, h⟩ := bnd h
  refine WL.call (vals := [vu a1]) kok34 rfl rfl (c_ref07_row hp52) ?_
  rintro vr57 wd56 ⟨_, rfl, hm55, f54⟩
  obtain ⟨O58, hold59, hnew60, hst61⟩ := adoptE O23 (fun k => if Value.ownBlock vr57 = some k then 13 else 1) hm55
  have hf62 : OwnSl 13 Rep.i 3 O58 wd56 vr57 r51 := RowF.adopt 13 Flat.i f54 hnew60 (fun k hk => if_pos hk)
  refine WL.nil ?_
  refine At.dq (Stp.up hst61 rfl) ?_
  refine WD.heavy 6 rfl (by kernel_rfl) ?_
  have hf63 := hf28.mono (imm_st hst31 rfl rfl)
  have hf64 := hf63.mono (imm_st hst61 rfl rfl)
  obtain ⟨r65, hp66, h⟩ := bnd h
  refine WL.call (vals := [Value.agg (List.toArray [(Value.slice p12 m13 c14), vi a0.W.From, vi a0.W.Size]), vu a1, Value.agg (List.toArray [vi a0.W.From, vi a0.W.Size])]) kok25 rfl rfl (c_ref07_with (A := fun _ => True) (a0 := a0) (a2 := a0.W) (Sl.all hf64) hp66) ?_
  rintro vr71 wd70 ⟨u67, rfl, hm69, f68⟩
  obtain ⟨O72, hold73, hnew74, hst75⟩ := adoptE O58 (fun k => 1) hm69
  have hf76 : Sl Rep.u wd70 (frs O72) u67 r65.L := Sl.adoptF f68 (fun k hk => ⟨hk, rfl⟩) hnew74
  refine WL.nil ?_
  refine At.dq (Stp.up hst75 rfl) ?_
  refine WD.y 7 rfl (by kernel_rfl) (fun _ _ _ => Y.assign rfl) rfl ?_
  refine WD.phase [12] [0, 1, 2, 3, 4, 5, 6, 7, 8] (by kernel_rfl) (by kernel_rfl) ?_
  refine WD.heavy 8 rfl (by kernel_rfl) ?_
  have hh83 := h
  obtain ⟨p80, m81, c82, rfl⟩ := hf76.shape
  have h := hh83
  have hf84 := hb21.st hst31 rfl
  have hf85 := hf84.st hst61 rfl
  have hf86 := hf85.st hst75 rfl
  refine WL.store (v := Value.agg (List.toArray [(Value.slice p80 m81 c82), vi r65.W.From, vi r65.W.Size])) (cells' := [(Value.slice p80 m81 c82), vi r65.W.From, vi r65.W.Size]) ty41 rfl rfl hf86 rfl (Nat.le_of_ble_eq_true rfl) rfl rfl ?_
  intro wd87 hst88 hb89
  refine WL.nil ?_
  refine At.dq (Stp.up hst88 rfl) ?_
  refine WD.done_ (by kernel_rfl) ?_
  refine At.then ?_
  refine WC.ret ?_
  refine At.thenR ?_
  obtain ⟨rfl, rfl⟩ := tup2 h
  have hf90 := hf62.st hst75 rfl rfl rfl
  have hf91 := hf90.st hst88 rfl rfl rfl
  obtain ⟨O92, hst93, hf94⟩ := OwnSl.giveF rfl Flat.i hf91
  have hs95 : Stp [12, 13] (Lg.O0 A) w O92 wd87 := (Stp.trans (Stp.up hst20 rfl) (Stp.trans (Stp.up hst25 rfl) (Stp.trans (Stp.up hst31 rfl) (Stp.trans (Stp.up hst61 rfl) (Stp.trans (Stp.up hst75 rfl) (Stp.trans (Stp.up hst88 rfl) (Stp.up hst93 rfl)))))))
  have hf96 := hf76.mono (frs_st hst88 rfl)
  have hf97 := hf96.mono (frs_st hst93 rfl)
  have hf98 := hb89.st hst93 rfl
  exact At.res (.inl rfl) rfl (.tmp rfl (.cell rfl (hf98.runAg 0 [(Value.slice p80 m81 c82), vi r65.W.From, vi r65.W.Size] ty41 rfl rfl rfl) .nil)) ⟨vr57, (Value.slice p80 m81 c82), rfl, (Stp.ext hs95 rfl rfl), (Sl.outF hf94 hs95 low0), (Sl.outF hf97 hs95 low0)⟩
 ·refine WC.condF' rfl hc29 ?_
  refine WC.skip ?_
  refine At.then ?_
  refine WC.seq ?_
  refine WC.region ?_
  refine WL.y (Y.move rfl) rfl ?_
  refine WL.y (Y.loadAg ty41 rfl rfl (hf26.cells 0 [(Value.slice p12 m13 c14), vi a0.W.From, vi a0.W.Size] rfl) rfl) rfl ?_
  obtain ⟨r99, hp100, h⟩ := bnd h
  refine WL.call (vals := [Value.agg (List.toArray [(Value.slice p12 m13 c14), vi a0.W.From, vi a0.W.Size])]) kok26 rfl rfl (c_ref07_last (A := fun _ => True) (a0 := a0) (Sl.all hf28) hp100) ?_
  rintro vr103 wd102 ⟨rfl, hm101⟩
  obtain ⟨O104, hold105, hnew106, hst107⟩ := adoptE O23 (fun k => 1) hm101
  refine WL.y (Y.xor_u rfl rfl) rfl ?_
  obtain ⟨r108, hp109, h⟩ := bnd h
  refine WL.call (vals := [vu (a1 ^^^ r99)]) kok34 rfl rfl (c_ref07_row hp109) ?_
  rintro vr114 wd113 ⟨_, rfl, hm112, f111⟩
  obtain ⟨O115, hold116, hnew117, hst118⟩ := adoptE O104 (fun k => if Value.ownBlock vr114 = some k then 14 else 1) hm112
  have hf119 : OwnSl 14 Rep.i 3 O115 wd113 vr114 r108 := RowF.adopt 14 Flat.i f111 hnew117 (fun k hk => if_pos hk)
  refine WL.y (Y.assign rfl) rfl ?_
  refine WL.nil ?_
  refine At.then ?_
  refine WC.seq ?_
  refine WC.seq ?_
  refine WC.region ?_
  refine WL.y (Y.move rfl) rfl ?_
  have hf120 := hf26.st hst107 rfl
  have hf121 := hf120.st hst118 rfl
  refine WL.y (Y.loadAg ty41 rfl rfl (hf121.cells 0 [(Value.slice p12 m13 c14), vi a0.W.From, vi a0.W.Size] rfl) rfl) rfl ?_
  have hf122 := hf28.mono (imm_st hst107 rfl rfl)
  have hf123 := hf122.mono (imm_st hst118 rfl rfl)
  obtain ⟨r124, hp125, h⟩ := bnd h
  refine WL.call (vals := [Value.agg (List.toArray [(Value.slice p12 m13 c14), vi a0.W.From, vi a0.W.Size])]) kok26 rfl rfl (c_ref07_last (A := fun _ => True) (a0 := a0) (Sl.all hf123) hp125) ?_
  rintro vr128 wd127 ⟨rfl, hm126⟩
  obtain ⟨O129, hold130, hnew131, hst132⟩ := adoptE O115 (fun k => 1) hm126
  refine WL.y (Y.eql_u rfl rfl) rfl ?_
  refine WL.nil ?_
  refine At.then ?_
  rcases cnd h with ⟨hc133, h⟩ | ⟨hc133, h⟩
  ·refine WC.condT' rfl hc133 ?_
   refine WC.seq ?_
   refine WC.region ?_
   refine WL.buildSlice (O := O129) (R := Rep.i) (vals := [(0, vi 0)]) 15 [vi 0] (xs := [0]) (by decide) ty32 ty3 (by decide) (by decide) (Fits.evalp rfl) (by kernel_rfl) rfl ⟨[vi 0], [], rfl, rfl, rfl⟩ rfl ?_
   intro v134 O136 wd137 hst138 ho135
   have hf139 := hf121.st hst132 rfl
   have hf140 := hf139.st hst138 rfl
   refine WL.y (Y.loadAg ty41 rfl rfl (hf140.cells 0 [(Value.slice p12 m13 c14), vi a0.W.From, vi a0.W.Size] rfl) rfl) rfl ?_
   refine WL.y (Y.move rfl) rfl ?_
   refine WL.y (Y.fieldAddr fo41_1 rfl) rfl ?_
   refine WL.y (Y.loadAg ty39 rfl rfl (hf140.cells 1 [vi a0.W.From, vi a0.W.Size] rfl) rfl) rfl ?_
   have hf141 := hf123.mono (imm_st hst132 rfl rfl)
   have hf142 := hf141.mono (imm_st hst138 rfl rfl)
   obtain ⟨r143, hp144, h⟩ := bnd h
   refine WL.call (vals := [Value.agg (List.toArray [(Value.slice p12 m13 c14), vi a0.W.From, vi a0.W.Size]), vu a1, Value.agg (List.toArray [vi a0.W.From, vi a0.W.Size])]) kok25 rfl rfl (c_ref07_with (A := fun _ => True) (a0 := a0) (a2 := a0.W) (Sl.all hf142) hp144) ?_
   rintro vr149 wd148 ⟨u145, rfl, hm147, f146⟩
   obtain ⟨O150, hold151, hnew152, hst153⟩ := adoptE O136 (fun k => 1) hm147
   have hf154 : Sl Rep.u wd148 (frs O150) u145 r143.L := Sl.adoptF f146 (fun k hk => ⟨hk, rfl⟩) hnew152
   refine WL.y (Y.assign rfl) rfl ?_
   have hh158 := h
   obtain ⟨p155, m156, c157, rfl⟩ := hf154.shape
   have h := hh158
   have hf159 := hb21.st hst107 rfl
   have hf160 := hf159.st hst118 rfl
   have hf161 := hf160.st hst132 rfl
   have hf162 := hf161.st hst138 rfl
   have hf163 := hf162.st hst153 rfl
   refine WL.store (v := Value.agg (List.toArray [(Value.slice p155 m156 c157), vi r143.W.From, vi r143.W.Size])) (cells' := [(Value.slice p155 m156 c157), vi r143.W.From, vi r143.W.Size]) ty41 rfl rfl hf163 rfl (Nat.le_of_ble_eq_true rfl) rfl rfl ?_
   intro wd164 hst165 hb166
   refine WL.nil ?_
   refine At.then ?_
   refine WC.ret ?_
   refine At.thenR ?_
   obtain ⟨rfl, rfl⟩ := tup2 h
   have hf167 := ho135.st hst153 rfl rfl rfl
   have hf168 := hf167.st hst165 rfl rfl rfl
   obtain ⟨O169, hst170, hf171⟩ := OwnSl.giveF rfl Flat.i hf168
   have hs172 : Stp [12, 15] (Lg.O0 A) w O169 wd164 := (Stp.trans (Stp.up hst20 rfl) (Stp.trans (Stp.up hst25 rfl) (Stp.trans (Stp.up hst107 rfl) (Stp.trans (Stp.up hst118 rfl) (Stp.trans (Stp.up hst132 rfl) (Stp.trans (Stp.up hst138 rfl) (Stp.trans (Stp.up hst153 rfl) (Stp.trans (Stp.up hst165 rfl) (Stp.up hst170 rfl)))))))))
   have hf173 := hf154.mono (frs_st hst165 rfl)
   have hf174 := hf173.mono (frs_st hst170 rfl)
   have hf175 := hb166.st hst170 rfl
   exact At.res (.inl rfl) rfl (.tmp rfl (.cell rfl (hf175.runAg 0 [(Value.slice p155 m156 c157), vi r143.W.From, vi r143.W.Size] ty41 rfl rfl rfl) .nil)) ⟨v134, (Value.slice p155 m156 c157), rfl, (Stp.ext hs172 rfl rfl), (Sl.outF hf171 hs172 low0), (Sl.outF hf174 hs172 low0)⟩
  ·refine WC.condF' rfl hc133 ?_
   refine WC.skip ?_
   refine At.then ?_
   refine WC.seq ?_
   refine WC.seq ?_
   refine WC.region ?_
   refine WL.y (Y.move rfl) rfl ?_
   refine WL.y (Y.fieldAddr fo41_1 rfl) rfl ?_
   have hf176 := hf121.st hst132 rfl
   refine WL.y (Y.loadAg ty39 rfl rfl (hf176.cells 1 [vi a0.W.From, vi a0.W.Size] rfl) rfl) rfl ?_
   have hf177 := hf119.st hst132 rfl rfl rfl
   obtain ⟨r178, hp179, h⟩ := bnd h
   refine WL.call (vals := [vr114, Value.agg (List.toArray [vi a0.W.From, vi a0.W.Size])]) kok35 rfl rfl (c_ref07_in (A := fun _ => True) (a1 := a0.W) (hf177.src.sl) hp179) ?_
   rintro vr182 wd181 ⟨rfl, hm180⟩
   obtain ⟨O183, hold184, hnew185, hst186⟩ := adoptE O129 (fun k => 1) hm180
   refine WL.nil ?_
   refine At.then ?_
   rcases cnd h with ⟨hc187, h⟩ | ⟨hc187, h⟩
   ·refine WC.condT' rfl hc187 ?_
    refine WC.seq ?_
    refine WC.drawH [14, 16] [0, 1, 2, 3, 4, 5, 6, 7, 8, 9, 10, 11, 12, 13, 14, 15, 16, 17, 18, 19] O183 21 fmix rfl (by kernel_rfl) ?_
    intro wd188 hst189
    refine WD.y 1 rfl (by kernel_rfl) (fun _ _ _ => Y.move rfl) rfl ?_
    refine WD.y 2 rfl (by kernel_rfl) (fun _ _ _ => Y.fieldAddr fo41_1 rfl) rfl ?_
    refine WD.y 3 rfl (by kernel_rfl) (fun _ _ _ => Y.fieldAddr fo39_0 rfl) rfl ?_
    refine WD.y 4 rfl (by kernel_rfl) (fun wd200 O199 hst201 => have hf202 := hf176.st hst186 rfl; have hf203 := hf202.st hst189 rfl; have hf204 := hf203.st hst201 rfl; Y.loadSc ty3 rfl rfl (hf204.cell 1 _ rfl)) rfl ?_
    refine WD.y 5 rfl (by kernel_rfl) (fun _ _ _ => Y.fieldAddr fo41_1 rfl) rfl ?_
    refine WD.y 6 rfl (by kernel_rfl) (fun _ _ _ => Y.fieldAddr fo39_0 rfl) rfl ?_
    refine WD.y 7 rfl (by kernel_rfl) (fun wd212 O211 hst213 => have hf214 := hf176.st hst186 rfl; have hf215 := hf214.st hst189 rfl; have hf216 := hf215.st hst213 rfl; Y.loadSc ty3 rfl rfl (hf216.cell 1 _ rfl)) rfl ?_
    refine WD.y 8 rfl (by kernel_rfl) (fun _ _ _ => Y.fieldAddr fo41_1 rfl) rfl ?_
    refine WD.y 9 rfl (by kernel_rfl) (fun _ _ _ => Y.fieldAddr fo39_1 rfl) rfl ?_
    refine WD.y 10 rfl (by kernel_rfl) (fun wd224 O223 hst225 => have hf226 := hf176.st hst186 rfl; have hf227 := hf226.st hst189 rfl; have hf228 := hf227.st hst225 rfl; Y.loadSc ty3 rfl rfl (hf228.cell 2 _ rfl)) rfl ?_
    refine WD.y 11 rfl (by kernel_rfl) (fun _ _ _ => Y.add_i rfl rfl) rfl ?_
    obtain ⟨t232, ht232, h⟩ := bnd h
    have hf235 := hf177.st hst186 rfl rfl rfl
    have hf236 := hf235.st hst189 rfl rfl rfl
    obtain ⟨O237, hst238, hf239⟩ := OwnSl.giveF rfl Flat.i hf236
    refine WD.own (Stp.up hst238 rfl) ?_
    obtain ⟨v233, hY240, hf234⟩ := Sl.slice (ρ := [(44, vr114), (47, vi a0.W.From), (54, vi (w64 (a0.W.From + a0.W.Size)))]) (x := (.tmp 44)) (lo := (some (.tmp 47))) (hi := (some (.tmp 54))) ty32 ty3 rfl rfl rfl hf239 ht232
    refine WD.y 12 rfl (by kernel_rfl) (fun _ _ _ => Y.sub (.cons rfl (.cons rfl (.cons rfl .nil))) (hY240 _ _)) rfl ?_
    refine WD.y 14 rfl (by kernel_rfl) (fun wd245 O244 hst246 => have hf247 := hf176.st hst186 rfl; have hf248 := hf247.st hst189 rfl; have hf249 := hf248.st hst238 rfl; have hf250 := hf249.st hst246 rfl; Y.loadAg ty41 rfl rfl (hf250.cells 0 [(Value.slice p12 m13 c14), vi a0.W.From, vi a0.W.Size] rfl) rfl) rfl ?_
    refine WD.y 15 rfl (by kernel_rfl) (fun _ _ _ => Y.move rfl) rfl ?_
    refine WD.y 16 rfl (by kernel_rfl) (fun _ _ _ => Y.fieldAddr fo41_1 rfl) rfl ?_
    refine WD.y 17 rfl (by kernel_rfl) (fun wd258 O257 hst259 => have hf260 := hf176.st hst186 rfl; have hf261 := hf260.st hst189 rfl; have hf262 := hf261.st hst238 rfl; have hf263 := hf262.st hst259 rfl; Y.loadAg ty39 rfl rfl (hf263.cells 1 [vi a0.W.From, vi a0.W.Size] rfl) rfl) rfl ?_
    refine WD.heavy 0 rfl (by kernel_rfl) ?_
    refine WL.buildSlice (O := O237) (R := Rep.i) (vals := [(0, vi 1), (1, vi 0)]) 16 [vi 1, vi 0] (xs := [1, 0]) (by decide) ty32 ty3 (by decide) (by decide) (Fits.evalp rfl) (by kernel_rfl) rfl ⟨[vi 1], [vi 0], rfl, rfl, ⟨[vi 0], [], rfl, rfl, rfl⟩⟩ rfl ?_
    intro v264 O266 wd267 hst268 ho265
    refine WL.nil ?_
    refine At.dq (Stp.up hst268 rfl) ?_
    refine WD.heavy 13 rfl (by kernel_rfl) ?_
    obtain ⟨xs269, hxs269, h⟩ := bnd h
    have hf270 := hf234.mono (frs_st hst268 rfl)
    refine WL.append (by decide) ty32 ty3 rfl (by decide) rfl rfl ho265 (Sl.src (Sl.mono hf270 frs_imm)) hxs269 rfl ?_
    intro v274 O271 wd272 hst273 ho275
    refine WL.nil ?_
    refine At.dq (Stp.up hst273 rfl) ?_
    refine WD.heavy 18 rfl (by kernel_rfl) ?_
    have hf276 := hf123.mono (imm_st hst132 rfl rfl)
    have hf277 := hf276.mono (imm_st hst186 rfl rfl)
    have hf278 := hf277.mono (imm_st hst189 rfl rfl)
    have hf279 := hf278.mono (imm_st hst238 rfl rfl)
    have hf280 := hf279.mono (imm_st hst268 rfl rfl)
    have hf281 := hf280.mono (imm_st hst273 rfl rfl)
    obtain ⟨r282, hp283, h⟩ := bnd h
    refine WL.call (vals := [Value.agg (List.toArray [(Value.slice p12 m13 c14), vi a0.W.From, vi a0.W.Size]), vu a1, Value.agg (List.toArray [vi a0.W.From, vi a0.W.Size])]) kok25 rfl rfl (c_ref07_with (A := fun _ => True) (a0 := a0) (a2 := a0.W) (Sl.all hf281) hp283) ?_
    rintro vr288 wd287 ⟨u284, rfl, hm286, f285⟩
    obtain ⟨O289, hold290, hnew291, hst292⟩ := adoptE O271 (fun k => 1) hm286
    have hf293 : Sl Rep.u wd287 (frs O289) u284 r282.L := Sl.adoptF f285 (fun k hk => ⟨hk, rfl⟩) hnew291
    refine WL.nil ?_
    refine At.dq (Stp.up hst292 rfl) ?_
    refine WD.y 19 rfl (by kernel_rfl) (fun _ _ _ => Y.assign rfl) rfl ?_
    refine WD.phase [12] [0, 1, 2, 3, 4, 5, 6, 7, 8, 9, 10, 11, 12, 13, 14, 15, 16, 17, 18, 19, 20] (by kernel_rfl) (by kernel_rfl) ?_
    refine WD.heavy 20 rfl (by kernel_rfl) ?_
    have hh300 := h
    obtain ⟨p297, m298, c299, rfl⟩ := hf293.shape
    have h := hh300
    have hf301 := hb21.st hst107 rfl
    have hf302 := hf301.st hst118 rfl
    have hf303 := hf302.st hst132 rfl
    have hf304 := hf303.st hst186 rfl
    have hf305 := hf304.st hst189 rfl
    have hf306 := hf305.st hst238 rfl
    have hf307 := hf306.st hst268 rfl
    have hf308 := hf307.st hst273 rfl
    have hf309 := hf308.st hst292 rfl
    refine WL.store (v := Value.agg (List.toArray [(Value.slice p297 m298 c299), vi r282.W.From, vi r282.W.Size])) (cells' := [(Value.slice p297 m298 c299), vi r282.W.From, vi r282.W.Size]) ty41 rfl rfl hf309 rfl (Nat.le_of_ble_eq_true rfl) rfl rfl ?_
    intro wd310 hst311 hb312
    refine WL.nil ?_
    refine At.dq (Stp.up hst311 rfl) ?_
    refine WD.done_ (by kernel_rfl) ?_
    refine At.then ?_
    refine WC.ret ?_
    refine At.thenR ?_
    obtain ⟨rfl, rfl⟩ := tup2 h
    have hf313 := ho275.st hst292 rfl rfl rfl
    have hf314 := hf313.st hst311 rfl rfl rfl
    obtain ⟨O315, hst316, hf317⟩ := OwnSl.giveF rfl Flat.i hf314
    have hs318 : Stp [12, 14, 16] (Lg.O0 A) w O315 wd310 := (Stp.trans (Stp.up hst20 rfl) (Stp.trans (Stp.up hst25 rfl) (Stp.trans (Stp.up hst107 rfl) (Stp.trans (Stp.up hst118 rfl) (Stp.trans (Stp.up hst132 rfl) (Stp.trans (Stp.up hst186 rfl) (Stp.trans (Stp.up hst189 rfl) (Stp.trans (Stp.up hst238 rfl) (Stp.trans (Stp.up hst268 rfl) (Stp.trans (Stp.up hst273 rfl) (Stp.trans (Stp.up hst292 rfl) (Stp.trans (Stp.up hst311 rfl) (Stp.up hst316 rfl)))))))))))))
    have hf319 := hf293.mono (frs_st hst311 rfl)
    have hf320 := hf319.mono (frs_st hst316 rfl)
    have hf321 := hb312.st hst316 rfl
    exact At.res (.inl rfl) rfl (.tmp rfl (.cell rfl (hf321.runAg 0 [(Value.slice p297 m298 c299), vi r282.W.From, vi r282.W.Size] ty41 rfl rfl rfl) .nil)) ⟨v274, (Value.slice p297 m298 c299), rfl, (Stp.ext hs318 rfl rfl), (Sl.outF hf317 hs318 low0), (Sl.outF hf320 hs318 low0)⟩
   ·refine WC.condF' rfl hc187 ?_
    refine WC.skip ?_
    refine At.then ?_
    refine WC.seq ?_
    refine WC.region ?_
    refine WL.y (Y.move rfl) rfl ?_
    have hf322 := hf177.st hst186 rfl rfl rfl
    obtain ⟨r323, hp324, h⟩ := bnd h
    refine WL.call (vals := [vr114]) kok36 rfl rfl (c_ref07_around (A := fun _ => True) (hf322.src.sl) hp324) ?_
    rintro vr327 wd326 ⟨rfl, hm325⟩
    obtain ⟨O328, hold329, hnew330, hst331⟩ := adoptE O183 (fun k => 1) hm325
    refine WL.alloc (O := O328) 17 [vi 0, vi 0] ty39 rfl rfl ?_
    intro p333 O334 wd335 hst336 hb332
    refine WL.store (v := Value.agg (List.toArray [vi r323.From, vi r323.Size])) (cells' := [vi r323.From, vi r323.Size]) ty39 rfl rfl hb332 rfl (Nat.le_of_ble_eq_true rfl) rfl rfl ?_
    intro wd337 hst338 hb339
    refine WL.nil ?_
    refine At.then ?_
    refine WC.seq ?_
    refine WC.region ?_
    refine WL.y (Y.fieldAddr fo39_0 rfl) rfl ?_
    refine WL.y (Y.loadSc ty3 rfl rfl (hb339.cell 0 _ rfl)) rfl ?_
    refine WL.y (Y.conv_iu ty3.u ty23.u rfl) rfl ?_
    obtain ⟨⟨r340, r341⟩, hp342, h⟩ := bnd h
    refine WL.call (vals := [vu (toU64 r323.From), vi 5]) kok37 rfl rfl (c_ref01_Row hp342) ?_
    rintro vr347 wd346 ⟨u343, rfl, hm345, f344⟩
    obtain ⟨O348, hold349, hnew350, hst351⟩ := adoptE O334 (fun k => if Value.ownBlock u343 = some k then 18 else 1) hm345
    have hf352 : OwnSl 18 Rep.i 3 O348 wd346 u343 r340 := RowF.adopt 18 Flat.i f344 hnew350 (fun k hk => if_pos hk)
    refine WL.y (Y.move rfl) rfl ?_
    refine WL.y (Y.extract rfl rfl) rfl ?_
    refine WL.y (Y.extract rfl rfl) rfl ?_
    refine WL.y (Y.assign rfl) rfl ?_
    refine WL.y (Y.assign rfl) rfl ?_
    refine WL.nil ?_
    refine At.then ?_
    refine WC.seq ?_
    refine WC.region ?_
    refine WL.y (Y.fieldAddr fo39_1 rfl) rfl ?_
    have hf353 := hb339.st hst351 rfl
    refine WL.y (Y.loadSc ty3 rfl rfl (hf353.cell 1 _ rfl)) rfl ?_
    refine WL.y (Y.sub_i rfl rfl) rfl ?_
    refine WL.y (Y.conv_iu ty3.u ty23.u rfl) rfl ?_
    obtain ⟨⟨r354, r355⟩, hp356, h⟩ := bnd h
    refine WL.call (vals := [vu (toU64 (w64 (r323.Size - 1))), vi 6]) kok37 rfl rfl (c_ref01_Row hp356) ?_
    rintro vr361 wd360 ⟨u357, rfl, hm359, f358⟩
    obtain ⟨O362, hold363, hnew364, hst365⟩ := adoptE O348 (fun k => if Value.ownBlock u357 = some k then 19 else 1) hm359
    have hf366 : OwnSl 19 Rep.i 3 O362 wd360 u357 r354 := RowF.adopt 19 Flat.i f358 hnew364 (fun k hk => if_pos hk)
    refine WL.y (Y.move rfl) rfl ?_
    refine WL.y (Y.extract rfl rfl) rfl ?_
    refine WL.y (Y.extract rfl rfl) rfl ?_
    refine WL.y (Y.assign rfl) rfl ?_
    refine WL.y (Y.assign rfl) rfl ?_
    refine WL.nil ?_
    refine At.then ?_
    refine WC.seq ?_
    refine WC.region ?_
    refine WL.buildSlice (O := O362) (R := Rep.i) (vals := [(0, vi 1), (1, vi 1)]) 20 [vi 1, vi 1] (xs := [1, 1]) (by decide) ty32 ty3 (by decide) (by decide) (Fits.evalp rfl) (by kernel_rfl) rfl ⟨[vi 1], [vi 1], rfl, rfl, ⟨[vi 1], [], rfl, rfl, rfl⟩⟩ rfl ?_
    intro v367 O369 wd370 hst371 ho368
    refine WL.y (Y.move rfl) rfl ?_
    obtain ⟨xs372, hxs372, h⟩ := bnd h
    have hf373 := hf352.st hst365 rfl rfl rfl
    have hf374 := hf373.st hst371 rfl rfl rfl
    refine WL.append (by decide) ty32 ty3 rfl (by decide) rfl rfl ho368 hf374.src hxs372 rfl ?_
    intro v378 O375 wd376 hst377 ho379
    refine WL.y (Y.assign rfl) rfl ?_
    refine WL.nil ?_
    refine At.then ?_
    refine WC.seq ?_
    refine WC.region ?_
    refine WL.y (Y.move rfl) rfl ?_
    refine WL.y (Y.move rfl) rfl ?_
    obtain ⟨xs380, hxs380, h⟩ := bnd h
    have hf381 := hf366.st hst371 rfl rfl rfl
    have hf382 := hf381.st hst377 rfl rfl rfl
    refine WL.append (by decide) ty32 ty3 rfl (by decide) rfl rfl ho379 hf382.src hxs380 rfl ?_
    intro v386 O383 wd384 hst385 ho387
    refine WL.y (Y.assign rfl) rfl ?_
    refine WL.nil ?_
    refine At.then ?_
    refine WC.seq ?_
    refine WC.drawH [14, 20] [0, 1, 2, 3, 4, 5, 6, 7, 8, 9, 10, 11, 12, 13, 14, 15] O383 17 fmix rfl (by kernel_rfl) ?_
    intro wd388 hst389
    refine WD.y 0 rfl (by kernel_rfl) (fun _ _ _ => Y.move rfl) rfl ?_
    refine WD.y 1 rfl (by kernel_rfl) (fun _ _ _ => Y.move rfl) rfl ?_
    refine WD.y 2 rfl (by kernel_rfl) (fun _ _ _ => Y.fieldAddr fo39_0 rfl) rfl ?_
    refine WD.y 3 rfl (by kernel_rfl) (fun wd400 O399 hst401 => have hf402 := hf353.st hst365 rfl; have hf403 := hf402.st hst371 rfl; have hf404 := hf403.st hst377 rfl; have hf405 := hf404.st hst385 rfl; have hf406 := hf405.st hst389 rfl; have hf407 := hf406.st hst401 rfl; Y.loadSc ty3 rfl rfl (hf407.cell 0 _ rfl)) rfl ?_
    refine WD.y 4 rfl (by kernel_rfl) (fun _ _ _ => Y.fieldAddr fo39_0 rfl) rfl ?_
    refine WD.y 5 rfl (by kernel_rfl) (fun wd412 O411 hst413 => have hf414 := hf353.st hst365 rfl; have hf415 := hf414.st hst371 rfl; have hf416 := hf415.st hst377 rfl; have hf417 := hf416.st hst385 rfl; have hf418 := hf417.st hst389 rfl; have hf419 := hf418.st hst413 rfl; Y.loadSc ty3 rfl rfl (hf419.cell 0 _ rfl)) rfl ?_
    refine WD.y 6 rfl (by kernel_rfl) (fun _ _ _ => Y.fieldAddr fo39_1 rfl) rfl ?_
    refine WD.y 7 rfl (by kernel_rfl) (fun wd424 O423 hst425 => have hf426 := hf353.st hst365 rfl; have hf427 := hf426.st hst371 rfl; have hf428 := hf427.st hst377 rfl; have hf429 := hf428.st hst385 rfl; have hf430 := hf429.st hst389 rfl; have hf431 := hf430.st hst425 rfl; Y.loadSc ty3 rfl rfl (hf431.cell 1 _ rfl)) rfl ?_
    refine WD.y 8 rfl (by kernel_rfl) (fun _ _ _ => Y.add_i rfl rfl) rfl ?_
    obtain ⟨t435, ht435, h⟩ := bnd h
    have hf438 := hf322.st hst331 rfl rfl rfl
    have hf439 := hf438.st hst336 rfl rfl rfl
    have hf440 := hf439.st hst338 rfl rfl rfl
    have hf441 := hf440.st hst351 rfl rfl rfl
    have hf442 := hf441.st hst365 rfl rfl rfl
    have hf443 := hf442.st hst371 rfl rfl rfl
    have hf444 := hf443.st hst377 rfl rfl rfl
    have hf445 := hf444.st hst385 rfl rfl rfl
    have hf446 := hf445.st hst389 rfl rfl rfl
    obtain ⟨O447, hst448, hf449⟩ := OwnSl.giveF rfl Flat.i hf446
    refine WD.own (Stp.up hst448 rfl) ?_
    obtain ⟨v436, hY450, hf437⟩ := Sl.slice (ρ := [(86, vr114), (88, vi r323.From), (93, vi (w64 (r323.From + r323.Size)))]) (x := (.tmp 86)) (lo := (some (.tmp 88))) (hi := (some (.tmp 93))) ty32 ty3 rfl rfl rfl hf449 ht435
    refine WD.y 9 rfl (by kernel_rfl) (fun _ _ _ => Y.sub (.cons rfl (.cons rfl (.cons rfl .nil))) (hY450 _ _)) rfl ?_
    refine WD.y 11 rfl (by kernel_rfl) (fun wd455 O454 hst456 => have hf457 := hf176.st hst186 rfl; have hf458 := hf457.st hst331 rfl; have hf459 := hf458.st hst336 rfl; have hf460 := hf459.st hst338 rfl; have hf461 := hf460.st hst351 rfl; have hf462 := hf461.st hst365 rfl; have hf463 := hf462.st hst371 rfl; have hf464 := hf463.st hst377 rfl; have hf465 := hf464.st hst385 rfl; have hf466 := hf465.st hst389 rfl; have hf467 := hf466.st hst448 rfl; have hf468 := hf467.st hst456 rfl; Y.loadAg ty41 rfl rfl (hf468.cells 0 [(Value.slice p12 m13 c14), vi a0.W.From, vi a0.W.Size] rfl) rfl) rfl ?_
    refine WD.y 12 rfl (by kernel_rfl) (fun _ _ _ => Y.move rfl) rfl ?_
    refine WD.y 13 rfl (by kernel_rfl) (fun wd473 O472 hst474 => have hf475 := hf353.st hst365 rfl; have hf476 := hf475.st hst371 rfl; have hf477 := hf476.st hst377 rfl; have hf478 := hf477.st hst385 rfl; have hf479 := hf478.st hst389 rfl; have hf480 := hf479.st hst448 rfl; have hf481 := hf480.st hst474 rfl; Y.loadAg ty39 rfl rfl (hf481.cells 0 [vi r323.From, vi r323.Size] rfl) rfl) rfl ?_
    refine WD.heavy 10 rfl (by kernel_rfl) ?_
    obtain ⟨xs482, hxs482, h⟩ := bnd h
    have hf483 := ho387.st hst389 rfl rfl rfl
    have hf484 := hf483.st hst448 rfl rfl rfl
    refine WL.append (by decide) ty32 ty3 rfl (by decide) rfl rfl hf484 (Sl.src (Sl.mono hf437 frs_imm)) hxs482 rfl ?_
    intro v488 O485 wd486 hst487 ho489
    refine WL.nil ?_
    refine At.dq (Stp.up hst487 rfl) ?_
    refine WD.heavy 14 rfl (by kernel_rfl) ?_
    have hf490 := hf123.mono (imm_st hst132 rfl rfl)
    have hf491 := hf490.mono (imm_st hst186 rfl rfl)
    have hf492 := hf491.mono (imm_st hst331 rfl rfl)
    have hf493 := hf492.mono (imm_st hst336 rfl rfl)
    have hf494 := hf493.mono (imm_st hst338 rfl rfl)
    have hf495 := hf494.mono (imm_st hst351 rfl rfl)
    have hf496 := hf495.mono (imm_st hst365 rfl rfl)
    have hf497 := hf496.mono (imm_st hst371 rfl rfl)
    have hf498 := hf497.mono (imm_st hst377 rfl rfl)
    have hf499 := hf498.mono (imm_st hst385 rfl rfl)
    have hf500 := hf499.mono (imm_st hst389 rfl rfl)
    have hf501 := hf500.mono (imm_st hst448 rfl rfl)
    have hf502 := hf501.mono (imm_st hst487 rfl rfl)
    obtain ⟨r503, hp504, h⟩ := bnd h
    refine WL.call (vals := [Value.agg (List.toArray [(Value.slice p12 m13 c14), vi a0.W.From, vi a0.W.Size]), vu a1, Value.agg (List.toArray [vi r323.From, vi r323.Size])]) kok25 rfl rfl (c_ref07_with (A := fun _ => True) (a0 := a0) (a2 := r323) (Sl.all hf502) hp504) ?_
    rintro vr509 wd508 ⟨u505, rfl, hm507, f506⟩
    obtain ⟨O510, hold511, hnew512, hst513⟩ := adoptE O485 (fun k => 1) hm507
    have hf514 : Sl Rep.u wd508 (frs O510) u505 r503.L := Sl.adoptF f506 (fun k hk => ⟨hk, rfl⟩) hnew512
    refine WL.nil ?_
    refine At.dq (Stp.up hst513 rfl) ?_
    refine WD.y 15 rfl (by kernel_rfl) (fun _ _ _ => Y.assign rfl) rfl ?_
    refine WD.phase [12] [0, 1, 2, 3, 4, 5, 6, 7, 8, 9, 10, 11, 12, 13, 14, 15, 16] (by kernel_rfl) (by kernel_rfl) ?_
    refine WD.heavy 16 rfl (by kernel_rfl) ?_
    have hh521 := h
    obtain ⟨p518, m519, c520, rfl⟩ := hf514.shape
    have h := hh521
    have hf522 := hb21.st hst107 rfl
    have hf523 := hf522.st hst118 rfl
    have hf524 := hf523.st hst132 rfl
    have hf525 := hf524.st hst186 rfl
    have hf526 := hf525.st hst331 rfl
    have hf527 := hf526.st hst336 rfl
    have hf528 := hf527.st hst338 rfl
    have hf529 := hf528.st hst351 rfl
    have hf530 := hf529.st hst365 rfl
    have hf531 := hf530.st hst371 rfl
    have hf532 := hf531.st hst377 rfl
    have hf533 := hf532.st hst385 rfl
    have hf534 := hf533.st hst389 rfl
    have hf535 := hf534.st hst448 rfl
    have hf536 := hf535.st hst487 rfl
    have hf537 := hf536.st hst513 rfl
    refine WL.store (v := Value.agg (List.toArray [(Value.slice p518 m519 c520), vi r503.W.From, vi r503.W.Size])) (cells' := [(Value.slice p518 m519 c520), vi r503.W.From, vi r503.W.Size]) ty41 rfl rfl hf537 rfl (Nat.le_of_ble_eq_true rfl) rfl rfl ?_
    intro wd538 hst539 hb540
    refine WL.nil ?_
    refine At.dq (Stp.up hst539 rfl) ?_
    refine WD.done_ (by kernel_rfl) ?_
    refine At.then ?_
    refine WC.ret ?_
    obtain ⟨rfl, rfl⟩ := tup2 h
    have hf541 := ho489.st hst513 rfl rfl rfl
    have hf542 := hf541.st hst539 rfl rfl rfl
    obtain ⟨O543, hst544, hf545⟩ := OwnSl.giveF rfl Flat.i hf542
    have hs546 : Stp [12, 14, 17, 20] (Lg.O0 A) w O543 wd538 := (Stp.trans (Stp.up hst20 rfl) (Stp.trans (Stp.up hst25 rfl) (Stp.trans (Stp.up hst107 rfl) (Stp.trans (Stp.up hst118 rfl) (Stp.trans (Stp.up hst132 rfl) (Stp.trans (Stp.up hst186 rfl) (Stp.trans (Stp.up hst331 rfl) (Stp.trans (Stp.up hst336 rfl) (Stp.trans (Stp.up hst338 rfl) (Stp.trans (Stp.up hst351 rfl) (Stp.trans (Stp.up hst365 rfl) (Stp.trans (Stp.up hst371 rfl) (Stp.trans (Stp.up hst377 rfl) (Stp.trans (Stp.up hst385 rfl) (Stp.trans (Stp.up hst389 rfl) (Stp.trans (Stp.up hst448 rfl) (Stp.trans (Stp.up hst487 rfl) (Stp.trans (Stp.up hst513 rfl) (Stp.trans (Stp.up hst539 rfl) (Stp.up hst544 rfl))))))))))))))))))))
    have hf547 := hf514.mono (frs_st hst539 rfl)
    have hf548 := hf547.mono (frs_st hst544 rfl)
    have hf549 := hb540.st hst544 rfl
    exact At.res (.inl rfl) rfl (.tmp rfl (.cell rfl (hf549.runAg 0 [(Value.slice p518 m519 c520), vi r503.W.From, vi r503.W.Size] ty41 rfl rfl rfl) .nil)) ⟨v488, (Value.slice p518 m519 c520), rfl, (Stp.ext hs546 rfl rfl), (Sl.outF hf545 hs546 low0), (Sl.outF hf548 hs546 low0)⟩

theorem c_ref01_Number {A : Nat → Prop} {a0 : List Int} {v0 : Value} {w : World} (hs0 : Sl Rep.i w A v0 a0) {r0 : UInt64} (h : ref01_Number a0 = some r0) : Rets Tryd.prog 24 [v0] w (fun v w' => v = vu r0 ∧ Ext w w') := by
 unfold ref01_Number at h
 refine Rets.enter Tryd.func24 rfl rfl ?_
 have hf11 : Sl Rep.i w (imm (Lg.O0 A)) v0 a0 := (Sl.start hs0)
 refine (show WC _ _ _ _ [(0, v0)] _ from ?_)
 refine WC.seq ?_
 refine WC.region ?_
 refine WL.y (Y.assign (v := vu 0) rfl) rfl ?_
 refine WL.nil ?_
 refine At.then ?_
 refine WC.seq ?_
 refine WC.region ?_
 refine WL.y (Y.assign (v := vu 0) rfl) rfl ?_
 refine WL.nil ?_
 refine At.then ?_
 refine WC.seq ?_
 refine WC.seq ?_
 refine WC.region ?_
 refine WL.y (Y.assign rfl) rfl ?_
 refine WL.nil ?_
 refine At.then ?_
 refine WC.block ?_
 obtain ⟨p15, h, hk17⟩ := flow1 h
 obtain ⟨k16, h⟩ := loop_some h
 refine WC.joinB 0 (σ := UInt64) (fun x w' => p15 = .go x ∧ w = w') (fun x => [(3, vu x)]) ?_ ?_
 ·refine WC.loop (σ := (UInt64 × Int)) (fun x k w' => loopN k (ref01_Number_lp1 a0) (x.1, x.2) = some p15 ∧ w = w') (fun x => [(0, v0), (3, vu x.1), (4, vi x.2)]) (0, 0) k16 (.cons rfl (.cons rfl (.cons rfl .nil))) ⟨h, rfl⟩ ?_
  rintro ⟨v12, i13⟩ k16 _ ⟨h, rfl⟩
  obtain ⟨j18, q19, rfl, h, hn20⟩ := rnd1 h
  unfold ref01_Number_lp1 at h
  try dsimp only at h
  refine (show WC _ _ _ _ [(0, v0), (3, vu v12), (4, vi i13)] _ from ?_)
  refine WC.seq ?_
  refine WC.seq ?_
  refine WC.region ?_
  refine WL.y (Y.move rfl) rfl ?_
  refine WL.y (Y.move rfl) rfl ?_
  refine WL.y (Y.len ty32 rfl hf11) rfl ?_
  refine WL.y (Y.lss_i rfl rfl) rfl ?_
  refine WL.nil ?_
  refine At.then ?_
  rcases cnd h with ⟨hc21, h⟩ | ⟨hc21, h⟩
  ·refine WC.condT' rfl hc21 ?_
   refine WC.skip ?_
   refine At.then ?_
   refine WC.seq ?_
   refine WC.block ?_
   refine WC.region ?_
   refine WL.y (Y.move rfl) rfl ?_
   refine WL.y (Y.mul_u (a := 2) rfl rfl) rfl ?_
   refine WL.y (Y.move rfl) rfl ?_
   refine WL.y (Y.move rfl) rfl ?_
   obtain ⟨e22, he22, h⟩ := bnd h
   obtain ⟨b23, off31, cap30, cs29, hv24, hi25, hl26, hc27, hok28, hA32⟩ := Sl.at2 hf11 he22
   obtain rfl := hok28
   replace hc27 : CellsAt _ _ _ [vi e22] := hc27
   have hca33 := CAt.imm hc27 hA32
   refine WL.y (Y.indexAddr ty32 ty3 rfl hv24 rfl hi25 hl26) rfl ?_
   refine WL.y (Y.loadSc ty3 rfl rfl hca33.at_) rfl ?_
   refine WL.y (Y.conv_iu ty3.u ty23.u rfl) rfl ?_
   refine WL.y (Y.add_u rfl rfl) rfl ?_
   obtain ⟨v34, hv34, h⟩ := lt1 h
   refine WL.yE (Y.assign rfl) (congrArg vu hv34.symm) rfl ?_
   refine WL.nil ?_
   refine At.inBlock ?_
   refine At.then ?_
   refine WC.region ?_
   refine WL.y (Y.move rfl) rfl ?_
   refine WL.y (Y.add_i rfl rfl) rfl ?_
   obtain ⟨i35, hi35, h⟩ := lt1 h
   refine WL.yE (Y.assign rfl) (congrArg vi hi35.symm) rfl ?_
   refine WL.nil ?_
   exact At.round (v34, i35) j18 (Nat.lt_succ_self _) ⟨next1 h hn20, rfl⟩ (.cons rfl (.cons rfl (.cons rfl .nil)))
  ·refine WC.condF' rfl hc21 ?_
   refine WC.exit ?_
   refine At.thenX ?_
   refine At.loopX ?_
   exact At.hitB (σ := UInt64) v12 ⟨brk1 h hn20, rfl⟩ (.cons rfl .nil)
 ·rintro v14 _ ⟨rfl, rfl⟩
  replace h := flowK_go hk17
  try dsimp only at h
  refine (show At _ _ _ [(3, vu v14)] _ from ?_)
  refine At.inBlockHit ?_
  refine At.then ?_
  refine WC.seq ?_
  refine WC.region ?_
  refine WL.y (Y.move rfl) rfl ?_
  refine WL.y (Y.assign rfl) rfl ?_
  refine WL.nil ?_
  refine At.then ?_
  refine WC.ret ?_
  obtain rfl := some1 h
  have hs36 : Stp [] (Lg.O0 A) w (Lg.O0 A) w := (Stp.refl _ _ _)
  exact At.res (.inl rfl) rfl (.tmp rfl .nil) ⟨rfl, (Stp.ext hs36 rfl rfl)⟩

theorem c_ref07_placed {A : Nat → Prop} {a0 : List Int} {v0 : Value} {a1 : ref07_Window} {w : World} (hs0 : Sl Rep.i w A v0 a0) {r0 : UInt64} (h : ref07_placed a0 a1 = some r0) : Rets Tryd.prog 27 [v0, Value.agg (List.toArray [vi a1.From, vi a1.Size])] w (fun v w' => v = vu r0 ∧ Ext w w') := by
 unfold ref07_placed at h
 refine Rets.enter Tryd.func27 rfl rfl ?_
 have hf11 : Sl Rep.i w (imm (Lg.O0 A)) v0 a0 := (Sl.start hs0)
 refine (show WC _ _ _ _ [(0, v0), (1, Value.agg (List.toArray [vi a1.From, vi a1.Size]))] _ from ?_)
 refine WC.seq ?_
 refine WC.region ?_
 refine WL.box (O := (Lg.O0 A)) 11 [vi a1.From, vi a1.Size] rfl rfl rfl ?_
 intro p13 O14 wd15 hst16 hb12
 refine WL.y (Y.assign (v := vu 0) rfl) rfl ?_
 refine WL.nil ?_
 refine At.then ?_
 refine WC.seq ?_
 refine WC.region ?_
 refine WL.y (Y.assign rfl) rfl ?_
 refine WL.nil ?_
 refine At.then ?_
 refine WC.seq ?_
 refine WC.seq ?_
 refine WC.region ?_
 refine WL.y (Y.assign rfl) rfl ?_
 refine WL.nil ?_
 refine At.then ?_
 refine WC.block ?_
 obtain ⟨p30, h, hk32⟩ := flow1 h
 obtain ⟨k31, h⟩ := loop_some h
 refine WC.joinB 0 (σ := (List Int × Own × Value)) (fun x w' => p30 = .go x.1 ∧ Stp [13, 1002, 1004] O14 wd15 x.2.1 w' ∧ OwnSl 1008 Rep.i 3 x.2.1 w' x.2.2 x.1) (fun x => [(5, x.2.2)]) ?_ ?_
 ·refine WC.loop (σ := (List Int × Int × Own × Value)) (fun x k w' => loopN k (ref07_placed_lp1 a0 a1) (x.1, x.2.1) = some p30 ∧ Stp [13, 1002, 1004] O14 wd15 x.2.2.1 w' ∧ OwnSl 1004 Rep.i 3 x.2.2.1 w' x.2.2.2 x.1) (fun x => [(0, v0), (3, Value.pointer (some ⟨p13, 0, none⟩)), (5, x.2.2.2), (6, vi x.2.1)]) ([], 0, O14, Value.slice none 0 0) k31 (.cons rfl (.cons rfl (.cons rfl (.cons rfl .nil)))) ⟨h, (Stp.refl _ _ _), (OwnSl.nil 1004 Rep.i 3)⟩ ?_
  rintro ⟨all17, i20, O21, v18⟩ k31 wd22 ⟨h, hst23, hf19⟩
  obtain ⟨j33, q34, rfl, h, hn35⟩ := rnd1 h
  unfold ref07_placed_lp1 at h
  try dsimp only at h hst23 hf19
  refine (show WC _ _ _ _ [(0, v0), (3, Value.pointer (some ⟨p13, 0, none⟩)), (5, v18), (6, vi i20)] _ from ?_)
  refine WC.seq ?_
  refine WC.seq ?_
  refine WC.region ?_
  refine WL.y (Y.move rfl) rfl ?_
  refine WL.y (Y.lss_i rfl rfl) rfl ?_
  refine WL.nil ?_
  refine At.then ?_
  rcases cnd h with ⟨hc36, h⟩ | ⟨hc36, h⟩
  ·refine WC.condT' rfl hc36 ?_
   refine WC.skip ?_
   refine At.then ?_
   refine WC.seq ?_
   obtain ⟨p43, h, hk44⟩ := bnd h
   refine WC.join (σ := (List Int × Own × Value)) (fun x w' => x.1 = p43 ∧ Stp [1004] O21 wd22 x.2.1 w' ∧ OwnSl 1002 Rep.i 3 x.2.1 w' x.2.2 x.1) (fun x => [(0, v0), (3, Value.pointer (some ⟨p13, 0, none⟩)), (5, x.2.2), (6, vi i20)]) ?_ ?_
   ·refine WC.block ?_
    refine WC.seq ?_
    refine WC.region ?_
    refine WL.y (Y.assign rfl) rfl ?_
    refine WL.nil ?_
    refine At.then ?_
    refine WC.seq ?_
    obtain ⟨p46, h, hk47⟩ := bnd h
    refine WC.join (σ := Int) (fun x w' => x = p46 ∧ wd22 = w') (fun x => [(0, v0), (3, Value.pointer (some ⟨p13, 0, none⟩)), (5, v18), (6, vi i20), (7, vi x)]) ?_ ?_
    ·refine WC.seq ?_
     refine WC.region ?_
     refine WL.y (Y.move rfl) rfl ?_
     refine WL.y (Y.fieldAddr fo39_0 rfl) rfl ?_
     have hf48 := hb12.st hst23 rfl
     refine WL.y (Y.loadSc ty3 rfl rfl (hf48.cell 0 _ rfl)) rfl ?_
     refine WL.y (Y.geq_i rfl rfl) rfl ?_
     refine WL.y (Y.move rfl) rfl ?_
     refine WL.cut 8 (σ := Unit) (fun _ w' => wd22 = w') (fun _ => [(0, v0), (3, Value.pointer (some ⟨p13, 0, none⟩)), (5, v18), (6, vi i20), (7, vi 0), (24, Value.bool ((decide (a1.From ≤ i20)) && (decide (i20 < w64 (a1.From + a1.Size)))))]) ?_ ?_
     ·refine WL.part 16 rfl (fun hE49 => ?_) (fun hE49 => ?_)
      ·refine WL.ung rfl rfl ?_
       refine WL.y (Y.move rfl) rfl ?_
       refine WL.ung rfl rfl ?_
       refine WL.y (Y.fieldAddr fo39_0 rfl) rfl ?_
       refine WL.ung rfl rfl ?_
       refine WL.y (Y.loadSc ty3 rfl rfl (hf48.cell 0 _ rfl)) rfl ?_
       refine WL.ung rfl rfl ?_
       refine WL.y (Y.fieldAddr fo39_1 rfl) rfl ?_
       refine WL.ung rfl rfl ?_
       refine WL.y (Y.loadSc ty3 rfl rfl (hf48.cell 1 _ rfl)) rfl ?_
       refine WL.ung rfl rfl ?_
       refine WL.y (Y.add_i rfl rfl) rfl ?_
       refine WL.ung rfl rfl ?_
       refine WL.y (Y.lss_i rfl rfl) rfl ?_
       refine WL.y (Y.pick (b := true) rfl rfl) rfl ?_
       refine WL.ren (v' := Value.bool ((decide (a1.From ≤ i20)) && (decide (i20 < w64 (a1.From + a1.Size))))) 24 rfl (congrArg Value.bool (andT hE49)) ?_
       exact WL.nil (At.join () rfl (.cons rfl (.cons rfl (.cons rfl (.cons rfl (.cons rfl (.cons rfl .nil)))))))
      ·refine WL.gS rfl rfl rfl rfl ?_
       refine WL.gS rfl rfl rfl rfl ?_
       refine WL.gS rfl rfl rfl rfl ?_
       refine WL.gS rfl rfl rfl rfl ?_
       refine WL.gS rfl rfl rfl rfl ?_
       refine WL.gS rfl rfl rfl rfl ?_
       refine WL.gS rfl rfl rfl rfl ?_
       refine WL.y (Y.pick (b := false) rfl rfl) rfl ?_
       refine WL.ren (v' := Value.bool ((decide (a1.From ≤ i20)) && (decide (i20 < w64 (a1.From + a1.Size))))) 24 rfl (congrArg Value.bool (andF hE49)) ?_
       exact WL.nil (At.join () rfl (.cons rfl (.cons rfl (.cons rfl (.cons rfl (.cons rfl (.cons rfl .nil)))))))
     ·rintro _ _ rfl
      refine (show WL _ _ _ _ _ [(0, v0), (3, Value.pointer (some ⟨p13, 0, none⟩)), (5, v18), (6, vi i20), (7, vi 0), (24, Value.bool ((decide (a1.From ≤ i20)) && (decide (i20 < w64 (a1.From + a1.Size)))))] _ from ?_)
      refine WL.nil ?_
      refine At.then ?_
      rcases cnd h with ⟨hc50, h⟩ | ⟨hc50, h⟩
      ·refine WC.condT' rfl hc50 ?_
       refine WC.region ?_
       refine WL.y (Y.move rfl) rfl ?_
       refine WL.y (Y.move rfl) rfl ?_
       refine WL.y (Y.fieldAddr fo39_0 rfl) rfl ?_
       refine WL.y (Y.loadSc ty3 rfl rfl (hf48.cell 0 _ rfl)) rfl ?_
       refine WL.y (Y.sub_i rfl rfl) rfl ?_
       obtain ⟨e51, he51, h⟩ := bnd h
       have hf60 := hf11.mono (imm_st hst16 rfl rfl)
       have hf61 := hf60.mono (imm_st hst23 rfl rfl)
       obtain ⟨b52, off62, cap59, cs58, hv53, hi54, hl55, hc56, hok57, hA63⟩ := Sl.at2 hf61 he51
       obtain rfl := hok57
       replace hc56 : CellsAt _ _ _ [vi e51] := hc56
       have hca64 := CAt.imm hc56 hA63
       refine WL.y (Y.indexAddr ty32 ty3 rfl hv53 rfl hi54 hl55) rfl ?_
       refine WL.y (Y.loadSc ty3 rfl rfl hca64.at_) rfl ?_
       refine WL.y (Y.assign rfl) rfl ?_
       refine WL.nil ?_
       exact At.join (σ := Int) e51 ⟨some1 h, rfl⟩ (.cons rfl (.cons rfl (.cons rfl (.cons rfl (.cons rfl .nil)))))
      ·refine WC.condF' rfl hc50 ?_
       refine WC.skip ?_
       exact At.join (σ := Int) 0 ⟨some1 h, rfl⟩ (.cons rfl (.cons rfl (.cons rfl (.cons rfl (.cons rfl .nil)))))
    ·rintro bit45 _ ⟨rfl, rfl⟩
     replace h := hk47
     try dsimp only at h
     refine (show At _ _ _ [(0, v0), (3, Value.pointer (some ⟨p13, 0, none⟩)), (5, v18), (6, vi i20), (7, vi bit45)] _ from ?_)
     refine At.then ?_
     refine WC.region ?_
     refine WL.y (Y.move rfl) rfl ?_
     refine WL.y (Y.move rfl) rfl ?_
     refine WL.buildSlice (O := O21) (R := Rep.i) (vals := [(0, vi bit45)]) 12 [vi bit45] (xs := [bit45]) (by decide) ty32 ty3 (by decide) (by decide) (Fits.evalp rfl) (by kernel_rfl) rfl ⟨[vi bit45], [], rfl, rfl, rfl⟩ rfl ?_
     intro v65 O67 wd68 hst69 ho66
     obtain ⟨xs70, hxs70, h⟩ := bnd h
     have hf71 := hf19.st hst69 rfl rfl rfl
     refine WL.append (by decide) ty32 ty3 rfl (by decide) rfl rfl hf71 ho66.src hxs70 rfl ?_
     intro v75 O72 wd73 hst74 ho76
     refine WL.y (Y.assign rfl) rfl ?_
     refine WL.nil ?_
     refine At.inBlock ?_
     obtain ⟨O77, hst78, ho79⟩ := OwnSl.rlb 1002 rfl ho76
     exact At.join (σ := (List Int × Own × Value)) (xs70, O77, v75) ⟨some1 h, (Stp.trans (Stp.up hst69 rfl) (Stp.trans (Stp.up hst74 rfl) (Stp.up hst78 rfl))), ho79⟩ (.cons rfl (.cons rfl (.cons rfl (.cons rfl .nil))))
   ·rintro ⟨all37, O40, v38⟩ wd41 ⟨rfl, hst42, hf39⟩
    replace h := hk44
    try dsimp only at h hst42 hf39
    refine (show At _ _ _ [(0, v0), (3, Value.pointer (some ⟨p13, 0, none⟩)), (5, v38), (6, vi i20)] _ from ?_)
    refine At.then ?_
    refine WC.region ?_
    refine WL.y (Y.move rfl) rfl ?_
    refine WL.y (Y.add_i rfl rfl) rfl ?_
    obtain ⟨i80, hi80, h⟩ := lt1 h
    refine WL.yE (Y.assign rfl) (congrArg vi hi80.symm) rfl ?_
    refine WL.nil ?_
    obtain ⟨O81, hst82, ho83⟩ := OwnSl.rlb 1004 rfl hf39
    exact At.round (all37, i80, O81, v38) j33 (Nat.lt_succ_self _) ⟨next1 h hn35, (Stp.trans (Stp.up hst23 rfl) (Stp.trans (Stp.up hst42 rfl) (Stp.up hst82 rfl))), ho83⟩ (.cons rfl (.cons rfl (.cons rfl (.cons rfl .nil))))
  ·refine WC.condF' rfl hc36 ?_
   refine WC.exit ?_
   refine At.thenX ?_
   refine At.loopX ?_
   obtain ⟨O84, hst85, ho86⟩ := OwnSl.rlb 1008 rfl hf19
   exact At.hitB (σ := (List Int × Own × Value)) (all17, O84, v18) ⟨brk1 h hn35, (Stp.trans (Stp.up hst23 rfl) (Stp.up hst85 rfl)), ho86⟩ (.cons rfl .nil)
 ·rintro ⟨all24, O27, v25⟩ wd28 ⟨rfl, hst29, hf26⟩
  replace h := flowK_go hk32
  try dsimp only at h hst29 hf26
  refine (show At _ _ _ [(5, v25)] _ from ?_)
  refine At.inBlockHit ?_
  refine At.then ?_
  refine WC.seq ?_
  refine WC.region ?_
  refine WL.y (Y.move rfl) rfl ?_
  obtain ⟨r87, hp88, h⟩ := bnd h
  refine WL.call (vals := [v25]) kok24 rfl rfl (c_ref01_Number (A := fun _ => True) (hf26.src.sl) hp88) ?_
  rintro vr91 wd90 ⟨rfl, hm89⟩
  obtain ⟨O92, hold93, hnew94, hst95⟩ := adoptE O27 (fun k => 1) hm89
  refine WL.y (Y.assign rfl) rfl ?_
  refine WL.nil ?_
  refine At.then ?_
  refine WC.ret ?_
  obtain rfl := some1 h
  have hs96 : Stp [13, 1002, 1004] (Lg.O0 A) w O92 wd90 := (Stp.trans (Stp.up hst16 rfl) (Stp.trans (Stp.up hst29 rfl) (Stp.up hst95 rfl)))
  exact At.res (.inl rfl) rfl (.tmp rfl .nil) ⟨rfl, (Stp.ext hs96 rfl rfl)⟩

theorem c_ref07_Get {A : Nat → Prop} {v0_0 : Value} {a0 : ref07_State} {a1 : List Int} {v1 : Value} {w : World} (hs0_0 : Sl Rep.u w A v0_0 a0.L) (hs1 : Sl Rep.i w A v1 a1) {r0 : ref07_Got} (h : ref07_Get a0 a1 = some r0) : Rets Tryd.prog 12 [Value.agg (List.toArray [v0_0, vi a0.W.From, vi a0.W.Size]), v1] w (fun v w' => ∃ (u0_2 : Value), v = Value.agg (List.toArray [vu r0.V, vi r0.N, u0_2, vi r0.S.W.From, vi r0.S.W.Size, vi r0.E]) ∧ Ext w w' ∧ Sl Rep.u w' (fun k => w.heap.size ≤ k) u0_2 r0.S.L) := by
 unfold ref07_Get at h
 refine Rets.enter Tryd.func12 rfl rfl ?_
 have hf11 : Sl Rep.u w (imm (Lg.O0 A)) v0_0 a0.L := (Sl.start hs0_0)
 have hf12 : Sl Rep.i w (imm (Lg.O0 A)) v1 a1 := (Sl.start hs1)
 refine (show WC _ _ _ _ [(0, Value.agg (List.toArray [v0_0, vi a0.W.From, vi a0.W.Size])), (1, v1)] _ from ?_)
 refine WC.seq ?_
 refine WC.region ?_
 have hh16 := h
 obtain ⟨p13, m14, c15, rfl⟩ := hf11.shape
 have h := hh16
 refine WL.box (O := (Lg.O0 A)) 11 [(Value.slice p13 m14 c15), vi a0.W.From, vi a0.W.Size] rfl rfl rfl ?_
 intro p18 O19 wd20 hst21 hb17
 refine WL.alloc (O := O19) 12 [vu 0, vi 0, Value.slice none 0 0, vi 0, vi 0, vi 0] ty43 rfl rfl ?_
 intro p23 O24 wd25 hst26 hb22
 refine WL.nil ?_
 refine At.then ?_
 refine WC.seq ?_
 refine WC.seq ?_
 refine WC.region ?_
 refine WL.y (Y.fieldAddr fo41_0 rfl) rfl ?_
 have hf27 := hb17.st hst26 rfl
 refine WL.y (Y.loadSc ty22 rfl rfl (hf27.cell 0 _ rfl)) rfl ?_
 have hf28 := hf11.mono (imm_st hst21 rfl rfl)
 have hf29 := hf28.mono (imm_st hst26 rfl rfl)
 refine WL.y (Y.len ty22 rfl hf29) rfl ?_
 refine WL.y (Y.eql_i rfl rfl) rfl ?_
 refine WL.nil ?_
 refine At.then ?_
 rcases cnd h with ⟨hc30, h⟩ | ⟨hc30, h⟩
 ·refine WC.condT' rfl hc30 ?_
  refine WC.seq ?_
  refine WC.seq ?_
  refine WC.region ?_
  refine WL.y (Y.move rfl) rfl ?_
  have hf31 := hf12.mono (imm_st hst21 rfl rfl)
  have hf32 := hf31.mono (imm_st hst26 rfl rfl)
  refine WL.y (Y.len ty32 rfl hf32) rfl ?_
  refine WL.y (Y.lss_i rfl rfl) rfl ?_
  refine WL.nil ?_
  refine At.then ?_
  rcases cnd h with ⟨hc33, h⟩ | ⟨hc33, h⟩
  ·refine WC.condT' rfl hc33 ?_
   refine WC.seq ?_
   refine WC.region ?_
   refine WL.y (Y.build (vals := [(3, vi 2)]) (cells := [vu 0, vi 0, Value.slice none 0 0, vi 0, vi 0, vi 2]) (Fits.evalp rfl) (by kernel_rfl)) rfl ?_
   refine WL.store (v := Value.agg (List.toArray [vu 0, vi 0, Value.slice none 0 0, vi 0, vi 0, vi 2])) (cells' := [vu 0, vi 0, Value.slice none 0 0, vi 0, vi 0, vi 2]) ty43 rfl rfl hb22 rfl (Nat.le_of_ble_eq_true rfl) rfl rfl ?_
   intro wd34 hst35 hb36
   refine WL.nil ?_
   refine At.then ?_
   refine WC.ret ?_
   refine At.thenR ?_
   refine At.thenR ?_
   obtain rfl := some1 h
   have hs37 : Stp [12] (Lg.O0 A) w O24 wd34 := (Stp.trans (Stp.up hst21 rfl) (Stp.trans (Stp.up hst26 rfl) (Stp.up hst35 rfl)))
   exact At.res (.inl rfl) rfl (.cell rfl (hb36.runAg 0 [vu 0, vi 0, Value.slice none 0 0, vi 0, vi 0, vi 2] ty43 rfl rfl rfl) .nil) ⟨Value.slice none 0 0, rfl, (Stp.ext hs37 rfl rfl), (Or.inl ⟨rfl, rfl⟩)⟩
  ·refine WC.condF' rfl hc33 ?_
   refine WC.skip ?_
   refine At.then ?_
   refine WC.seq ?_
   refine WC.region ?_
   refine WL.y (Y.move rfl) rfl ?_
   obtain ⟨t38, ht38, h⟩ := bnd h
   obtain ⟨v39, hY41, hf40⟩ := Sl.slice (ρ := [(21, v1)]) (x := (.tmp 21)) (lo := none) (hi := (some (.const (.int .i64 64)))) ty32 ty3 rfl rfl rfl hf32 ht38
   refine WL.y (Y.sub (.cons rfl .nil) (hY41 _ _)) rfl ?_
   obtain ⟨r42, hp43, h⟩ := bnd h
   refine WL.call (vals := [v39]) kok24 rfl rfl (c_ref01_Number (A := fun _ => True) (Sl.all hf40) hp43) ?_
   rintro vr46 wd45 ⟨rfl, hm44⟩
   obtain ⟨O47, hold48, hnew49, hst50⟩ := adoptE O24 (fun k => 1) hm44
   refine WL.y (Y.assign rfl) rfl ?_
   refine WL.nil ?_
   refine At.then ?_
   refine WC.seq ?_
   refine WC.region ?_
   refine WL.y (Y.move rfl) rfl ?_
   have hf51 := hf27.st hst50 rfl
   refine WL.y (Y.loadAg ty41 rfl rfl (hf51.cells 0 [(Value.slice p13 m14 c15), vi a0.W.From, vi a0.W.Size] rfl) rfl) rfl ?_
   refine WL.y (Y.move rfl) rfl ?_
   refine WL.y (Y.fieldAddr fo41_1 rfl) rfl ?_
   refine WL.y (Y.loadAg ty39 rfl rfl (hf51.cells 1 [vi a0.W.From, vi a0.W.Size] rfl) rfl) rfl ?_
   have hf52 := hf29.mono (imm_st hst50 rfl rfl)
   obtain ⟨r53, hp54, h⟩ := bnd h
   refine WL.call (vals := [Value.agg (List.toArray [(Value.slice p13 m14 c15), vi a0.W.From, vi a0.W.Size]), vu r42, Value.agg (List.toArray [vi a0.W.From, vi a0.W.Size])]) kok25 rfl rfl (c_ref07_with (A := fun _ => True) (a0 := a0) (a2 := a0.W) (Sl.all hf52) hp54) ?_
   rintro vr59 wd58 ⟨u55, rfl, hm57, f56⟩
   obtain ⟨O60, hold61, hnew62, hst63⟩ := adoptE O47 (fun k => 1) hm57
   have hf64 : Sl Rep.u wd58 (frs O60) u55 r53.L := Sl.adoptF f56 (fun k hk => ⟨hk, rfl⟩) hnew62
   have hh68 := h
   obtain ⟨p65, m66, c67, rfl⟩ := hf64.shape
   have h := hh68
   refine WL.y (Y.build (vals := [(0, vu r42), (1, vi 64), (2, Value.agg (List.toArray [(Value.slice p65 m66 c67), vi r53.W.From, vi r53.W.Size]))]) (cells := [vu r42, vi 64, (Value.slice p65 m66 c67), vi r53.W.From, vi r53.W.Size, vi 0]) (Fits.evalp rfl) (by kernel_rfl)) rfl ?_
   have hf69 := hb22.st hst50 rfl
   have hf70 := hf69.st hst63 rfl
   refine WL.store (v := Value.agg (List.toArray [vu r42, vi 64, (Value.slice p65 m66 c67), vi r53.W.From, vi r53.W.Size, vi 0])) (cells' := [vu r42, vi 64, (Value.slice p65 m66 c67), vi r53.W.From, vi r53.W.Size, vi 0]) ty43 rfl rfl hf70 rfl (Nat.le_of_ble_eq_true rfl) rfl rfl ?_
   intro wd71 hst72 hb73
   refine WL.nil ?_
   refine At.then ?_
   refine WC.ret ?_
   refine At.thenR ?_
   obtain rfl := some1 h
   have hs74 : Stp [12] (Lg.O0 A) w O60 wd71 := (Stp.trans (Stp.up hst21 rfl) (Stp.trans (Stp.up hst26 rfl) (Stp.trans (Stp.up hst50 rfl) (Stp.trans (Stp.up hst63 rfl) (Stp.up hst72 rfl)))))
   have hf75 := hf64.mono (frs_st hst72 rfl)
   exact At.res (.inl rfl) rfl (.cell rfl (hb73.runAg 0 [vu r42, vi 64, (Value.slice p65 m66 c67), vi r53.W.From, vi r53.W.Size, vi 0] ty43 rfl rfl rfl) .nil) ⟨(Value.slice p65 m66 c67), rfl, (Stp.ext hs74 rfl rfl), (Sl.outF hf75 hs74 low0)⟩
 ·refine WC.condF' rfl hc30 ?_
  refine WC.skip ?_
  refine At.then ?_
  refine WC.seq ?_
  refine WC.seq ?_
  refine WC.region ?_
  refine WL.y (Y.move rfl) rfl ?_
  have hf76 := hf12.mono (imm_st hst21 rfl rfl)
  have hf77 := hf76.mono (imm_st hst26 rfl rfl)
  refine WL.y (Y.len ty32 rfl hf77) rfl ?_
  refine WL.y (Y.lss_i rfl rfl) rfl ?_
  refine WL.nil ?_
  refine At.then ?_
  rcases cnd h with ⟨hc78, h⟩ | ⟨hc78, h⟩
  ·refine WC.condT' rfl hc78 ?_
   refine WC.seq ?_
   refine WC.region ?_
   refine WL.y (Y.build (vals := [(3, vi 2)]) (cells := [vu 0, vi 0, Value.slice none 0 0, vi 0, vi 0, vi 2]) (Fits.evalp rfl) (by kernel_rfl)) rfl ?_
   refine WL.store (v := Value.agg (List.toArray [vu 0, vi 0, Value.slice none 0 0, vi 0, vi 0, vi 2])) (cells' := [vu 0, vi 0, Value.slice none 0 0, vi 0, vi 0, vi 2]) ty43 rfl rfl hb22 rfl (Nat.le_of_ble_eq_true rfl) rfl rfl ?_
   intro wd79 hst80 hb81
   refine WL.nil ?_
   refine At.then ?_
   refine WC.ret ?_
   refine At.thenR ?_
   obtain rfl := some1 h
   have hs82 : Stp [12] (Lg.O0 A) w O24 wd79 := (Stp.trans (Stp.up hst21 rfl) (Stp.trans (Stp.up hst26 rfl) (Stp.up hst80 rfl)))
   exact At.res (.inl rfl) rfl (.cell rfl (hb81.runAg 0 [vu 0, vi 0, Value.slice none 0 0, vi 0, vi 0, vi 2] ty43 rfl rfl rfl) .nil) ⟨Value.slice none 0 0, rfl, (Stp.ext hs82 rfl rfl), (Or.inl ⟨rfl, rfl⟩)⟩
  ·refine WC.condF' rfl hc78 ?_
   refine WC.skip ?_
   refine At.then ?_
   refine WC.seq ?_
   refine WC.seq ?_
   refine WC.region ?_
   refine WL.y (Y.move rfl) rfl ?_
   obtain ⟨e83, he83, h⟩ := bnd h
   obtain ⟨b84, off92, cap91, cs90, hv85, hi86, hl87, hc88, hok89, hA93⟩ := Sl.at2 hf77 he83
   obtain rfl := hok89
   replace hc88 : CellsAt _ _ _ [vi e83] := hc88
   have hca94 := CAt.imm hc88 hA93
   refine WL.y (Y.indexAddr ty32 ty3 rfl hv85 rfl hi86 hl87) rfl ?_
   refine WL.y (Y.loadSc ty3 rfl rfl hca94.at_) rfl ?_
   refine WL.y (Y.eql_i rfl rfl) rfl ?_
   refine WL.nil ?_
   refine At.then ?_
   rcases cnd h with ⟨hc95, h⟩ | ⟨hc95, h⟩
   ·refine WC.condT' rfl hc95 ?_
    refine WC.seq ?_
    refine WC.drawH [] [0, 1, 2, 3, 4, 5, 6, 7, 8] O24 10 fmix rfl (by kernel_rfl) ?_
    intro wd96 hst97
    refine WD.y 0 rfl (by kernel_rfl) (fun wd99 O98 hst100 => have hf101 := hf27.st hst97 rfl; have hf102 := hf101.st hst100 rfl; Y.loadAg ty41 rfl rfl (hf102.cells 0 [(Value.slice p13 m14 c15), vi a0.W.From, vi a0.W.Size] rfl) rfl) rfl ?_
    refine WD.y 2 rfl (by kernel_rfl) (fun wd104 O103 hst105 => have hf106 := hf27.st hst97 rfl; have hf107 := hf106.st hst105 rfl; Y.loadAg ty41 rfl rfl (hf107.cells 0 [(Value.slice p13 m14 c15), vi a0.W.From, vi a0.W.Size] rfl) rfl) rfl ?_
    refine WD.y 3 rfl (by kernel_rfl) (fun wd109 O108 hst110 => have hf111 := hf27.st hst97 rfl; have hf112 := hf111.st hst110 rfl; Y.loadAg ty41 rfl rfl (hf112.cells 0 [(Value.slice p13 m14 c15), vi a0.W.From, vi a0.W.Size] rfl) rfl) rfl ?_
    refine WD.y 5 rfl (by kernel_rfl) (fun _ _ _ => Y.fieldAddr fo41_1 rfl) rfl ?_
    refine WD.y 6 rfl (by kernel_rfl) (fun wd117 O116 hst118 => have hf119 := hf27.st hst97 rfl; have hf120 := hf119.st hst118 rfl; Y.loadAg ty39 rfl rfl (hf120.cells 1 [vi a0.W.From, vi a0.W.Size] rfl) rfl) rfl ?_
    refine WD.heavy 1 rfl (by kernel_rfl) ?_
    have hf121 := hf29.mono (imm_st hst97 rfl rfl)
    obtain ⟨r122, hp123, h⟩ := bnd h
    refine WL.call (vals := [Value.agg (List.toArray [(Value.slice p13 m14 c15), vi a0.W.From, vi a0.W.Size])]) kok26 rfl rfl (c_ref07_last (A := fun _ => True) (a0 := a0) (Sl.all hf121) hp123) ?_
    rintro vr126 wd125 ⟨rfl, hm124⟩
    obtain ⟨O127, hold128, hnew129, hst130⟩ := adoptE O24 (fun k => 1) hm124
    refine WL.nil ?_
    refine At.dq (Stp.up hst130 rfl) ?_
    refine WD.heavy 4 rfl (by kernel_rfl) ?_
    have hf131 := hf121.mono (imm_st hst130 rfl rfl)
    obtain ⟨r132, hp133, h⟩ := bnd h
    refine WL.call (vals := [Value.agg (List.toArray [(Value.slice p13 m14 c15), vi a0.W.From, vi a0.W.Size])]) kok26 rfl rfl (c_ref07_last (A := fun _ => True) (a0 := a0) (Sl.all hf131) hp133) ?_
    rintro vr136 wd135 ⟨rfl, hm134⟩
    obtain ⟨O137, hold138, hnew139, hst140⟩ := adoptE O127 (fun k => 1) hm134
    refine WL.nil ?_
    refine At.dq (Stp.up hst140 rfl) ?_
    refine WD.heavy 7 rfl (by kernel_rfl) ?_
    have hf141 := hf131.mono (imm_st hst140 rfl rfl)
    obtain ⟨r142, hp143, h⟩ := bnd h
    refine WL.call (vals := [Value.agg (List.toArray [(Value.slice p13 m14 c15), vi a0.W.From, vi a0.W.Size]), vu r132, Value.agg (List.toArray [vi a0.W.From, vi a0.W.Size])]) kok25 rfl rfl (c_ref07_with (A := fun _ => True) (a0 := a0) (a2 := a0.W) (Sl.all hf141) hp143) ?_
    rintro vr148 wd147 ⟨u144, rfl, hm146, f145⟩
    obtain ⟨O149, hold150, hnew151, hst152⟩ := adoptE O137 (fun k => 1) hm146
    have hf153 : Sl Rep.u wd147 (frs O149) u144 r142.L := Sl.adoptF f145 (fun k hk => ⟨hk, rfl⟩) hnew151
    refine WL.nil ?_
    refine At.dq (Stp.up hst152 rfl) ?_
    have hh157 := h
    obtain ⟨p154, m155, c156, rfl⟩ := hf153.shape
    have h := hh157
    refine WD.y 8 rfl (by kernel_rfl) (fun _ _ _ => Y.build (vals := [(0, vu r122), (1, vi 1), (2, Value.agg (List.toArray [(Value.slice p154 m155 c156), vi r142.W.From, vi r142.W.Size]))]) (cells := [vu r122, vi 1, (Value.slice p154 m155 c156), vi r142.W.From, vi r142.W.Size, vi 0]) (Fits.evalp rfl) (by kernel_rfl)) rfl ?_
    refine WD.phase [12] [0, 1, 2, 3, 4, 5, 6, 7, 8, 9] (by kernel_rfl) (by kernel_rfl) ?_
    refine WD.heavy 9 rfl (by kernel_rfl) ?_
    have hf161 := hb22.st hst97 rfl
    have hf162 := hf161.st hst130 rfl
    have hf163 := hf162.st hst140 rfl
    have hf164 := hf163.st hst152 rfl
    refine WL.store (v := Value.agg (List.toArray [vu r122, vi 1, (Value.slice p154 m155 c156), vi r142.W.From, vi r142.W.Size, vi 0])) (cells' := [vu r122, vi 1, (Value.slice p154 m155 c156), vi r142.W.From, vi r142.W.Size, vi 0]) ty43 rfl rfl hf164 rfl (Nat.le_of_ble_eq_true rfl) rfl rfl ?_
    intro wd165 hst166 hb167
    refine WL.nil ?_
    refine At.dq (Stp.up hst166 rfl) ?_
    refine WD.done_ (by kernel_rfl) ?_
    refine At.then ?_
    refine WC.ret ?_
    refine At.thenR ?_
    obtain rfl := some1 h
    have hs168 : Stp [12] (Lg.O0 A) w O149 wd165 := (Stp.trans (Stp.up hst21 rfl) (Stp.trans (Stp.up hst26 rfl) (Stp.trans (Stp.up hst97 rfl) (Stp.trans (Stp.up hst130 rfl) (Stp.trans (Stp.up hst140 rfl) (Stp.trans (Stp.up hst152 rfl) (Stp.up hst166 rfl)))))))
    have hf169 := hf153.mono (frs_st hst166 rfl)
    exact At.res (.inl rfl) rfl (.cell rfl (hb167.runAg 0 [vu r122, vi 1, (Value.slice p154 m155 c156), vi r142.W.From, vi r142.W.Size, vi 0] ty43 rfl rfl rfl) .nil) ⟨(Value.slice p154 m155 c156), rfl, (Stp.ext hs168 rfl rfl), (Sl.outF hf169 hs168 low0)⟩
   ·refine WC.condF' rfl hc95 ?_
    refine WC.skip ?_
    refine At.then ?_
    refine WC.seq ?_
    refine WC.seq ?_
    refine WC.region ?_
    refine WL.y (Y.move rfl) rfl ?_
    refine WL.y (Y.len ty32 rfl hf77) rfl ?_
    refine WL.y (Y.lss_i rfl rfl) rfl ?_
    refine WL.nil ?_
    refine At.then ?_
    rcases cnd h with ⟨hc170, h⟩ | ⟨hc170, h⟩
    ·refine WC.condT' rfl hc170 ?_
     refine WC.seq ?_
     refine WC.region ?_
     refine WL.y (Y.build (vals := [(3, vi 2)]) (cells := [vu 0, vi 0, Value.slice none 0 0, vi 0, vi 0, vi 2]) (Fits.evalp rfl) (by kernel_rfl)) rfl ?_
     refine WL.store (v := Value.agg (List.toArray [vu 0, vi 0, Value.slice none 0 0, vi 0, vi 0, vi 2])) (cells' := [vu 0, vi 0, Value.slice none 0 0, vi 0, vi 0, vi 2]) ty43 rfl rfl hb22 rfl (Nat.le_of_ble_eq_true rfl) rfl rfl ?_
     intro wd171 hst172 hb173
     refine WL.nil ?_
     refine At.then ?_
     refine WC.ret ?_
     refine At.thenR ?_
     obtain rfl := some1 h
     have hs174 : Stp [12] (Lg.O0 A) w O24 wd171 := (Stp.trans (Stp.up hst21 rfl) (Stp.trans (Stp.up hst26 rfl) (Stp.up hst172 rfl)))
     exact At.res (.inl rfl) rfl (.cell rfl (hb173.runAg 0 [vu 0, vi 0, Value.slice none 0 0, vi 0, vi 0, vi 2] ty43 rfl rfl rfl) .nil) ⟨Value.slice none 0 0, rfl, (Stp.ext hs174 rfl rfl), (Or.inl ⟨rfl, rfl⟩)⟩
    ·refine WC.condF' rfl hc170 ?_
     refine WC.skip ?_
     refine At.then ?_
     refine WC.seq ?_
     refine WC.region ?_
     refine WL.y (Y.fieldAddr fo41_1 rfl) rfl ?_
     refine WL.y (Y.loadAg ty39 rfl rfl (hf27.cells 1 [vi a0.W.From, vi a0.W.Size] rfl) rfl) rfl ?_
     refine WL.alloc (O := O24) 13 [vi 0, vi 0] ty39 rfl rfl ?_
     intro p176 O177 wd178 hst179 hb175
     refine WL.store (v := Value.agg (List.toArray [vi a0.W.From, vi a0.W.Size])) (cells' := [vi a0.W.From, vi a0.W.Size]) ty39 rfl rfl hb175 rfl (Nat.le_of_ble_eq_true rfl) rfl rfl ?_
     intro wd180 hst181 hb182
     refine WL.nil ?_
     refine At.then ?_
     refine WC.seq ?_
     refine WC.region ?_
     refine WL.y (Y.assign rfl) rfl ?_
     refine WL.nil ?_
     refine At.then ?_
     refine WC.seq ?_
     obtain ⟨p190, h, hk191⟩ := flow1 h
     refine WC.join (σ := (Int × Int × Int × Own)) (fun x w' => p190 = .go (x.1, x.2.1, x.2.2.1) ∧ Stp [13] O177 wd180 x.2.2.2 w' ∧ Blk 13 x.2.2.2 w' p176 39 [vi x.1, vi x.2.1]) (fun x => [(1, v1), (2, Value.pointer (some ⟨p18, 0, none⟩)), (4, Value.pointer (some ⟨p23, 0, none⟩)), (6, Value.pointer (some ⟨p176, 0, none⟩)), (7, vi x.2.2.1)]) ?_ ?_
     ·refine WC.seq ?_
      refine WC.region ?_
      refine WL.y (Y.move rfl) rfl ?_
      obtain ⟨e192, he192, h⟩ := bnd h
      have hf201 := hf77.mono (imm_st hst179 rfl rfl)
      have hf202 := hf201.mono (imm_st hst181 rfl rfl)
      obtain ⟨b193, off203, cap200, cs199, hv194, hi195, hl196, hc197, hok198, hA204⟩ := Sl.at2 hf202 he192
      obtain rfl := hok198
      replace hc197 : CellsAt _ _ _ [vi e192] := hc197
      have hca205 := CAt.imm hc197 hA204
      refine WL.y (Y.indexAddr ty32 ty3 rfl hv194 rfl hi195 hl196) rfl ?_
      refine WL.y (Y.loadSc ty3 rfl rfl hca205.at_) rfl ?_
      refine WL.y (Y.eql_i rfl rfl) rfl ?_
      refine WL.nil ?_
      refine At.then ?_
      rcases cnd h with ⟨hc206, h⟩ | ⟨hc206, h⟩
      ·refine WC.condT' rfl hc206 ?_
       refine WC.seq ?_
       refine WC.seq ?_
       refine WC.region ?_
       refine WL.y (Y.move rfl) rfl ?_
       refine WL.y (Y.len ty32 rfl hf202) rfl ?_
       refine WL.y (Y.lss_i rfl rfl) rfl ?_
       refine WL.nil ?_
       refine At.then ?_
       rcases cnd h with ⟨hc207, h⟩ | ⟨hc207, h⟩
       ·refine WC.condT' rfl hc207 ?_
        refine WC.seq ?_
        refine WC.region ?_
        refine WL.y (Y.build (vals := [(3, vi 2)]) (cells := [vu 0, vi 0, Value.slice none 0 0, vi 0, vi 0, vi 2]) (Fits.evalp rfl) (by kernel_rfl)) rfl ?_
        have hf208 := hb22.st hst179 rfl
        have hf209 := hf208.st hst181 rfl
        refine WL.store (v := Value.agg (List.toArray [vu 0, vi 0, Value.slice none 0 0, vi 0, vi 0, vi 2])) (cells' := [vu 0, vi 0, Value.slice none 0 0, vi 0, vi 0, vi 2]) ty43 rfl rfl hf209 rfl (Nat.le_of_ble_eq_true rfl) rfl rfl ?_
        intro wd210 hst211 hb212
        refine WL.nil ?_
        refine At.then ?_
        refine WC.ret ?_
        refine At.thenR ?_
        have h := outs1 h hk191
        refine At.joinR ?_
        refine At.thenR ?_
        obtain rfl := some1 h
        have hs213 : Stp [12, 13] (Lg.O0 A) w O177 wd210 := (Stp.trans (Stp.up hst21 rfl) (Stp.trans (Stp.up hst26 rfl) (Stp.trans (Stp.up hst179 rfl) (Stp.trans (Stp.up hst181 rfl) (Stp.up hst211 rfl)))))
        exact At.res (.inl rfl) rfl (.cell rfl (hb212.runAg 0 [vu 0, vi 0, Value.slice none 0 0, vi 0, vi 0, vi 2] ty43 rfl rfl rfl) .nil) ⟨Value.slice none 0 0, rfl, (Stp.ext hs213 rfl rfl), (Or.inl ⟨rfl, rfl⟩)⟩
       ·refine WC.condF' rfl hc207 ?_
        refine WC.skip ?_
        refine At.then ?_
        refine WC.seq ?_
        refine WC.drawH [] [0, 1, 2, 3, 4, 5, 6, 7, 8, 9] O177 11 fmix rfl (by kernel_rfl) ?_
        intro wd214 hst215
        refine WD.y 0 rfl (by kernel_rfl) (fun _ _ _ => Y.move rfl) rfl ?_
        obtain ⟨t219, ht219, h⟩ := bnd h
        have hf222 := hf202.mono (imm_st hst215 rfl rfl)
        obtain ⟨v220, hY223, hf221⟩ := Sl.slice (ρ := [(62, v1)]) (x := (.tmp 62)) (lo := (some (.const (.int .i64 2)))) (hi := (some (.const (.int .i64 7)))) ty32 ty3 rfl rfl rfl hf222 ht219
        refine WD.y 1 rfl (by kernel_rfl) (fun _ _ _ => Y.sub (.cons rfl .nil) (hY223 _ _)) rfl ?_
        refine WD.y 4 rfl (by kernel_rfl) (fun _ _ _ => Y.move rfl) rfl ?_
        obtain ⟨t230, ht230, h⟩ := bnd h
        obtain ⟨v231, hY233, hf232⟩ := Sl.slice (ρ := [(66, v1)]) (x := (.tmp 66)) (lo := (some (.const (.int .i64 7)))) (hi := (some (.const (.int .i64 13)))) ty32 ty3 rfl rfl rfl hf222 ht230
        refine WD.y 5 rfl (by kernel_rfl) (fun _ _ _ => Y.sub (.cons rfl .nil) (hY233 _ _)) rfl ?_
        refine WD.heavy 2 rfl (by kernel_rfl) ?_
        obtain ⟨r237, hp238, h⟩ := bnd h
        refine WL.call (vals := [v220]) kok24 rfl rfl (c_ref01_Number (A := fun _ => True) (Sl.all hf221) hp238) ?_
        rintro vr241 wd240 ⟨rfl, hm239⟩
        obtain ⟨O242, hold243, hnew244, hst245⟩ := adoptE O177 (fun k => 1) hm239
        refine WL.nil ?_
        refine At.dq (Stp.up hst245 rfl) ?_
        refine WD.y 3 rfl (by kernel_rfl) (fun _ _ _ => Y.conv_ui ty23.u ty3.u rfl) rfl ?_
        refine WD.heavy 6 rfl (by kernel_rfl) ?_
        have hf249 := hf232.mono (imm_st hst245 rfl rfl)
        obtain ⟨r250, hp251, h⟩ := bnd h
        refine WL.call (vals := [v231]) kok24 rfl rfl (c_ref01_Number (A := fun _ => True) (Sl.all hf249) hp251) ?_
        rintro vr254 wd253 ⟨rfl, hm252⟩
        obtain ⟨O255, hold256, hnew257, hst258⟩ := adoptE O242 (fun k => 1) hm252
        refine WL.nil ?_
        refine At.dq (Stp.up hst258 rfl) ?_
        refine WD.y 7 rfl (by kernel_rfl) (fun _ _ _ => Y.conv_ui ty23.u ty3.u rfl) rfl ?_
        refine WD.y 8 rfl (by kernel_rfl) (fun _ _ _ => Y.add_i rfl rfl) rfl ?_
        refine WD.y 9 rfl (by kernel_rfl) (fun _ _ _ => Y.build (vals := [(0, vi (w64 (r237.toNat : Int))), (1, vi (w64 ((w64 (r250.toNat : Int)) + 1)))]) (cells := [vi (w64 (r237.toNat : Int)), vi (w64 ((w64 (r250.toNat : Int)) + 1))]) (Fits.evalp rfl) (by kernel_rfl)) rfl ?_
        refine WD.phase [13] [0, 1, 2, 3, 4, 5, 6, 7, 8, 9, 10] (by kernel_rfl) (by kernel_rfl) ?_
        refine WD.heavy 10 rfl (by kernel_rfl) ?_
        have hf268 := hb182.st hst215 rfl
        have hf269 := hf268.st hst245 rfl
        have hf270 := hf269.st hst258 rfl
        refine WL.store (v := Value.agg (List.toArray [vi (w64 (r237.toNat : Int)), vi (w64 ((w64 (r250.toNat : Int)) + 1))])) (cells' := [vi (w64 (r237.toNat : Int)), vi (w64 ((w64 (r250.toNat : Int)) + 1))]) ty39 rfl rfl hf270 rfl (Nat.le_of_ble_eq_true rfl) rfl rfl ?_
        intro wd271 hst272 hb273
        refine WL.nil ?_
        refine At.dq (Stp.up hst272 rfl) ?_
        refine WD.done_ (by kernel_rfl) ?_
        refine At.then ?_
        refine WC.region ?_
        refine WL.y (Y.assign rfl) rfl ?_
        refine WL.nil ?_
        exact At.join (σ := (Int × Int × Int × Own)) (w64 (r237.toNat : Int), w64 ((w64 (r250.toNat : Int)) + 1), 13, O255) ⟨go2 h, (Stp.trans (Stp.up hst215 rfl) (Stp.trans (Stp.up hst245 rfl) (Stp.trans (Stp.up hst258 rfl) (Stp.up hst272 rfl)))), hb273⟩ (.cons rfl (.cons rfl (.cons rfl (.cons rfl (.cons rfl .nil)))))
      ·refine WC.condF' rfl hc206 ?_
       refine WC.skip ?_
       exact At.join (σ := (Int × Int × Int × Own)) (a0.W.From, a0.W.Size, 2, O177) ⟨go2 h, (Stp.refl _ _ _), hb182⟩ (.cons rfl (.cons rfl (.cons rfl (.cons rfl (.cons rfl .nil)))))
     ·rintro ⟨c184, c185, at186, O187⟩ wd188 ⟨rfl, hst189, hb183⟩
      replace h := flowK_go hk191
      try dsimp only at h hst189 hb183
      refine (show At _ _ _ [(1, v1), (2, Value.pointer (some ⟨p18, 0, none⟩)), (4, Value.pointer (some ⟨p23, 0, none⟩)), (6, Value.pointer (some ⟨p176, 0, none⟩)), (7, vi at186)] _ from ?_)
      refine At.then ?_
      refine WC.seq ?_
      refine WC.seq ?_
      refine WC.region ?_
      refine WL.y (Y.fieldAddr fo39_1 rfl) rfl ?_
      refine WL.y (Y.loadSc ty3 rfl rfl (hb183.cell 1 _ rfl)) rfl ?_
      refine WL.y (Y.eql_i rfl rfl) rfl ?_
      refine WL.y (Y.move rfl) rfl ?_
      refine WL.cut 7 (σ := Unit) (fun _ w' => wd188 = w') (fun _ => [(1, v1), (2, Value.pointer (some ⟨p18, 0, none⟩)), (4, Value.pointer (some ⟨p23, 0, none⟩)), (6, Value.pointer (some ⟨p176, 0, none⟩)), (7, vi at186), (82, Value.bool ((decide (c185 = 0)) || (decide (64 < w64 (c184 + c185)))))]) ?_ ?_
      ·refine WL.part 75 rfl (fun hE274 => ?_) (fun hE274 => ?_)
       ·refine WL.gS rfl rfl rfl rfl ?_
        refine WL.gS rfl rfl rfl rfl ?_
        refine WL.gS rfl rfl rfl rfl ?_
        refine WL.gS rfl rfl rfl rfl ?_
        refine WL.gS rfl rfl rfl rfl ?_
        refine WL.gS rfl rfl rfl rfl ?_
        refine WL.y (Y.pick (b := true) rfl rfl) rfl ?_
        refine WL.ren (v' := Value.bool ((decide (c185 = 0)) || (decide (64 < w64 (c184 + c185))))) 82 rfl (congrArg Value.bool (orT hE274)) ?_
        exact WL.nil (At.join () rfl (.cons rfl (.cons rfl (.cons rfl (.cons rfl (.cons rfl (.cons rfl .nil)))))))
       ·refine WL.ung rfl rfl ?_
        refine WL.y (Y.fieldAddr fo39_0 rfl) rfl ?_
        refine WL.ung rfl rfl ?_
        refine WL.y (Y.loadSc ty3 rfl rfl (hb183.cell 0 _ rfl)) rfl ?_
        refine WL.ung rfl rfl ?_
        refine WL.y (Y.fieldAddr fo39_1 rfl) rfl ?_
        refine WL.ung rfl rfl ?_
        refine WL.y (Y.loadSc ty3 rfl rfl (hb183.cell 1 _ rfl)) rfl ?_
        refine WL.ung rfl rfl ?_
        refine WL.y (Y.add_i rfl rfl) rfl ?_
        refine WL.ung rfl rfl ?_
        refine WL.y (Y.gtr_i rfl rfl) rfl ?_
        refine WL.y (Y.pick (b := false) rfl rfl) rfl ?_
        refine WL.ren (v' := Value.bool ((decide (c185 = 0)) || (decide (64 < w64 (c184 + c185))))) 82 rfl (congrArg Value.bool (orF hE274)) ?_
        exact WL.nil (At.join () rfl (.cons rfl (.cons rfl (.cons rfl (.cons rfl (.cons rfl (.cons rfl .nil)))))))
      ·rintro _ _ rfl
       refine (show WL _ _ _ _ _ [(1, v1), (2, Value.pointer (some ⟨p18, 0, none⟩)), (4, Value.pointer (some ⟨p23, 0, none⟩)), (6, Value.pointer (some ⟨p176, 0, none⟩)), (7, vi at186), (82, Value.bool ((decide (c185 = 0)) || (decide (64 < w64 (c184 + c185)))))] _ from ?_)
       refine WL.nil ?_
       refine At.then ?_
       rcases cnd h with ⟨hc275, h⟩ | ⟨hc275, h⟩
       ·refine WC.condT' rfl hc275 ?_
        refine WC.seq ?_
        refine WC.region ?_
        refine WL.y (Y.build (vals := [(3, vi 3)]) (cells := [vu 0, vi 0, Value.slice none 0 0, vi 0, vi 0, vi 3]) (Fits.evalp rfl) (by kernel_rfl)) rfl ?_
        have hf276 := hb22.st hst179 rfl
        have hf277 := hf276.st hst181 rfl
        have hf278 := hf277.st hst189 rfl
        refine WL.store (v := Value.agg (List.toArray [vu 0, vi 0, Value.slice none 0 0, vi 0, vi 0, vi 3])) (cells' := [vu 0, vi 0, Value.slice none 0 0, vi 0, vi 0, vi 3]) ty43 rfl rfl hf278 rfl (Nat.le_of_ble_eq_true rfl) rfl rfl ?_
        intro wd279 hst280 hb281
        refine WL.nil ?_
        refine At.then ?_
        refine WC.ret ?_
        refine At.thenR ?_
        obtain rfl := some1 h
        have hs282 : Stp [12, 13] (Lg.O0 A) w O187 wd279 := (Stp.trans (Stp.up hst21 rfl) (Stp.trans (Stp.up hst26 rfl) (Stp.trans (Stp.up hst179 rfl) (Stp.trans (Stp.up hst181 rfl) (Stp.trans (Stp.up hst189 rfl) (Stp.up hst280 rfl))))))
        exact At.res (.inl rfl) rfl (.cell rfl (hb281.runAg 0 [vu 0, vi 0, Value.slice none 0 0, vi 0, vi 0, vi 3] ty43 rfl rfl rfl) .nil) ⟨Value.slice none 0 0, rfl, (Stp.ext hs282 rfl rfl), (Or.inl ⟨rfl, rfl⟩)⟩
       ·refine WC.condF' rfl hc275 ?_
        refine WC.skip ?_
        refine At.then ?_
        refine WC.seq ?_
        refine WC.seq ?_
        refine WC.region ?_
        refine WL.y (Y.move rfl) rfl ?_
        have hf283 := hf77.mono (imm_st hst179 rfl rfl)
        have hf284 := hf283.mono (imm_st hst181 rfl rfl)
        have hf285 := hf284.mono (imm_st hst189 rfl rfl)
        refine WL.y (Y.len ty32 rfl hf285) rfl ?_
        refine WL.y (Y.move rfl) rfl ?_
        refine WL.y (Y.sub_i rfl rfl) rfl ?_
        refine WL.y (Y.fieldAddr fo39_1 rfl) rfl ?_
        refine WL.y (Y.loadSc ty3 rfl rfl (hb183.cell 1 _ rfl)) rfl ?_
        refine WL.y (Y.lss_i rfl rfl) rfl ?_
        refine WL.nil ?_
        refine At.then ?_
        rcases cnd h with ⟨hc286, h⟩ | ⟨hc286, h⟩
        ·refine WC.condT' rfl hc286 ?_
         refine WC.seq ?_
         refine WC.region ?_
         refine WL.y (Y.build (vals := [(3, vi 2)]) (cells := [vu 0, vi 0, Value.slice none 0 0, vi 0, vi 0, vi 2]) (Fits.evalp rfl) (by kernel_rfl)) rfl ?_
         have hf287 := hb22.st hst179 rfl
         have hf288 := hf287.st hst181 rfl
         have hf289 := hf288.st hst189 rfl
         refine WL.store (v := Value.agg (List.toArray [vu 0, vi 0, Value.slice none 0 0, vi 0, vi 0, vi 2])) (cells' := [vu 0, vi 0, Value.slice none 0 0, vi 0, vi 0, vi 2]) ty43 rfl rfl hf289 rfl (Nat.le_of_ble_eq_true rfl) rfl rfl ?_
         intro wd290 hst291 hb292
         refine WL.nil ?_
         refine At.then ?_
         refine WC.ret ?_
         refine At.thenR ?_
         obtain rfl := some1 h
         have hs293 : Stp [12, 13] (Lg.O0 A) w O187 wd290 := (Stp.trans (Stp.up hst21 rfl) (Stp.trans (Stp.up hst26 rfl) (Stp.trans (Stp.up hst179 rfl) (Stp.trans (Stp.up hst181 rfl) (Stp.trans (Stp.up hst189 rfl) (Stp.up hst291 rfl))))))
         exact At.res (.inl rfl) rfl (.cell rfl (hb292.runAg 0 [vu 0, vi 0, Value.slice none 0 0, vi 0, vi 0, vi 2] ty43 rfl rfl rfl) .nil) ⟨Value.slice none 0 0, rfl, (Stp.ext hs293 rfl rfl), (Or.inl ⟨rfl, rfl⟩)⟩
        ·refine WC.condF' rfl hc286 ?_
         refine WC.skip ?_
         refine At.then ?_
         refine WC.seq ?_
         refine WC.region ?_
         refine WL.y (Y.move rfl) rfl ?_
         refine WL.y (Y.fieldAddr fo39_1 rfl) rfl ?_
         refine WL.y (Y.loadSc ty3 rfl rfl (hb183.cell 1 _ rfl)) rfl ?_
         refine WL.y (Y.add_i rfl rfl) rfl ?_
         obtain ⟨nv294, hnv294, h⟩ := lt1 h
         refine WL.yE (Y.assign rfl) (congrArg vi hnv294.symm) rfl ?_
         refine WL.nil ?_
         refine At.then ?_
         refine WC.seq ?_
         refine WC.drawH [] [0, 1, 2, 3, 4, 5, 6, 7, 8, 9] O187 10 fmix rfl (by kernel_rfl) ?_
         intro wd295 hst296
         refine WD.y 0 rfl (by kernel_rfl) (fun wd298 O297 hst299 => have hf300 := hf27.st hst179 rfl; have hf301 := hf300.st hst181 rfl; have hf302 := hf301.st hst189 rfl; have hf303 := hf302.st hst296 rfl; have hf304 := hf303.st hst299 rfl; Y.loadAg ty41 rfl rfl (hf304.cells 0 [(Value.slice p13 m14 c15), vi a0.W.From, vi a0.W.Size] rfl) rfl) rfl ?_
         refine WD.y 2 rfl (by kernel_rfl) (fun _ _ _ => Y.move rfl) rfl ?_
         refine WD.y 3 rfl (by kernel_rfl) (fun _ _ _ => Y.move rfl) rfl ?_
         refine WD.y 4 rfl (by kernel_rfl) (fun _ _ _ => Y.move rfl) rfl ?_
         obtain ⟨t314, ht314, h⟩ := bnd h
         have hf317 := hf285.mono (imm_st hst296 rfl rfl)
         obtain ⟨v315, hY318, hf316⟩ := Sl.slice (ρ := [(98, v1), (99, vi at186), (100, vi nv294)]) (x := (.tmp 98)) (lo := (some (.tmp 99))) (hi := (some (.tmp 100))) ty32 ty3 rfl rfl rfl hf317 ht314
         refine WD.y 5 rfl (by kernel_rfl) (fun _ _ _ => Y.sub (.cons rfl (.cons rfl (.cons rfl .nil))) (hY318 _ _)) rfl ?_
         refine WD.y 6 rfl (by kernel_rfl) (fun wd323 O322 hst324 => have hf325 := hb183.st hst296 rfl; have hf326 := hf325.st hst324 rfl; Y.loadAg ty39 rfl rfl (hf326.cells 0 [vi c184, vi c185] rfl) rfl) rfl ?_
         refine WD.heavy 1 rfl (by kernel_rfl) ?_
         have hf327 := hf29.mono (imm_st hst179 rfl rfl)
         have hf328 := hf327.mono (imm_st hst181 rfl rfl)
         have hf329 := hf328.mono (imm_st hst189 rfl rfl)
         have hf330 := hf329.mono (imm_st hst296 rfl rfl)
         obtain ⟨r331, hp332, h⟩ := bnd h
         refine WL.call (vals := [Value.agg (List.toArray [(Value.slice p13 m14 c15), vi a0.W.From, vi a0.W.Size])]) kok26 rfl rfl (c_ref07_last (A := fun _ => True) (a0 := a0) (Sl.all hf330) hp332) ?_
         rintro vr335 wd334 ⟨rfl, hm333⟩
         obtain ⟨O336, hold337, hnew338, hst339⟩ := adoptE O187 (fun k => 1) hm333
         refine WL.nil ?_
         refine At.dq (Stp.up hst339 rfl) ?_
         refine WD.heavy 7 rfl (by kernel_rfl) ?_
         have hf340 := hf316.mono (imm_st hst339 rfl rfl)
         obtain ⟨r341, hp342, h⟩ := bnd h
         refine WL.call (vals := [v315, Value.agg (List.toArray [vi c184, vi c185])]) kok27 rfl rfl (c_ref07_placed (A := fun _ => True) (a1 := (ref07_Window.mk c184 c185)) (Sl.all hf340) hp342) ?_
         rintro vr345 wd344 ⟨rfl, hm343⟩
         obtain ⟨O346, hold347, hnew348, hst349⟩ := adoptE O336 (fun k => 1) hm343
         refine WL.nil ?_
         refine At.dq (Stp.up hst349 rfl) ?_
         refine WD.y 8 rfl (by kernel_rfl) (fun _ _ _ => Y.xor_u rfl rfl) rfl ?_
         obtain ⟨v353, hv353, h⟩ := lt1 h
         refine WD.yE 9 rfl (by kernel_rfl) (fun _ _ _ => Y.assign rfl) (congrArg vu hv353.symm) rfl ?_
         refine WD.done_ (by kernel_rfl) ?_
         refine At.then ?_
         refine WC.seq ?_
         refine WC.region ?_
         have hf357 := hf27.st hst179 rfl
         have hf358 := hf357.st hst181 rfl
         have hf359 := hf358.st hst189 rfl
         have hf360 := hf359.st hst296 rfl
         have hf361 := hf360.st hst339 rfl
         have hf362 := hf361.st hst349 rfl
         refine WL.y (Y.loadAg ty41 rfl rfl (hf362.cells 0 [(Value.slice p13 m14 c15), vi a0.W.From, vi a0.W.Size] rfl) rfl) rfl ?_
         refine WL.y (Y.move rfl) rfl ?_
         have hf363 := hf330.mono (imm_st hst339 rfl rfl)
         have hf364 := hf363.mono (imm_st hst349 rfl rfl)
         obtain ⟨⟨r365, r366⟩, hp367, h⟩ := bnd h
         refine WL.call (vals := [Value.agg (List.toArray [(Value.slice p13 m14 c15), vi a0.W.From, vi a0.W.Size]), vu v353]) kok21 rfl rfl (c_ref07_Put (A := fun _ => True) (a0 := a0) (Sl.all hf364) hp367) ?_
         rintro vr374 wd373 ⟨u368, u369, rfl, hm372, f370, f371⟩
         obtain ⟨O375, hold376, hnew377, hst378⟩ := adoptE O346 (fun k => 1) hm372
         have hf379 : Sl Rep.i wd373 (frs O375) u368 r365 := Sl.adoptF f370 (fun k hk => ⟨hk, rfl⟩) hnew377
         have hf380 : Sl Rep.u wd373 (frs O375) u369 r366.L := Sl.adoptF f371 (fun k hk => ⟨hk, rfl⟩) hnew377
         refine WL.y (Y.move rfl) rfl ?_
         refine WL.y (Y.extract rfl rfl) rfl ?_
         refine WL.y (Y.extract rfl rfl) rfl ?_
         refine WL.alloc (O := O375) 14 [Value.slice none 0 0, vi 0, vi 0] ty41 rfl rfl ?_
         intro p382 O383 wd384 hst385 hb381
         refine WL.y (Y.assign rfl) rfl ?_
         have hf386 := hf380.mono (frs_st hst385 rfl)
         have hh390 := h
         obtain ⟨p387, m388, c389, rfl⟩ := hf386.shape
         have h := hh390
         refine WL.store (v := Value.agg (List.toArray [(Value.slice p387 m388 c389), vi r366.W.From, vi r366.W.Size])) (cells' := [(Value.slice p387 m388 c389), vi r366.W.From, vi r366.W.Size]) ty41 rfl rfl hb381 rfl (Nat.le_of_ble_eq_true rfl) rfl rfl ?_
         intro wd391 hst392 hb393
         refine WL.nil ?_
         refine At.then ?_
         refine WC.seq ?_
         refine WC.seq ?_
         refine WC.region ?_
         refine WL.y (Y.move rfl) rfl ?_
         have hf394 := hf379.mono (frs_st hst385 rfl)
         have hf395 := hf394.mono (frs_st hst392 rfl)
         refine WL.y (Y.len ty32 rfl hf395) rfl ?_
         refine WL.y (Y.move rfl) rfl ?_
         refine WL.y (Y.neq_i rfl rfl) rfl ?_
         refine WL.nil ?_
         refine At.then ?_
         rcases cnd h with ⟨hc396, h⟩ | ⟨hc396, h⟩
         ·refine WC.condT' rfl hc396 ?_
          refine WC.seq ?_
          refine WC.region ?_
          refine WL.y (Y.build (vals := [(3, vi 3)]) (cells := [vu 0, vi 0, Value.slice none 0 0, vi 0, vi 0, vi 3]) (Fits.evalp rfl) (by kernel_rfl)) rfl ?_
          have hf397 := hb22.st hst179 rfl
          have hf398 := hf397.st hst181 rfl
          have hf399 := hf398.st hst189 rfl
          have hf400 := hf399.st hst296 rfl
          have hf401 := hf400.st hst339 rfl
          have hf402 := hf401.st hst349 rfl
          have hf403 := hf402.st hst378 rfl
          have hf404 := hf403.st hst385 rfl
          have hf405 := hf404.st hst392 rfl
          refine WL.store (v := Value.agg (List.toArray [vu 0, vi 0, Value.slice none 0 0, vi 0, vi 0, vi 3])) (cells' := [vu 0, vi 0, Value.slice none 0 0, vi 0, vi 0, vi 3]) ty43 rfl rfl hf405 rfl (Nat.le_of_ble_eq_true rfl) rfl rfl ?_
          intro wd406 hst407 hb408
          refine WL.nil ?_
          refine At.then ?_
          refine WC.ret ?_
          refine At.thenR ?_
          obtain rfl := some1 h
          have hs409 : Stp [12, 13, 14] (Lg.O0 A) w O383 wd406 := (Stp.trans (Stp.up hst21 rfl) (Stp.trans (Stp.up hst26 rfl) (Stp.trans (Stp.up hst179 rfl) (Stp.trans (Stp.up hst181 rfl) (Stp.trans (Stp.up hst189 rfl) (Stp.trans (Stp.up hst296 rfl) (Stp.trans (Stp.up hst339 rfl) (Stp.trans (Stp.up hst349 rfl) (Stp.trans (Stp.up hst378 rfl) (Stp.trans (Stp.up hst385 rfl) (Stp.trans (Stp.up hst392 rfl) (Stp.up hst407 rfl))))))))))))
          exact At.res (.inl rfl) rfl (.cell rfl (hb408.runAg 0 [vu 0, vi 0, Value.slice none 0 0, vi 0, vi 0, vi 3] ty43 rfl rfl rfl) .nil) ⟨Value.slice none 0 0, rfl, (Stp.ext hs409 rfl rfl), (Or.inl ⟨rfl, rfl⟩)⟩
         ·refine WC.condF' rfl hc396 ?_
          refine WC.skip ?_
          refine At.then ?_
          refine WC.seq ?_
          refine WC.seq ?_
          refine WC.region ?_
          refine WL.y (Y.assign rfl) rfl ?_
          refine WL.nil ?_
          refine At.then ?_
          obtain ⟨p413, h, hk414⟩ := flow1 h
          refine WC.join (σ := Own) (fun x w' => p413 = .go () ∧ Stp [] O383 wd391 x w') (fun x => [(4, Value.pointer (some ⟨p23, 0, none⟩)), (8, vi nv294), (9, vu v353), (11, Value.pointer (some ⟨p382, 0, none⟩))]) ?_ ?_
          ·refine WC.block ?_
           obtain ⟨p422, h, hk424⟩ := flow1 h
           obtain ⟨k423, h⟩ := loop_some h
           refine WC.joinB 0 (σ := Own) (fun x w' => p422 = .go () ∧ Stp [] O383 wd391 x w') (fun x => [(4, Value.pointer (some ⟨p23, 0, none⟩)), (8, vi nv294), (9, vu v353), (11, Value.pointer (some ⟨p382, 0, none⟩))]) ?_ ?_
           ·refine WC.loop (σ := (Int × Own)) (fun x k w' => loopN k (ref07_Get_lp1 a1 nv294 r365) x.1 = some p422 ∧ Stp [] O383 wd391 x.2 w') (fun x => [(1, v1), (4, Value.pointer (some ⟨p23, 0, none⟩)), (8, vi nv294), (9, vu v353), (10, u368), (11, Value.pointer (some ⟨p382, 0, none⟩)), (12, vi x.1)]) (0, O383) k423 (.cons rfl (.cons rfl (.cons rfl (.cons rfl (.cons rfl (.cons rfl (.cons rfl .nil))))))) ⟨h, (Stp.refl _ _ _)⟩ ?_
            rintro ⟨i415, O416⟩ k423 wd417 ⟨h, hst418⟩
            obtain ⟨j425, q426, rfl, h, hn427⟩ := rnd1 h
            unfold ref07_Get_lp1 at h
            try dsimp only at h hst418
            refine (show WC _ _ _ _ [(1, v1), (4, Value.pointer (some ⟨p23, 0, none⟩)), (8, vi nv294), (9, vu v353), (10, u368), (11, Value.pointer (some ⟨p382, 0, none⟩)), (12, vi i415)] _ from ?_)
            refine WC.seq ?_
            refine WC.seq ?_
            refine WC.region ?_
            refine WL.y (Y.move rfl) rfl ?_
            refine WL.y (Y.move rfl) rfl ?_
            refine WL.y (Y.lss_i rfl rfl) rfl ?_
            refine WL.nil ?_
            refine At.then ?_
            rcases cnd h with ⟨hc428, h⟩ | ⟨hc428, h⟩
            ·refine WC.condT' rfl hc428 ?_
             refine WC.skip ?_
             refine At.then ?_
             refine WC.seq ?_
             refine WC.block ?_
             refine WC.seq ?_
             refine WC.draw 8 O416 fmix (by kernel_rfl) ?_
             intro wd429 hst430
             refine WS.y (Y.move rfl) rfl ?_
             refine WS.y (Y.move rfl) rfl ?_
             obtain ⟨e431, he431, h⟩ := bnd h
             have hf440 := hf395.mono (frs_st hst418 rfl)
             have hf441 := hf440.mono (frs_st hst430 rfl)
             obtain ⟨b432, off442, cap439, cs438, hv433, hi434, hl435, hc436, hok437, hA443⟩ := Sl.at2 hf441 he431
             obtain rfl := hok437
             replace hc436 : CellsAt _ _ _ [vi e431] := hc436
             have hca444 := CAt.frs hc436 hA443
             refine WS.y (Y.indexAddr ty32 ty3 rfl hv433 rfl hi434 hl435) rfl ?_
             refine WS.y (Y.loadSc ty3 rfl rfl hca444.at_) rfl ?_
             refine WS.y (Y.move rfl) rfl ?_
             refine WS.y (Y.move rfl) rfl ?_
             obtain ⟨e445, he445, h⟩ := bnd h
             have hf454 := hf317.mono (imm_st hst339 rfl rfl)
             have hf455 := hf454.mono (imm_st hst349 rfl rfl)
             have hf456 := hf455.mono (imm_st hst378 rfl rfl)
             have hf457 := hf456.mono (imm_st hst385 rfl rfl)
             have hf458 := hf457.mono (imm_st hst392 rfl rfl)
             have hf459 := hf458.mono (imm_st hst418 rfl rfl)
             have hf460 := hf459.mono (imm_st hst430 rfl rfl)
             obtain ⟨b446, off461, cap453, cs452, hv447, hi448, hl449, hc450, hok451, hA462⟩ := Sl.at2 hf460 he445
             obtain rfl := hok451
             replace hc450 : CellsAt _ _ _ [vi e445] := hc450
             have hca463 := CAt.imm hc450 hA462
             refine WS.y (Y.indexAddr ty32 ty3 rfl hv447 rfl hi448 hl449) rfl ?_
             refine WS.y (Y.loadSc ty3 rfl rfl hca463.at_) rfl ?_
             refine WS.tail ?_
             refine WL.y (Y.neq_i rfl rfl) rfl ?_
             refine WL.nil ?_
             refine At.then ?_
             rcases cnd h with ⟨hc464, h⟩ | ⟨hc464, h⟩
             ·refine WC.condT' rfl hc464 ?_
              refine WC.seq ?_
              refine WC.region ?_
              refine WL.y (Y.build (vals := [(3, vi 3)]) (cells := [vu 0, vi 0, Value.slice none 0 0, vi 0, vi 0, vi 3]) (Fits.evalp rfl) (by kernel_rfl)) rfl ?_
              have hf465 := hb22.st hst179 rfl
              have hf466 := hf465.st hst181 rfl
              have hf467 := hf466.st hst189 rfl
              have hf468 := hf467.st hst296 rfl
              have hf469 := hf468.st hst339 rfl
              have hf470 := hf469.st hst349 rfl
              have hf471 := hf470.st hst378 rfl
              have hf472 := hf471.st hst385 rfl
              have hf473 := hf472.st hst392 rfl
              have hf474 := hf473.st hst418 rfl
              have hf475 := hf474.st hst430 rfl
              refine WL.store (v := Value.agg (List.toArray [vu 0, vi 0, Value.slice none 0 0, vi 0, vi 0, vi 3])) (cells' := [vu 0, vi 0, Value.slice none 0 0, vi 0, vi 0, vi 3]) ty43 rfl rfl hf475 rfl (Nat.le_of_ble_eq_true rfl) rfl rfl ?_
              intro wd476 hst477 hb478
              refine WL.nil ?_
              refine At.then ?_
              refine WC.ret ?_
              refine At.inBlockR ?_
              refine At.thenR ?_
              refine At.loopR ?_
              have h := outr1 h hn427 hk424
              refine At.joinBR ?_
              refine At.inBlockR ?_
              have h := outs1 h hk414
              refine At.joinR ?_
              refine At.thenR ?_
              obtain rfl := some1 h
              have hs479 : Stp [12, 13, 14] (Lg.O0 A) w O416 wd476 := (Stp.trans (Stp.up hst21 rfl) (Stp.trans (Stp.up hst26 rfl) (Stp.trans (Stp.up hst179 rfl) (Stp.trans (Stp.up hst181 rfl) (Stp.trans (Stp.up hst189 rfl) (Stp.trans (Stp.up hst296 rfl) (Stp.trans (Stp.up hst339 rfl) (Stp.trans (Stp.up hst349 rfl) (Stp.trans (Stp.up hst378 rfl) (Stp.trans (Stp.up hst385 rfl) (Stp.trans (Stp.up hst392 rfl) (Stp.trans (Stp.up hst418 rfl) (Stp.trans (Stp.up hst430 rfl) (Stp.up hst477 rfl))))))))))))))
              exact At.res (.inl rfl) rfl (.cell rfl (hb478.runAg 0 [vu 0, vi 0, Value.slice none 0 0, vi 0, vi 0, vi 3] ty43 rfl rfl rfl) .nil) ⟨Value.slice none 0 0, rfl, (Stp.ext hs479 rfl rfl), (Or.inl ⟨rfl, rfl⟩)⟩
             ·refine WC.condF' rfl hc464 ?_
              refine WC.skip ?_
              refine At.inBlock ?_
              refine At.then ?_
              refine WC.region ?_
              refine WL.y (Y.move rfl) rfl ?_
              refine WL.y (Y.add_i rfl rfl) rfl ?_
              obtain ⟨i480, hi480, h⟩ := lt1 h
              refine WL.yE (Y.assign rfl) (congrArg vi hi480.symm) rfl ?_
              refine WL.nil ?_
              exact At.round (i480, O416) j425 (Nat.lt_succ_self _) ⟨next1 h hn427, (Stp.trans (Stp.up hst418 rfl) (Stp.up hst430 rfl))⟩ (.cons rfl (.cons rfl (.cons rfl (.cons rfl (.cons rfl (.cons rfl (.cons rfl .nil)))))))
            ·refine WC.condF' rfl hc428 ?_
             refine WC.exit ?_
             refine At.thenX ?_
             refine At.loopX ?_
             exact At.hitB (σ := Own) O416 ⟨brk1 h hn427, (Stp.up hst418 rfl)⟩ (.cons rfl (.cons rfl (.cons rfl (.cons rfl .nil))))
           ·rintro O419 wd420 ⟨rfl, hst421⟩
            replace h := flowK_go hk424
            refine (show At _ _ _ [(4, Value.pointer (some ⟨p23, 0, none⟩)), (8, vi nv294), (9, vu v353), (11, Value.pointer (some ⟨p382, 0, none⟩))] _ from ?_)
            refine At.inBlockHit ?_
            exact At.join (σ := Own) O419 ⟨go2 h, (Stp.up hst421 rfl)⟩ (.cons rfl (.cons rfl (.cons rfl (.cons rfl .nil))))
          ·rintro O410 wd411 ⟨rfl, hst412⟩
           replace h := flowK_go hk414
           refine (show At _ _ _ [(4, Value.pointer (some ⟨p23, 0, none⟩)), (8, vi nv294), (9, vu v353), (11, Value.pointer (some ⟨p382, 0, none⟩))] _ from ?_)
           refine At.then ?_
           refine WC.seq ?_
           refine WC.region ?_
           refine WL.y (Y.move rfl) rfl ?_
           refine WL.y (Y.move rfl) rfl ?_
           have hf481 := hb393.st hst412 rfl
           refine WL.y (Y.loadAg ty41 rfl rfl (hf481.cells 0 [(Value.slice p387 m388 c389), vi r366.W.From, vi r366.W.Size] rfl) rfl) rfl ?_
           refine WL.y (Y.build (vals := [(0, vu v353), (1, vi nv294), (2, Value.agg (List.toArray [(Value.slice p387 m388 c389), vi r366.W.From, vi r366.W.Size]))]) (cells := [vu v353, vi nv294, (Value.slice p387 m388 c389), vi r366.W.From, vi r366.W.Size, vi 0]) (Fits.evalp rfl) (by kernel_rfl)) rfl ?_
           have hf482 := hb22.st hst179 rfl
           have hf483 := hf482.st hst181 rfl
           have hf484 := hf483.st hst189 rfl
           have hf485 := hf484.st hst296 rfl
           have hf486 := hf485.st hst339 rfl
           have hf487 := hf486.st hst349 rfl
           have hf488 := hf487.st hst378 rfl
           have hf489 := hf488.st hst385 rfl
           have hf490 := hf489.st hst392 rfl
           have hf491 := hf490.st hst412 rfl
           refine WL.store (v := Value.agg (List.toArray [vu v353, vi nv294, (Value.slice p387 m388 c389), vi r366.W.From, vi r366.W.Size, vi 0])) (cells' := [vu v353, vi nv294, (Value.slice p387 m388 c389), vi r366.W.From, vi r366.W.Size, vi 0]) ty43 rfl rfl hf491 rfl (Nat.le_of_ble_eq_true rfl) rfl rfl ?_
           intro wd492 hst493 hb494
           refine WL.nil ?_
           refine At.then ?_
           refine WC.ret ?_
           obtain rfl := some1 h
           have hs495 : Stp [12, 13, 14] (Lg.O0 A) w O410 wd492 := (Stp.trans (Stp.up hst21 rfl) (Stp.trans (Stp.up hst26 rfl) (Stp.trans (Stp.up hst179 rfl) (Stp.trans (Stp.up hst181 rfl) (Stp.trans (Stp.up hst189 rfl) (Stp.trans (Stp.up hst296 rfl) (Stp.trans (Stp.up hst339 rfl) (Stp.trans (Stp.up hst349 rfl) (Stp.trans (Stp.up hst378 rfl) (Stp.trans (Stp.up hst385 rfl) (Stp.trans (Stp.up hst392 rfl) (Stp.trans (Stp.up hst412 rfl) (Stp.up hst493 rfl)))))))))))))
           have hf496 := hf386.mono (frs_st hst392 rfl)
           have hf497 := hf496.mono (frs_st hst412 rfl)
           have hf498 := hf497.mono (frs_st hst493 rfl)
           exact At.res (.inl rfl) rfl (.cell rfl (hb494.runAg 0 [vu v353, vi nv294, (Value.slice p387 m388 c389), vi r366.W.From, vi r366.W.Size, vi 0] ty43 rfl rfl rfl) .nil) ⟨(Value.slice p387 m388 c389), rfl, (Stp.ext hs495 rfl rfl), (Sl.outF hf498 hs495 low0)⟩

theorem c_bitio_Reader_At {A : Nat → Prop} {v0_0 : Value} {a0 : bitio_Reader} {b0 : Nat} {w : World} (hs0_0 : Sl Rep.b w A v0_0 a0.b) (hb0 : w.heap[b0]? = some (.cells (List.toArray [v0_0, vi a0.n, vi a0.at_]) 58 (0, 0))) (hm0 : A b0) {r0 : Int} (h : bitio_Reader_At a0 = some r0) : Rets Tryd.prog 14 [Value.pointer (some ⟨b0, 0, none⟩)] w (fun v w' => v = vi r0 ∧ Ext w w') := by
 unfold bitio_Reader_At at h
 refine Rets.enter Tryd.func14 rfl rfl ?_
 have hf11 : Sl Rep.b w (imm (Lg.O0 A)) v0_0 a0.b := (Sl.start hs0_0)
 have hb12 : Blk 0 (Lg.O0 A) w b0 58 [v0_0, vi a0.n, vi a0.at_] := ⟨(if_pos hm0), hb0⟩
 refine (show WC _ _ _ _ [(0, Value.pointer (some ⟨b0, 0, none⟩))] _ from ?_)
 refine WC.seq ?_
 refine WC.region ?_
 refine WL.y (Y.assign rfl) rfl ?_
 refine WL.nil ?_
 refine At.then ?_
 refine WC.seq ?_
 refine WC.region ?_
 refine WL.y (Y.move rfl) rfl ?_
 refine WL.y (Y.nilCheck rfl) rfl ?_
 refine WL.y (Y.fieldAddr fo58_2 rfl) rfl ?_
 refine WL.y (Y.loadSc ty3 rfl rfl (hb12.cell 2 _ rfl)) rfl ?_
 refine WL.y (Y.assign rfl) rfl ?_
 refine WL.nil ?_
 refine At.then ?_
 refine WC.ret ?_
 obtain rfl := some1 h
 have hs13 : Stp [] (Lg.O0 A) w (Lg.O0 A) w := (Stp.refl _ _ _)
 exact At.res (.inl rfl) rfl (.tmp rfl .nil) ⟨rfl, (Stp.ext hs13 rfl rfl)⟩

theorem c_bitio_Reader_Left {A : Nat → Prop} {v0_0 : Value} {a0 : bitio_Reader} {b0 : Nat} {w : World} (hs0_0 : Sl Rep.b w A v0_0 a0.b) (hb0 : w.heap[b0]? = some (.cells (List.toArray [v0_0, vi a0.n, vi a0.at_]) 58 (0, 0))) (hm0 : A b0) {r0 : Int} (h : bitio_Reader_Left a0 = some r0) : Rets Tryd.prog 22 [Value.pointer (some ⟨b0, 0, none⟩)] w (fun v w' => v = vi r0 ∧ Ext w w') := by
 unfold bitio_Reader_Left at h
 refine Rets.enter Tryd.func22 rfl rfl ?_
 have hf11 : Sl Rep.b w (imm (Lg.O0 A)) v0_0 a0.b := (Sl.start hs0_0)
 have hb12 : Blk 0 (Lg.O0 A) w b0 58 [v0_0, vi a0.n, vi a0.at_] := ⟨(if_pos hm0), hb0⟩
 refine (show WC _ _ _ _ [(0, Value.pointer (some ⟨b0, 0, none⟩))] _ from ?_)
 refine WC.seq ?_
 refine WC.region ?_
 refine WL.y (Y.assign rfl) rfl ?_
 refine WL.nil ?_
 refine At.then ?_
 refine WC.seq ?_
 refine WC.draw 9 (Lg.O0 A) fmix (by kernel_rfl) ?_
 intro wd13 hst14
 refine WS.y (Y.move rfl) rfl ?_
 refine WS.y (Y.nilCheck rfl) rfl ?_
 refine WS.y (Y.fieldAddr fo58_1 rfl) rfl ?_
 have hf15 := hb12.st hst14 rfl
 refine WS.y (Y.loadSc ty3 rfl rfl (hf15.cell 1 _ rfl)) rfl ?_
 refine WS.y (Y.move rfl) rfl ?_
 refine WS.y (Y.nilCheck rfl) rfl ?_
 refine WS.y (Y.fieldAddr fo58_2 rfl) rfl ?_
 refine WS.y (Y.loadSc ty3 rfl rfl (hf15.cell 2 _ rfl)) rfl ?_
 refine WS.y (Y.sub_i rfl rfl) rfl ?_
 refine WS.tail ?_
 obtain ⟨t16, ht16, h⟩ := lt1 h
 refine WL.yE (Y.assign rfl) (congrArg vi ht16.symm) rfl ?_
 refine WL.nil ?_
 refine At.then ?_
 refine WC.ret ?_
 obtain rfl := some1 h
 have hs17 : Stp [] (Lg.O0 A) w (Lg.O0 A) wd13 := (Stp.up hst14 rfl)
 exact At.res (.inl rfl) rfl (.tmp rfl .nil) ⟨rfl, (Stp.ext hs17 rfl rfl)⟩

theorem c_bitio_Reader_Look {A : Nat → Prop} {v0_0 : Value} {a0 : bitio_Reader} {b0 : Nat} {a1 : Int} {w : World} (hs0_0 : Sl Rep.b w A v0_0 a0.b) (hb0 : w.heap[b0]? = some (.cells (List.toArray [v0_0, vi a0.n, vi a0.at_]) 58 (0, 0))) (hm0 : A b0) {r0 : UInt64} {r1 : Bool} (h : bitio_Reader_Look a0 a1 = some (r0, r1)) : Rets Tryd.prog 44 [Value.pointer (some ⟨b0, 0, none⟩), vi a1] w (fun v w' => v = Value.tuple (List.toArray [vu r0, Value.bool r1]) ∧ Ext w w') := by
 unfold bitio_Reader_Look at h
 refine Rets.enter Tryd.func44 rfl rfl ?_
 have hf11 : Sl Rep.b w (imm (Lg.O0 A)) v0_0 a0.b := (Sl.start hs0_0)
 have hb12 : Blk 0 (Lg.O0 A) w b0 58 [v0_0, vi a0.n, vi a0.at_] := ⟨(if_pos hm0), hb0⟩
 refine (show WC _ _ _ _ [(0, Value.pointer (some ⟨b0, 0, none⟩)), (1, vi a1)] _ from ?_)
 refine WC.seq ?_
 refine WC.region ?_
 refine WL.y (Y.assign (v := vu 0) rfl) rfl ?_
 refine WL.y (Y.assign rfl) rfl ?_
 refine WL.nil ?_
 refine At.then ?_
 refine WC.seq ?_
 refine WC.seq ?_
 refine WC.region ?_
 refine WL.y (Y.move rfl) rfl ?_
 refine WL.y (Y.lss_i rfl rfl) rfl ?_
 refine WL.y (Y.move rfl) rfl ?_
 refine WL.cut 3 (σ := Unit) (fun _ w' => w = w') (fun _ => [(0, Value.pointer (some ⟨b0, 0, none⟩)), (1, vi a1), (16, Value.bool ((decide (a1 < 0)) || (decide (64 < a1))))]) ?_ ?_
 ·refine WL.part 13 rfl (fun hE13 => ?_) (fun hE13 => ?_)
  ·refine WL.gS rfl rfl rfl rfl ?_
   refine WL.gS rfl rfl rfl rfl ?_
   refine WL.y (Y.pick (b := true) rfl rfl) rfl ?_
   refine WL.ren (v' := Value.bool ((decide (a1 < 0)) || (decide (64 < a1)))) 16 rfl (congrArg Value.bool (orT hE13)) ?_
   exact WL.nil (At.join () rfl (.cons rfl (.cons rfl (.cons rfl .nil))))
  ·refine WL.ung rfl rfl ?_
   refine WL.y (Y.move rfl) rfl ?_
   refine WL.ung rfl rfl ?_
   refine WL.y (Y.gtr_i rfl rfl) rfl ?_
   refine WL.y (Y.pick (b := false) rfl rfl) rfl ?_
   refine WL.ren (v' := Value.bool ((decide (a1 < 0)) || (decide (64 < a1)))) 16 rfl (congrArg Value.bool (orF hE13)) ?_
   exact WL.nil (At.join () rfl (.cons rfl (.cons rfl (.cons rfl .nil))))
 ·rintro _ _ rfl
  refine (show WL _ _ _ _ _ [(0, Value.pointer (some ⟨b0, 0, none⟩)), (1, vi a1), (16, Value.bool ((decide (a1 < 0)) || (decide (64 < a1))))] _ from ?_)
  refine WL.y (Y.move rfl) rfl ?_
  obtain ⟨p18, h, hk19⟩ := bnd h
  refine WL.cut 5 (σ := (Bool × Own)) (fun x w' => x.1 = p18 ∧ Stp [] (Lg.O0 A) w x.2 w') (fun x => [(0, Value.pointer (some ⟨b0, 0, none⟩)), (1, vi a1), (22, Value.bool x.1)]) ?_ ?_
  ·rcases cnd h with ⟨hE20, h⟩ | ⟨hE20, h⟩
   ·refine WL.ren 17 rfl (congrArg Value.bool hE20) ?_
    refine WL.gS rfl rfl rfl rfl ?_
    refine WL.gS rfl rfl rfl rfl ?_
    refine WL.gS rfl rfl rfl rfl ?_
    refine WL.gS rfl rfl rfl rfl ?_
    refine WL.y (Y.pick (b := true) rfl rfl) rfl ?_
    exact WL.nil (At.join (σ := (Bool × Own)) (true, (Lg.O0 A)) ⟨some1 h, (Stp.refl _ _ _)⟩ (.cons rfl (.cons rfl (.cons rfl .nil))))
   ·refine WL.ren 17 rfl (congrArg Value.bool hE20) ?_
    refine WL.ung rfl rfl ?_
    refine WL.y (Y.move rfl) rfl ?_
    refine WL.ung rfl rfl ?_
    refine WL.y (Y.move rfl) rfl ?_
    refine WL.ung rfl rfl ?_
    obtain ⟨r21, hp22, h⟩ := bnd h
    refine WL.call (vals := [Value.pointer (some ⟨b0, 0, none⟩)]) kok22 rfl rfl (c_bitio_Reader_Left (A := fun _ => True) (a0 := a0) (Sl.all hf11) hb12.blk trivial hp22) ?_
    rintro vr25 wd24 ⟨rfl, hm23⟩
    obtain ⟨O26, hold27, hnew28, hst29⟩ := adoptE (Lg.O0 A) (fun k => 1) hm23
    refine WL.ung rfl rfl ?_
    refine WL.y (Y.gtr_i rfl rfl) rfl ?_
    refine WL.y (Y.pick (b := false) rfl rfl) rfl ?_
    exact WL.nil (At.join (σ := (Bool × Own)) (decide (r21 < a1), O26) ⟨some1 h, (Stp.up hst29 rfl)⟩ (.cons rfl (.cons rfl (.cons rfl .nil))))
  ·rintro ⟨x14, O15⟩ wd16 ⟨rfl, hst17⟩
   replace h := hk19
   try dsimp only at h hst17
   refine (show WL _ _ _ _ _ [(0, Value.pointer (some ⟨b0, 0, none⟩)), (1, vi a1), (22, Value.bool x14)] _ from ?_)
   refine WL.nil ?_
   refine At.then ?_
   rcases cnd h with ⟨hc30, h⟩ | ⟨hc30, h⟩
   ·refine WC.condT' rfl hc30 ?_
    refine WC.seq ?_
    refine WC.region ?_
    refine WL.y (Y.assign (v := vu 0) rfl) rfl ?_
    refine WL.y (Y.assign rfl) rfl ?_
    refine WL.nil ?_
    refine At.then ?_
    refine WC.ret ?_
    refine At.thenR ?_
    obtain ⟨rfl, rfl⟩ := tup2 h
    have hs31 : Stp [] (Lg.O0 A) w O15 wd16 := (Stp.up hst17 rfl)
    exact At.res (.inl rfl) rfl (.tmp rfl (.tmp rfl .nil)) ⟨rfl, (Stp.ext hs31 rfl rfl)⟩
   ·refine WC.condF' rfl hc30 ?_
    refine WC.skip ?_
    refine At.then ?_
    refine WC.seq ?_
    refine WC.region ?_
    refine WL.y (Y.assign (v := vu 0) rfl) rfl ?_
    refine WL.nil ?_
    refine At.then ?_
    refine WC.seq ?_
    refine WC.seq ?_
    refine WC.region ?_
    refine WL.y (Y.move rfl) rfl ?_
    refine WL.y (Y.nilCheck rfl) rfl ?_
    refine WL.y (Y.fieldAddr fo58_2 rfl) rfl ?_
    have hf32 := hb12.st hst17 rfl
    refine WL.y (Y.loadSc ty3 rfl rfl (hf32.cell 2 _ rfl)) rfl ?_
    refine WL.y (Y.assign rfl) rfl ?_
    refine WL.nil ?_
    refine At.then ?_
    refine WC.block ?_
    obtain ⟨p37, h, hk39⟩ := flow1 h
    obtain ⟨k38, h⟩ := loop_some h
    refine WC.joinB 0 (σ := UInt64) (fun x w' => p37 = .go x ∧ wd16 = w') (fun x => [(6, vu x)]) ?_ ?_
    ·refine WC.loop (σ := (Int × UInt64 × Int)) (fun x k w' => loopN k (bitio_Reader_Look_lp1 a0) (x.1, x.2.1, x.2.2) = some p37 ∧ wd16 = w') (fun x => [(0, Value.pointer (some ⟨b0, 0, none⟩)), (1, vi x.1), (6, vu x.2.1), (7, vi x.2.2)]) (a1, 0, a0.at_) k38 (.cons rfl (.cons rfl (.cons rfl (.cons rfl .nil)))) ⟨h, rfl⟩ ?_
     rintro ⟨nv33, v34, at35⟩ k38 _ ⟨h, rfl⟩
     obtain ⟨j40, q41, rfl, h, hn42⟩ := rnd1 h
     unfold bitio_Reader_Look_lp1 at h
     try dsimp only at h
     refine (show WC _ _ _ _ [(0, Value.pointer (some ⟨b0, 0, none⟩)), (1, vi nv33), (6, vu v34), (7, vi at35)] _ from ?_)
     refine WC.seq ?_
     refine WC.seq ?_
     refine WC.region ?_
     refine WL.y (Y.move rfl) rfl ?_
     refine WL.y (Y.gtr_i rfl rfl) rfl ?_
     refine WL.nil ?_
     refine At.then ?_
     rcases cnd h with ⟨hc43, h⟩ | ⟨hc43, h⟩
     ·refine WC.condT' rfl hc43 ?_
      refine WC.skip ?_
      refine At.then ?_
      refine WC.block ?_
      refine WC.seq ?_
      refine WC.region ?_
      refine WL.y (Y.move rfl) rfl ?_
      refine WL.y (Y.rem_i (by decide) rfl rfl) rfl ?_
      refine WL.y (Y.sub_i rfl rfl) rfl ?_
      obtain ⟨free44, hfree44, h⟩ := lt1 h
      refine WL.yE (Y.assign rfl) (congrArg vi hfree44.symm) rfl ?_
      refine WL.nil ?_
      refine At.then ?_
      refine WC.seq ?_
      refine WC.region ?_
      refine WL.y (Y.move rfl) rfl ?_
      refine WL.y (Y.move rfl) rfl ?_
      refine WL.y (Y.min_i rfl rfl) rfl ?_
      obtain ⟨k45, hk45, h⟩ := lt1 h
      refine WL.yE (Y.assign rfl) (congrArg vi hk45.symm) rfl ?_
      refine WL.nil ?_
      refine At.then ?_
      refine WC.seq ?_
      refine WC.region ?_
      refine WL.y (Y.move rfl) rfl ?_
      refine WL.y (Y.nilCheck rfl) rfl ?_
      refine WL.y (Y.fieldAddr fo58_0 rfl) rfl ?_
      refine WL.y (Y.loadSc ty27 rfl rfl (hf32.cell 0 _ rfl)) rfl ?_
      refine WL.y (Y.move rfl) rfl ?_
      refine WL.y (Y.quo_i (by decide) rfl rfl) rfl ?_
      obtain ⟨e46, he46, h⟩ := bnd h
      have hf55 := hf11.mono (imm_st hst17 rfl rfl)
      obtain ⟨b47, off56, cap54, cs53, hv48, hi49, hl50, hc51, hok52, hA57⟩ := Sl.at2 hf55 he46
      obtain rfl := hok52
      replace hc51 : CellsAt _ _ _ [vb e46] := hc51
      have hca58 := CAt.imm hc51 hA57
      refine WL.y (Y.indexAddr ty27 ty5 rfl hv48 rfl hi49 hl50) rfl ?_
      refine WL.y (Y.loadSc ty5 rfl rfl hca58.at_) rfl ?_
      refine WL.y (Y.move rfl) rfl ?_
      refine WL.y (Y.move rfl) rfl ?_
      refine WL.y (Y.sub_i rfl rfl) rfl ?_
      refine WL.y (Y.conv_iu ty3.u ty55.u rfl) rfl ?_
      refine WL.y (Y.shr_bu rfl rfl) rfl ?_
      refine WL.y (Y.move rfl) rfl ?_
      refine WL.y (Y.conv_iu ty3.u ty55.u rfl) rfl ?_
      refine WL.y (Y.shl_bu (a := 1) rfl rfl) rfl ?_
      refine WL.y (Y.sub_b (b := 1) rfl rfl) rfl ?_
      refine WL.y (Y.and_b rfl rfl) rfl ?_
      obtain ⟨piece59, hpiece59, h⟩ := lt1 h
      refine WL.yE (Y.assign rfl) (congrArg vb hpiece59.symm) rfl ?_
      refine WL.nil ?_
      refine At.then ?_
      refine WC.seq ?_
      refine WC.region ?_
      refine WL.y (Y.move rfl) rfl ?_
      refine WL.y (Y.move rfl) rfl ?_
      refine WL.y (Y.conv_iu ty3.u ty55.u rfl) rfl ?_
      refine WL.y (Y.shl_uu rfl rfl) rfl ?_
      refine WL.y (Y.move rfl) rfl ?_
      refine WL.y (Y.conv_bu ty5.u ty23.u rfl) rfl ?_
      refine WL.y (Y.or_u rfl rfl) rfl ?_
      obtain ⟨v60, hv60, h⟩ := lt1 h
      refine WL.yE (Y.assign rfl) (congrArg vu hv60.symm) rfl ?_
      refine WL.nil ?_
      refine At.then ?_
      refine WC.seq ?_
      refine WC.region ?_
      refine WL.y (Y.move rfl) rfl ?_
      refine WL.y (Y.move rfl) rfl ?_
      refine WL.y (Y.add_i rfl rfl) rfl ?_
      obtain ⟨at61, hat61, h⟩ := lt1 h
      refine WL.yE (Y.assign rfl) (congrArg vi hat61.symm) rfl ?_
      refine WL.nil ?_
      refine At.then ?_
      refine WC.region ?_
      refine WL.y (Y.move rfl) rfl ?_
      refine WL.y (Y.move rfl) rfl ?_
      refine WL.y (Y.sub_i rfl rfl) rfl ?_
      obtain ⟨nv62, hnv62, h⟩ := lt1 h
      refine WL.yE (Y.assign rfl) (congrArg vi hnv62.symm) rfl ?_
      refine WL.nil ?_
      refine At.inBlock ?_
      exact At.round (nv62, v60, at61) j40 (Nat.lt_succ_self _) ⟨next1 h hn42, rfl⟩ (.cons rfl (.cons rfl (.cons rfl (.cons rfl .nil))))
     ·refine WC.condF' rfl hc43 ?_
      refine WC.exit ?_
      refine At.thenX ?_
      refine At.loopX ?_
      exact At.hitB (σ := UInt64) v34 ⟨brk1 h hn42, rfl⟩ (.cons rfl .nil)
    ·rintro v36 _ ⟨rfl, rfl⟩
     replace h := flowK_go hk39
     try dsimp only at h
     refine (show At _ _ _ [(6, vu v36)] _ from ?_)
     refine At.inBlockHit ?_
     refine At.then ?_
     refine WC.seq ?_
     refine WC.region ?_
     refine WL.y (Y.move rfl) rfl ?_
     refine WL.y (Y.assign rfl) rfl ?_
     refine WL.y (Y.assign rfl) rfl ?_
     refine WL.nil ?_
     refine At.then ?_
     refine WC.ret ?_
     obtain ⟨rfl, rfl⟩ := tup2 h
     have hs63 : Stp [] (Lg.O0 A) w O15 wd16 := (Stp.up hst17 rfl)
     exact At.res (.inl rfl) rfl (.tmp rfl (.tmp rfl .nil)) ⟨rfl, (Stp.ext hs63 rfl rfl)⟩

theorem c_bitio_Reader_Take {A : Nat → Prop} {v0_0 : Value} {a0 : bitio_Reader} {b0 : Nat} {a1 : Int} {w : World} (hs0_0 : Sl Rep.b w A v0_0 a0.b) (hb0 : w.heap[b0]? = some (.cells (List.toArray [v0_0, vi a0.n, vi a0.at_]) 58 (0, 0))) (hA : ∀ k, A k → k ≠ b0) {r0 : UInt64} {r1 : Bool} {q0 : bitio_Reader} (h : bitio_Reader_Take a0 a1 = some (r0, r1, q0)) : Rets Tryd.prog 42 [Value.pointer (some ⟨b0, 0, none⟩), vi a1] w (fun v w' => ∃ (z0_0 : Value), v = Value.tuple (List.toArray [vu r0, Value.bool r1]) ∧ Mod (fun k => k = b0) w w' ∧ Sl Rep.b w' (fun k => A k ∨ w.heap.size ≤ k) z0_0 q0.b ∧ w'.heap[b0]? = some (.cells (List.toArray [z0_0, vi q0.n, vi q0.at_]) 58 (0, 0))) := by
 unfold bitio_Reader_Take at h
 refine Rets.enter Tryd.func42 rfl rfl ?_
 have hf11 : Sl Rep.b w (imm (Lg.OB b0 3 (Lg.O0 A))) v0_0 a0.b := (Sl.OB (Sl.start hs0_0) (fun k hk => (hA k (O0_A k hk))))
 have hb12 : Blk 3 (Lg.OB b0 3 (Lg.O0 A)) w b0 58 [v0_0, vi a0.n, vi a0.at_] := ⟨(if_pos rfl), hb0⟩
 refine (show WC _ _ _ _ [(0, Value.pointer (some ⟨b0, 0, none⟩)), (1, vi a1)] _ from ?_)
 refine WC.seq ?_
 refine WC.region ?_
 refine WL.y (Y.assign (v := vu 0) rfl) rfl ?_
 refine WL.y (Y.assign rfl) rfl ?_
 refine WL.nil ?_
 refine At.then ?_
 refine WC.seq ?_
 refine WC.region ?_
 refine WL.y (Y.move rfl) rfl ?_
 refine WL.y (Y.move rfl) rfl ?_
 obtain ⟨⟨r13, r14⟩, hp15, h⟩ := bnd h
 refine WL.call (vals := [Value.pointer (some ⟨b0, 0, none⟩), vi a1]) kok44 rfl rfl (c_bitio_Reader_Look (A := fun _ => True) (a0 := a0) (Sl.all hf11) hb12.blk trivial hp15) ?_
 rintro vr18 wd17 ⟨rfl, hm16⟩
 obtain ⟨O19, hold20, hnew21, hst22⟩ := adoptE (Lg.OB b0 3 (Lg.O0 A)) (fun k => 1) hm16
 refine WL.y (Y.move rfl) rfl ?_
 refine WL.y (Y.extract rfl rfl) rfl ?_
 refine WL.y (Y.extract rfl rfl) rfl ?_
 refine WL.y (Y.assign rfl) rfl ?_
 refine WL.y (Y.assign rfl) rfl ?_
 refine WL.nil ?_
 refine At.then ?_
 refine WC.seq ?_
 refine WC.seq ?_
 refine WC.region ?_
 refine WL.y (Y.move rfl) rfl ?_
 refine WL.nil ?_
 refine At.then ?_
 rcases cnd h with ⟨hc23, h⟩ | ⟨hc23, h⟩
 ·refine WC.condT' rfl hc23 ?_
  refine WC.region ?_
  refine WL.y (Y.move rfl) rfl ?_
  refine WL.y (Y.nilCheck rfl) rfl ?_
  refine WL.y (Y.fieldAddr fo58_2 rfl) rfl ?_
  have hf24 := hb12.st hst22 rfl
  refine WL.y (Y.loadSc ty3 rfl rfl (hf24.cell 2 _ rfl)) rfl ?_
  refine WL.y (Y.move rfl) rfl ?_
  refine WL.y (Y.add_i rfl rfl) rfl ?_
  refine WL.y (Y.nilCheck rfl) rfl ?_
  refine WL.y (Y.fieldAddr fo58_2 rfl) rfl ?_
  obtain ⟨t25, ht25, h⟩ := lt1 h
  refine WL.ren 20 rfl (congrArg vi ht25.symm) ?_
  refine WL.store (v := vi t25) (cells' := [v0_0, vi a0.n, vi t25]) ty3 rfl rfl hf24 rfl (Nat.le_of_ble_eq_true rfl) rfl rfl ?_
  intro wd26 hst27 hb28
  refine WL.nil ?_
  refine At.then ?_
  refine WC.seq ?_
  refine WC.region ?_
  refine WL.y (Y.move rfl) rfl ?_
  refine WL.y (Y.move rfl) rfl ?_
  refine WL.y (Y.assign rfl) rfl ?_
  refine WL.y (Y.assign rfl) rfl ?_
  refine WL.nil ?_
  refine At.then ?_
  refine WC.ret ?_
  obtain ⟨rfl, rfl, rfl⟩ := tup3 h
  have hs29 : Stp [3] (Lg.OB b0 3 (Lg.O0 A)) w O19 wd26 := (Stp.trans (Stp.up hst22 rfl) (Stp.up hst27 rfl))
  have hf30 := hf11.mono (imm_st hst22 rfl rfl)
  have hf31 := hf30.mono (imm_st hst27 rfl rfl)
  exact At.res (.inl rfl) rfl (.tmp rfl (.tmp rfl .nil)) ⟨v0_0, rfl, (Stp.modL hs29 sB1 rfl rfl), (Sl.outI hf31 hs29 (lowB low0 rfl rfl) (aB O0_A rfl)), hb28.blk⟩
 ·refine WC.condF' rfl hc23 ?_
  refine WC.skip ?_
  refine At.then ?_
  refine WC.seq ?_
  refine WC.region ?_
  refine WL.y (Y.move rfl) rfl ?_
  refine WL.y (Y.move rfl) rfl ?_
  refine WL.y (Y.assign rfl) rfl ?_
  refine WL.y (Y.assign rfl) rfl ?_
  refine WL.nil ?_
  refine At.then ?_
  refine WC.ret ?_
  obtain ⟨rfl, rfl, rfl⟩ := tup3 h
  have hs32 : Stp [] (Lg.OB b0 3 (Lg.O0 A)) w O19 wd17 := (Stp.up hst22 rfl)
  have hf33 := hb12.st hst22 rfl
  have hf34 := hf11.mono (imm_st hst22 rfl rfl)
  exact At.res (.inl rfl) rfl (.tmp rfl (.tmp rfl .nil)) ⟨v0_0, rfl, (Stp.modL hs32 sB1 rfl rfl), (Sl.outI hf34 hs32 (lowB low0 rfl rfl) (aB O0_A rfl)), hf33.blk⟩

theorem c_bitio_Reader_Skip {A : Nat → Prop} {v0_0 : Value} {a0 : bitio_Reader} {b0 : Nat} {a1 : Int} {w : World} (hs0_0 : Sl Rep.b w A v0_0 a0.b) (hb0 : w.heap[b0]? = some (.cells (List.toArray [v0_0, vi a0.n, vi a0.at_]) 58 (0, 0))) (hA : ∀ k, A k → k ≠ b0) {r0 : Bool} {q0 : bitio_Reader} (h : bitio_Reader_Skip a0 a1 = some (r0, q0)) : Rets Tryd.prog 29 [Value.pointer (some ⟨b0, 0, none⟩), vi a1] w (fun v w' => ∃ (z0_0 : Value), v = Value.bool r0 ∧ Mod (fun k => k = b0) w w' ∧ Sl Rep.b w' (fun k => A k ∨ w.heap.size ≤ k) z0_0 q0.b ∧ w'.heap[b0]? = some (.cells (List.toArray [z0_0, vi q0.n, vi q0.at_]) 58 (0, 0))) := by
 unfold bitio_Reader_Skip at h
 refine Rets.enter Tryd.func29 rfl rfl ?_
 have hf11 : Sl Rep.b w (imm (Lg.OB b0 3 (Lg.O0 A))) v0_0 a0.b := (Sl.OB (Sl.start hs0_0) (fun k hk => (hA k (O0_A k hk))))
 have hb12 : Blk 3 (Lg.OB b0 3 (Lg.O0 A)) w b0 58 [v0_0, vi a0.n, vi a0.at_] := ⟨(if_pos rfl), hb0⟩
 refine (show WC _ _ _ _ [(0, Value.pointer (some ⟨b0, 0, none⟩)), (1, vi a1)] _ from ?_)
 refine WC.seq ?_
 refine WC.region ?_
 refine WL.y (Y.assign rfl) rfl ?_
 refine WL.nil ?_
 refine At.then ?_
 refine WC.seq ?_
 refine WC.seq ?_
 refine WC.region ?_
 refine WL.y (Y.move rfl) rfl ?_
 refine WL.y (Y.lss_i rfl rfl) rfl ?_
 refine WL.y (Y.move rfl) rfl ?_
 obtain ⟨p17, h, hk18⟩ := bnd h
 refine WL.cut 5 (σ := (Bool × Own)) (fun x w' => x.1 = p17 ∧ Stp [] (Lg.OB b0 3 (Lg.O0 A)) w x.2 w') (fun x => [(0, Value.pointer (some ⟨b0, 0, none⟩)), (1, vi a1), (12, Value.bool x.1)]) ?_ ?_
 ·rcases cnd h with ⟨hE19, h⟩ | ⟨hE19, h⟩
  ·refine WL.ren 7 rfl (congrArg Value.bool hE19) ?_
   refine WL.gS rfl rfl rfl rfl ?_
   refine WL.gS rfl rfl rfl rfl ?_
   refine WL.gS rfl rfl rfl rfl ?_
   refine WL.gS rfl rfl rfl rfl ?_
   refine WL.y (Y.pick (b := true) rfl rfl) rfl ?_
   exact WL.nil (At.join (σ := (Bool × Own)) (true, (Lg.OB b0 3 (Lg.O0 A))) ⟨some1 h, (Stp.refl _ _ _)⟩ (.cons rfl (.cons rfl (.cons rfl .nil))))
  ·refine WL.ren 7 rfl (congrArg Value.bool hE19) ?_
   refine WL.ung rfl rfl ?_
   refine WL.y (Y.move rfl) rfl ?_
   refine WL.ung rfl rfl ?_
   refine WL.y (Y.move rfl) rfl ?_
   refine WL.ung rfl rfl ?_
   obtain ⟨r20, hp21, h⟩ := bnd h
   refine WL.call (vals := [Value.pointer (some ⟨b0, 0, none⟩)]) kok22 rfl rfl (c_bitio_Reader_Left (A := fun _ => True) (a0 := a0) (Sl.all hf11) hb12.blk trivial hp21) ?_
   rintro vr24 wd23 ⟨rfl, hm22⟩
   obtain ⟨O25, hold26, hnew27, hst28⟩ := adoptE (Lg.OB b0 3 (Lg.O0 A)) (fun k => 1) hm22
   refine WL.ung rfl rfl ?_
   refine WL.y (Y.gtr_i rfl rfl) rfl ?_
   refine WL.y (Y.pick (b := false) rfl rfl) rfl ?_
   exact WL.nil (At.join (σ := (Bool × Own)) (decide (r20 < a1), O25) ⟨some1 h, (Stp.up hst28 rfl)⟩ (.cons rfl (.cons rfl (.cons rfl .nil))))
 ·rintro ⟨x13, O14⟩ wd15 ⟨rfl, hst16⟩
  replace h := hk18
  try dsimp only at h hst16
  refine (show WL _ _ _ _ _ [(0, Value.pointer (some ⟨b0, 0, none⟩)), (1, vi a1), (12, Value.bool x13)] _ from ?_)
  refine WL.nil ?_
  refine At.then ?_
  rcases cnd h with ⟨hc29, h⟩ | ⟨hc29, h⟩
  ·refine WC.condT' rfl hc29 ?_
   refine WC.seq ?_
   refine WC.region ?_
   refine WL.y (Y.assign rfl) rfl ?_
   refine WL.nil ?_
   refine At.then ?_
   refine WC.ret ?_
   refine At.thenR ?_
   obtain ⟨rfl, rfl⟩ := tup2 h
   have hs30 : Stp [] (Lg.OB b0 3 (Lg.O0 A)) w O14 wd15 := (Stp.up hst16 rfl)
   have hf31 := hb12.st hst16 rfl
   have hf32 := hf11.mono (imm_st hst16 rfl rfl)
   exact At.res (.inl rfl) rfl (.tmp rfl .nil) ⟨v0_0, rfl, (Stp.modL hs30 sB1 rfl rfl), (Sl.outI hf32 hs30 (lowB low0 rfl rfl) (aB O0_A rfl)), hf31.blk⟩
  ·refine WC.condF' rfl hc29 ?_
   refine WC.skip ?_
   refine At.then ?_
   refine WC.seq ?_
   refine WC.region ?_
   refine WL.y (Y.move rfl) rfl ?_
   refine WL.y (Y.nilCheck rfl) rfl ?_
   refine WL.y (Y.fieldAddr fo58_2 rfl) rfl ?_
   have hf33 := hb12.st hst16 rfl
   refine WL.y (Y.loadSc ty3 rfl rfl (hf33.cell 2 _ rfl)) rfl ?_
   refine WL.y (Y.move rfl) rfl ?_
   refine WL.y (Y.add_i rfl rfl) rfl ?_
   refine WL.y (Y.nilCheck rfl) rfl ?_
   refine WL.y (Y.fieldAddr fo58_2 rfl) rfl ?_
   obtain ⟨t34, ht34, h⟩ := lt1 h
   refine WL.ren 18 rfl (congrArg vi ht34.symm) ?_
   refine WL.store (v := vi t34) (cells' := [v0_0, vi a0.n, vi t34]) ty3 rfl rfl hf33 rfl (Nat.le_of_ble_eq_true rfl) rfl rfl ?_
   intro wd35 hst36 hb37
   refine WL.nil ?_
   refine At.then ?_
   refine WC.seq ?_
   refine WC.region ?_
   refine WL.y (Y.assign rfl) rfl ?_
   refine WL.nil ?_
   refine At.then ?_
   refine WC.ret ?_
   obtain ⟨rfl, rfl⟩ := tup2 h
   have hs38 : Stp [3] (Lg.OB b0 3 (Lg.O0 A)) w O14 wd35 := (Stp.trans (Stp.up hst16 rfl) (Stp.up hst36 rfl))
   have hf39 := hf11.mono (imm_st hst16 rfl rfl)
   have hf40 := hf39.mono (imm_st hst36 rfl rfl)
   exact At.res (.inl rfl) rfl (.tmp rfl .nil) ⟨v0_0, rfl, (Stp.modL hs38 sB1 rfl rfl), (Sl.outI hf40 hs38 (lowB low0 rfl rfl) (aB O0_A rfl)), hb37.blk⟩

end Go.Lg
