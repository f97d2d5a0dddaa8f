/- The walks of XorSame and of what it calls, printed by gen.py. -/
import Derived.Test.YtddfmahlbbbljaaDoorLgXorP
import Derived.Test.YtddfmahlbbbljaaDoorProg
set_option linter.unusedVariables false
namespace Go.Lg
open Go Go.Proofs
set_option maxRecDepth 100000
set_option maxHeartbeats 4000000
theorem fmix : Tryd.prog.follows .mixedOrders = true := by kernel_rfl
theorem ty3 : TyOk Tryd.prog 3 (.int .i64) 1 8 (.int .i64 0) := tyOk Tryd.underlying3 (by kernel_rfl)
theorem ty5 : TyOk Tryd.prog 5 (.int .u8) 1 1 (.int .u8 0) := tyOk Tryd.underlying5 (by kernel_rfl)
theorem ty9 : TyOk Tryd.prog 9 .string 1 16 (.string ⟨#[]⟩) := tyOk Tryd.underlying9 (by kernel_rfl)
theorem ty22 : TyOk Tryd.prog 22 (.slice 23) 1 24 (.slice none 0 0) := tyOk Tryd.underlying22 (by kernel_rfl)
theorem ty23 : TyOk Tryd.prog 23 (.int .u64) 1 8 (.int .u64 0) := tyOk Tryd.underlying23 (by kernel_rfl)
theorem ty27 : TyOk Tryd.prog 27 (.slice 5) 1 24 (.slice none 0 0) := tyOk Tryd.underlying27 (by kernel_rfl)
theorem ty34 : TyOk Tryd.prog 34 (.pointer 62) 1 8 (.pointer none) := tyOk Tryd.underlying34 (by kernel_rfl)
theorem ty36 : TyOk Tryd.prog 36 (.pointer 64) 1 8 (.pointer none) := tyOk Tryd.underlying36 (by kernel_rfl)
theorem ty55 : TyOk Tryd.prog 55 (.int .u64) 1 8 (.int .u64 0) := tyOk Tryd.underlying55 (by kernel_rfl)
theorem ty60 : TyOk Tryd.prog 60 (.struct #[(Field.mk "ahead" 3 0 false "" "limnograph/xor" 0), (Field.mk "size" 3 1 false "" "limnograph/xor" 8)]) 2 16 (.agg #[(.int .i64 0), (.int .i64 0)]) := tyOk Tryd.underlying60 (by kernel_rfl)
theorem ty84 : TyOk Tryd.prog 84 (.array 64 5) 64 64 (.agg #[(.int .u8 0), (.int .u8 0), (.int .u8 0), (.int .u8 0), (.int .u8 0), (.int .u8 0), (.int .u8 0), (.int .u8 0), (.int .u8 0), (.int .u8 0), (.int .u8 0), (.int .u8 0), (.int .u8 0), (.int .u8 0), (.int .u8 0), (.int .u8 0), (.int .u8 0), (.int .u8 0), (.int .u8 0), (.int .u8 0), (.int .u8 0), (.int .u8 0), (.int .u8 0), (.int .u8 0), (.int .u8 0), (.int .u8 0), (.int .u8 0), (.int .u8 0), (.int .u8 0), (.int .u8 0), (.int .u8 0), (.int .u8 0), (.int .u8 0), (.int .u8 0), (.int .u8 0), (.int .u8 0), (.int .u8 0), (.int .u8 0), (.int .u8 0), (.int .u8 0), (.int .u8 0), (.int .u8 0), (.int .u8 0), (.int .u8 0), (.int .u8 0), (.int .u8 0), (.int .u8 0), (.int .u8 0), (.int .u8 0), (.int .u8 0), (.int .u8 0), (.int .u8 0), (.int .u8 0), (.int .u8 0), (.int .u8 0), (.int .u8 0), (.int .u8 0), (.int .u8 0), (.int .u8 0), (.int .u8 0), (.int .u8 0), (.int .u8 0), (.int .u8 0), (.int .u8 0)]) := tyOk Tryd.underlying84 (by kernel_rfl)
theorem fo60_0 : FieldOk Tryd.prog 60 0 0 := fieldOk Tryd.underlying60 rfl rfl (by kernel_rfl)
theorem fo60_1 : FieldOk Tryd.prog 60 1 1 := fieldOk Tryd.underlying60 rfl rfl (by kernel_rfl)
theorem fo62_0 : FieldOk Tryd.prog 62 0 0 := fieldOk Tryd.underlying62 rfl rfl (by kernel_rfl)
theorem fo62_1 : FieldOk Tryd.prog 62 1 1 := fieldOk Tryd.underlying62 rfl rfl (by kernel_rfl)
theorem fo62_2 : FieldOk Tryd.prog 62 2 2 := fieldOk Tryd.underlying62 rfl rfl (by kernel_rfl)
theorem fo64_0 : FieldOk Tryd.prog 64 0 0 := fieldOk Tryd.underlying64 rfl rfl (by kernel_rfl)
theorem fo64_1 : FieldOk Tryd.prog 64 1 1 := fieldOk Tryd.underlying64 rfl rfl (by kernel_rfl)
theorem agok60 : AgOk Tryd.prog 60 #[(Field.mk "ahead" 3 0 false "" "limnograph/xor" 0), (Field.mk "size" 3 1 false "" "limnograph/xor" 8)] := ⟨Tryd.underlying60, by kernel_rfl, by kernel_rfl⟩
theorem kok6 : CallOk Tryd.prog 6 := callOk Tryd.func6 (by kernel_rfl) rfl
theorem kok7 : CallOk Tryd.prog 7 := callOk Tryd.func7 (by kernel_rfl) rfl
theorem kok10 : CallOk Tryd.prog 10 := callOk Tryd.func10 (by kernel_rfl) rfl
theorem kok11 : CallOk Tryd.prog 11 := callOk Tryd.func11 (by kernel_rfl) rfl
theorem kok15 : CallOk Tryd.prog 15 := callOk Tryd.func15 (by kernel_rfl) rfl
theorem kok16 : CallOk Tryd.prog 16 := callOk Tryd.func16 (by kernel_rfl) rfl
theorem kok17 : CallOk Tryd.prog 17 := callOk Tryd.func17 (by kernel_rfl) rfl
theorem kok30 : CallOk Tryd.prog 30 := callOk Tryd.func30 (by kernel_rfl) rfl
theorem kok31 : CallOk Tryd.prog 31 := callOk Tryd.func31 (by kernel_rfl) rfl
theorem kok32 : CallOk Tryd.prog 32 := callOk Tryd.func32 (by kernel_rfl) rfl
theorem kok33 : CallOk Tryd.prog 33 := callOk Tryd.func33 (by kernel_rfl) rfl
theorem kok39 : CallOk Tryd.prog 39 := callOk Tryd.func39 (by kernel_rfl) rfl
theorem kok40 : CallOk Tryd.prog 40 := callOk Tryd.func40 (by kernel_rfl) rfl
theorem kok41 : CallOk Tryd.prog 41 := callOk Tryd.func41 (by kernel_rfl) rfl
theorem kok43 : CallOk Tryd.prog 43 := callOk Tryd.func43 (by kernel_rfl) rfl

theorem c_xor_NewRow {w : World} {r0 : xor_Row} (h : xor_NewRow = some r0) : Rets Tryd.prog 10 [] w (fun v w' => ∃ (p0 : Nat), v = Value.pointer (some ⟨p0, 0, none⟩) ∧ Ext w w' ∧ (w'.heap[p0]? = some (.cells (List.toArray [vi r0.n, vu r0.last, vi r0.win.ahead, vi r0.win.size]) 62 (0, 0)) ∧ w.heap.size ≤ p0)) := by
 unfold xor_NewRow at h
 refine Rets.enter Tryd.func10 rfl rfl ?_
 refine (show WC _ _ _ _ [] _ from ?_)
 refine WC.seq ?_
 refine WC.region ?_
 refine WL.y (Y.assign rfl) rfl ?_
 refine WL.nil ?_
 refine At.then ?_
 refine WC.seq ?_
 refine WC.region ?_
 refine WL.y (Y.build (vals := []) (cells := [vi 0, vu 0, vi 0, vi 0]) (Fits.evalp rfl) (by kernel_rfl)) rfl ?_
 refine WL.box (O := (Lg.O0 (fun _ => False))) 11 [vi 0, vu 0, vi 0, vi 0] rfl rfl rfl ?_
 intro p12 O13 wd14 hst15 hb11
 refine WL.y (Y.assign rfl) rfl ?_
 refine WL.nil ?_
 refine At.then ?_
 refine WC.ret ?_
 obtain rfl := some1 h
 have hs16 : Stp [] (Lg.O0 (fun _ => False)) w O13 wd14 := (Stp.up hst15 rfl)
 exact At.res (.inl rfl) rfl (.tmp rfl .nil) ⟨p12, rfl, (Stp.ext hs16 rfl rfl), (Blk.outF hb11 hs16 low0 rfl)⟩

theorem c_bitio_NewWriter {w : World} {r0 : bitio_Writer} (h : bitio_NewWriter = some r0) : Rets Tryd.prog 11 [] w (fun v w' => ∃ (p0 : Nat) (u0_0 : Value), v = Value.pointer (some ⟨p0, 0, none⟩) ∧ Ext w w' ∧ (w'.heap[p0]? = some (.cells (List.toArray [u0_0, vi r0.n]) 64 (0, 0)) ∧ w.heap.size ≤ p0) ∧ RowF Rep.b 5 w w' u0_0 r0.b ∧ Value.ownBlock u0_0 ≠ some p0) := by
 unfold bitio_NewWriter at h
 refine Rets.enter Tryd.func11 rfl rfl ?_
 refine (show WC _ _ _ _ [] _ from ?_)
 refine WC.seq ?_
 refine WC.region ?_
 refine WL.y (Y.assign rfl) rfl ?_
 refine WL.nil ?_
 refine At.then ?_
 refine WC.seq ?_
 refine WC.region ?_
 refine WL.y (Y.build (vals := []) (cells := [Value.slice none 0 0, vi 0]) (Fits.evalp rfl) (by kernel_rfl)) rfl ?_
 refine WL.box (O := (Lg.O0 (fun _ => False))) 11 [Value.slice none 0 0, vi 0] rfl rfl rfl ?_
 intro p12 O13 wd14 hst15 hb11
 refine WL.y (Y.assign rfl) rfl ?_
 refine WL.nil ?_
 refine At.then ?_
 refine WC.ret ?_
 obtain rfl := some1 h
 have hs16 : Stp [] (Lg.O0 (fun _ => False)) w O13 wd14 := (Stp.up hst15 rfl)
 exact At.res (.inl rfl) rfl (.tmp rfl .nil) ⟨p12, Value.slice none 0 0, rfl, (Stp.ext hs16 rfl rfl), (Blk.outF hb11 hs16 low0 rfl), RowF.nil, not_nil⟩

theorem c_bitio_Writer_room {A : Nat → Prop} {v0_0 : Value} {a0 : bitio_Writer} {b0 : Nat} {w : World} (hs0_0 : Sl Rep.b w A v0_0 a0.b) (hb0 : w.heap[b0]? = some (.cells (List.toArray [v0_0, vi a0.n]) 64 (0, 0))) (hm0 : A b0) {r0 : Int} (h : bitio_Writer_room a0 = some r0) : Rets Tryd.prog 39 [Value.pointer (some ⟨b0, 0, none⟩)] w (fun v w' => v = vi r0 ∧ Ext w w') := by
 unfold bitio_Writer_room at h
 refine Rets.enter Tryd.func39 rfl rfl ?_
 have hf11 : Sl Rep.b w (imm (Lg.O0 A)) v0_0 a0.b := (Sl.start hs0_0)
 have hb12 : Blk 0 (Lg.O0 A) w b0 64 [v0_0, vi a0.n] := ⟨(if_pos hm0), hb0⟩
 refine (show WC _ _ _ _ [(0, Value.pointer (some ⟨b0, 0, none⟩))] _ from ?_)
 refine WC.seq ?_
 refine WC.region ?_
 refine WL.y (Y.assign rfl) rfl ?_
 refine WL.nil ?_
 refine At.then ?_
 refine WC.seq ?_
 refine WC.draw 11 (Lg.O0 A) fmix (by kernel_rfl) ?_
 intro wd13 hst14
 refine WS.y (Y.move rfl) rfl ?_
 refine WS.y (Y.nilCheck rfl) rfl ?_
 refine WS.y (Y.fieldAddr fo64_0 rfl) rfl ?_
 have hf15 := hb12.st hst14 rfl
 refine WS.y (Y.loadSc ty27 rfl rfl (hf15.cell 0 _ rfl)) rfl ?_
 have hf16 := hf11.mono (imm_st hst14 rfl rfl)
 refine WS.y (Y.len ty27 rfl hf16) rfl ?_
 refine WS.y (Y.mul_i rfl rfl) rfl ?_
 refine WS.y (Y.move rfl) rfl ?_
 refine WS.y (Y.nilCheck rfl) rfl ?_
 refine WS.y (Y.fieldAddr fo64_1 rfl) rfl ?_
 refine WS.y (Y.loadSc ty3 rfl rfl (hf15.cell 1 _ rfl)) rfl ?_
 refine WS.y (Y.sub_i rfl rfl) rfl ?_
 refine WS.tail ?_
 obtain ⟨t17, ht17, h⟩ := lt1 h
 refine WL.yE (Y.assign rfl) (congrArg vi ht17.symm) rfl ?_
 refine WL.nil ?_
 refine At.then ?_
 refine WC.ret ?_
 obtain rfl := some1 h
 have hs18 : Stp [] (Lg.O0 A) w (Lg.O0 A) wd13 := (Stp.up hst14 rfl)
 exact At.res (.inl rfl) rfl (.tmp rfl .nil) ⟨rfl, (Stp.ext hs18 rfl rfl)⟩

theorem c_bitio_Writer_Put {v0_0 : Value} {a0 : bitio_Writer} {b0 : Nat} {a1 : UInt64} {a2 : Int} {w : World} (hs0_0 : Row Rep.b 5 w v0_0 a0.b) (hb0 : w.heap[b0]? = some (.cells (List.toArray [v0_0, vi a0.n]) 64 (0, 0))) (hne0_1 : Value.ownBlock v0_0 ≠ some b0) {r0 : Bool} {q0 : bitio_Writer} (h : bitio_Writer_Put a0 a1 a2 = some (r0, q0)) : Rets Tryd.prog 30 [Value.pointer (some ⟨b0, 0, none⟩), vu a1, vi a2] w (fun v w' => ∃ (z0_0 : Value), v = Value.bool r0 ∧ Mod (fun k => k = b0 ∨ Value.ownBlock v0_0 = some k) w w' ∧ RowG Rep.b 5 w w' v0_0 z0_0 q0.b ∧ w'.heap[b0]? = some (.cells (List.toArray [z0_0, vi q0.n]) 64 (0, 0))) := by
 unfold bitio_Writer_Put at h
 refine Rets.enter Tryd.func30 rfl rfl ?_
 have ho11 : OwnSl 4 Rep.b 5 (Lg.OB b0 3 (Lg.OV v0_0 4 (Lg.O0 (fun _ => False)))) w v0_0 a0.b := Row.start Flat.b hs0_0 (fun k hk => ((if_neg (fun (e : k = b0) => hne0_1 (e ▸ hk))).trans (if_pos hk)))
 have hb12 : Blk 3 (Lg.OB b0 3 (Lg.OV v0_0 4 (Lg.O0 (fun _ => False)))) w b0 64 [v0_0, vi a0.n] := ⟨(if_pos rfl), hb0⟩
 refine (show WC _ _ _ _ [(0, Value.pointer (some ⟨b0, 0, none⟩)), (1, vu a1), (2, vi a2)] _ from ?_)
 refine WC.seq ?_
 refine WC.region ?_
 refine WL.y (Y.assign rfl) rfl ?_
 refine WL.nil ?_
 refine At.then ?_
 refine WC.seq ?_
 refine WC.seq ?_
 refine WC.region ?_
 refine WL.y (Y.move rfl) rfl ?_
 refine WL.y (Y.lss_i rfl rfl) rfl ?_
 refine WL.y (Y.move rfl) rfl ?_
 refine WL.cut 3 (σ := Unit) (fun _ w' => w = w') (fun _ => [(0, Value.pointer (some ⟨b0, 0, none⟩)), (1, vu a1), (2, vi a2), (15, Value.bool ((decide (a2 < 0)) || (decide (64 < a2))))]) ?_ ?_
 ·refine WL.part 12 rfl (fun hE13 => ?_) (fun hE13 => ?_)
  ·refine WL.gS rfl rfl rfl rfl ?_
   refine WL.gS rfl rfl rfl rfl ?_
   refine WL.y (Y.pick (b := true) rfl rfl) rfl ?_
   refine WL.ren (v' := Value.bool ((decide (a2 < 0)) || (decide (64 < a2)))) 15 rfl (congrArg Value.bool (orT hE13)) ?_
   exact WL.nil (At.join () rfl (.cons rfl (.cons rfl (.cons rfl (.cons rfl .nil)))))
  ·refine WL.ung rfl rfl ?_
   refine WL.y (Y.move rfl) rfl ?_
   refine WL.ung rfl rfl ?_
   refine WL.y (Y.gtr_i rfl rfl) rfl ?_
   refine WL.y (Y.pick (b := false) rfl rfl) rfl ?_
   refine WL.ren (v' := Value.bool ((decide (a2 < 0)) || (decide (64 < a2)))) 15 rfl (congrArg Value.bool (orF hE13)) ?_
   exact WL.nil (At.join () rfl (.cons rfl (.cons rfl (.cons rfl (.cons rfl .nil)))))
 ·rintro _ _ rfl
  refine (show WL _ _ _ _ _ [(0, Value.pointer (some ⟨b0, 0, none⟩)), (1, vu a1), (2, vi a2), (15, Value.bool ((decide (a2 < 0)) || (decide (64 < a2))))] _ from ?_)
  refine WL.y (Y.move rfl) rfl ?_
  refine WL.cut 10 (σ := Unit) (fun _ w' => w = w') (fun _ => [(0, Value.pointer (some ⟨b0, 0, none⟩)), (1, vu a1), (2, vi a2), (26, Value.bool (((decide (a2 < 0)) || (decide (64 < a2))) || ((decide (a2 < 64)) && (!decide (shrU a1 ((toU64 a2).toNat) = 0)))))]) ?_ ?_
  ·refine WL.part 16 rfl (fun hE14 => ?_) (fun hE14 => ?_)
   ·refine WL.gS rfl rfl rfl rfl ?_
    refine WL.gS rfl rfl rfl rfl ?_
    refine WL.gS rfl rfl rfl rfl ?_
    refine WL.gS rfl rfl rfl rfl ?_
    refine WL.gS rfl rfl rfl rfl ?_
    refine WL.gS rfl rfl rfl rfl ?_
    refine WL.gS rfl rfl rfl rfl ?_
    refine WL.gS rfl rfl rfl rfl ?_
    refine WL.gS rfl rfl rfl rfl ?_
    refine WL.y (Y.pick (b := true) rfl rfl) rfl ?_
    refine WL.ren (v' := Value.bool (((decide (a2 < 0)) || (decide (64 < a2))) || ((decide (a2 < 64)) && (!decide (shrU a1 ((toU64 a2).toNat) = 0))))) 26 rfl (congrArg Value.bool (orT hE14)) ?_
    exact WL.nil (At.join () rfl (.cons rfl (.cons rfl (.cons rfl (.cons rfl .nil)))))
   ·refine WL.ung rfl rfl ?_
    refine WL.y (Y.move rfl) rfl ?_
    refine WL.ung rfl rfl ?_
    refine WL.y (Y.lss_i rfl rfl) rfl ?_
    refine WL.ung rfl rfl ?_
    refine WL.y (Y.move rfl) rfl ?_
    refine WL.cut 6 (σ := Unit) (fun _ w' => w = w') (fun _ => [(0, Value.pointer (some ⟨b0, 0, none⟩)), (1, vu a1), (2, vi a2), (16, Value.bool false), (25, Value.bool ((decide (a2 < 64)) && (!decide (shrU a1 ((toU64 a2).toNat) = 0))))]) ?_ ?_
    ·refine WL.part 19 rfl (fun hE15 => ?_) (fun hE15 => ?_)
     ·refine WL.ung rfl rfl ?_
      refine WL.y (Y.move rfl) rfl ?_
      refine WL.ung rfl rfl ?_
      refine WL.y (Y.move rfl) rfl ?_
      refine WL.ung rfl rfl ?_
      refine WL.y (Y.conv_iu ty3.u ty55.u rfl) rfl ?_
      refine WL.ung rfl rfl ?_
      refine WL.y (Y.shr_uu rfl rfl) rfl ?_
      refine WL.ung rfl rfl ?_
      refine WL.y (Y.neq_u (b := 0) rfl rfl) rfl ?_
      refine WL.ung rfl rfl ?_
      refine WL.y (Y.pick (b := true) rfl rfl) rfl ?_
      refine WL.ren (v' := Value.bool ((decide (a2 < 64)) && (!decide (shrU a1 ((toU64 a2).toNat) = 0)))) 25 rfl (congrArg Value.bool (andT hE15)) ?_
      exact WL.nil (At.join () rfl (.cons rfl (.cons rfl (.cons rfl (.cons rfl (.cons rfl .nil))))))
     ·refine WL.gS rfl rfl rfl rfl ?_
      refine WL.gS rfl rfl rfl rfl ?_
      refine WL.gS rfl rfl rfl rfl ?_
      refine WL.gS rfl rfl rfl rfl ?_
      refine WL.gS rfl rfl rfl rfl ?_
      refine WL.ung rfl rfl ?_
      refine WL.y (Y.pick (b := false) rfl rfl) rfl ?_
      refine WL.ren (v' := Value.bool ((decide (a2 < 64)) && (!decide (shrU a1 ((toU64 a2).toNat) = 0)))) 25 rfl (congrArg Value.bool (andF hE15)) ?_
      exact WL.nil (At.join () rfl (.cons rfl (.cons rfl (.cons rfl (.cons rfl (.cons rfl .nil))))))
    ·rintro _ _ rfl
     refine (show WL _ _ _ _ _ [(0, Value.pointer (some ⟨b0, 0, none⟩)), (1, vu a1), (2, vi a2), (16, Value.bool false), (25, Value.bool ((decide (a2 < 64)) && (!decide (shrU a1 ((toU64 a2).toNat) = 0))))] _ from ?_)
     refine WL.y (Y.pick (b := false) rfl rfl) rfl ?_
     refine WL.ren (v' := Value.bool (((decide (a2 < 0)) || (decide (64 < a2))) || ((decide (a2 < 64)) && (!decide (shrU a1 ((toU64 a2).toNat) = 0))))) 26 rfl (congrArg Value.bool (orF hE14)) ?_
     exact WL.nil (At.join () rfl (.cons rfl (.cons rfl (.cons rfl (.cons rfl .nil)))))
  ·rintro _ _ rfl
   refine (show WL _ _ _ _ _ [(0, Value.pointer (some ⟨b0, 0, none⟩)), (1, vu a1), (2, vi a2), (26, Value.bool (((decide (a2 < 0)) || (decide (64 < a2))) || ((decide (a2 < 64)) && (!decide (shrU a1 ((toU64 a2).toNat) = 0)))))] _ from ?_)
   refine WL.nil ?_
   refine At.then ?_
   rcases cnd h with ⟨hc16, h⟩ | ⟨hc16, h⟩
   ·refine WC.condT' rfl hc16 ?_
    refine WC.seq ?_
    refine WC.region ?_
    refine WL.y (Y.assign rfl) rfl ?_
    refine WL.nil ?_
    refine At.then ?_
    refine WC.ret ?_
    refine At.thenR ?_
    obtain ⟨rfl, rfl⟩ := tup2 h
    have hs17 : Stp [] (Lg.OB b0 3 (Lg.OV v0_0 4 (Lg.O0 (fun _ => False)))) w (Lg.OB b0 3 (Lg.OV v0_0 4 (Lg.O0 (fun _ => False)))) w := (Stp.refl _ _ _)
    exact At.res (.inl rfl) rfl (.tmp rfl .nil) ⟨v0_0, rfl, (Stp.modL hs17 (sB sV1) rfl rfl), (OwnSl.outG ho11 hs17 (lowB (lowV low0 rfl rfl) rfl rfl) (lsB (lbV (ln0 rfl)) rfl)), hb12.blk⟩
   ·refine WC.condF' rfl hc16 ?_
    refine WC.skip ?_
    refine At.then ?_
    refine WC.seq ?_
    refine WC.block ?_
    obtain ⟨p35, h, hk37⟩ := flow1 h
    obtain ⟨k36, h⟩ := loop_some h
    refine WC.joinB 0 (σ := (List UInt8 × Int × Own × Value)) (fun x w' => p35 = .go (x.1, x.2.1) ∧ Stp [3, 4] (Lg.OB b0 3 (Lg.OV v0_0 4 (Lg.O0 (fun _ => False)))) w x.2.2.1 w' ∧ OwnSl 4 Rep.b 5 x.2.2.1 w' x.2.2.2 x.1 ∧ Blk 3 x.2.2.1 w' b0 64 [x.2.2.2, vi x.2.1]) (fun x => []) ?_ ?_
    ·refine WC.loop (σ := (List UInt8 × Int × Int × Own × Value)) (fun x k w' => loopN k (bitio_Writer_Put_lp1 a1) (x.1, x.2.1, x.2.2.1) = some p35 ∧ Stp [3, 4] (Lg.OB b0 3 (Lg.OV v0_0 4 (Lg.O0 (fun _ => False)))) w x.2.2.2.1 w' ∧ OwnSl 4 Rep.b 5 x.2.2.2.1 w' x.2.2.2.2 x.1 ∧ Blk 3 x.2.2.2.1 w' b0 64 [x.2.2.2.2, vi x.2.1]) (fun x => [(0, Value.pointer (some ⟨b0, 0, none⟩)), (1, vu a1), (2, vi x.2.2.1)]) (a0.b, a0.n, a2, (Lg.OB b0 3 (Lg.OV v0_0 4 (Lg.O0 (fun _ => False)))), v0_0) k36 (.cons rfl (.cons rfl (.cons rfl .nil))) ⟨h, (Stp.refl _ _ _), ho11, hb12⟩ ?_
     rintro ⟨c19, c22, nv23, O24, v20⟩ k36 wd25 ⟨h, hst26, hf21, hb18⟩
     obtain ⟨j38, q39, rfl, h, hn40⟩ := rnd1 h
     unfold bitio_Writer_Put_lp1 at h
     try dsimp only at h hst26 hf21 hb18
     refine (show WC _ _ _ _ [(0, Value.pointer (some ⟨b0, 0, none⟩)), (1, vu a1), (2, vi nv23)] _ from ?_)
     refine WC.seq ?_
     refine WC.seq ?_
     refine WC.region ?_
     refine WL.y (Y.move rfl) rfl ?_
     refine WL.y (Y.gtr_i rfl rfl) rfl ?_
     refine WL.nil ?_
     refine At.then ?_
     rcases cnd h with ⟨hc41, h⟩ | ⟨hc41, h⟩
     ·refine WC.condT' rfl hc41 ?_
      refine WC.skip ?_
      refine At.then ?_
      obtain ⟨p51, h, hk52⟩ := bnd h
      refine WC.join (σ := (List UInt8 × Int × Int × Own × Value)) (fun x w' => (x.1, x.2.1, x.2.2.1) = p51 ∧ Stp [3, 4] O24 wd25 x.2.2.2.1 w' ∧ OwnSl 4 Rep.b 5 x.2.2.2.1 w' x.2.2.2.2 x.1 ∧ Blk 3 x.2.2.2.1 w' b0 64 [x.2.2.2.2, vi x.2.1]) (fun x => [(0, Value.pointer (some ⟨b0, 0, none⟩)), (1, vu a1), (2, vi x.2.2.1)]) ?_ ?_
      ·refine WC.block ?_
       refine WC.seq ?_
       obtain ⟨p60, h, hk61⟩ := bnd h
       refine WC.join (σ := (List UInt8 × Own × Value)) (fun x w' => x.1 = p60 ∧ Stp [3, 4] O24 wd25 x.2.1 w' ∧ OwnSl 4 Rep.b 5 x.2.1 w' x.2.2 x.1 ∧ Blk 3 x.2.1 w' b0 64 [x.2.2, vi c22]) (fun x => [(0, Value.pointer (some ⟨b0, 0, none⟩)), (1, vu a1), (2, vi nv23)]) ?_ ?_
       ·refine WC.seq ?_
        refine WC.region ?_
        refine WL.y (Y.move rfl) rfl ?_
        obtain ⟨r62, hp63, h⟩ := bnd h
        refine WL.call (vals := [Value.pointer (some ⟨b0, 0, none⟩)]) kok39 rfl rfl (c_bitio_Writer_room (A := fun _ => True) (a0 := (bitio_Writer.mk c19 c22)) (hf21.src.sl) hb18.blk trivial hp63) ?_
        rintro vr66 wd65 ⟨rfl, hm64⟩
        obtain ⟨O67, hold68, hnew69, hst70⟩ := adoptE O24 (fun k => 1) hm64
        refine WL.y (Y.eql_i rfl rfl) rfl ?_
        refine WL.nil ?_
        refine At.then ?_
        rcases cnd h with ⟨hc71, h⟩ | ⟨hc71, h⟩
        ·refine WC.condT' rfl hc71 ?_
         refine WC.region ?_
         refine WL.y (Y.move rfl) rfl ?_
         refine WL.y (Y.move rfl) rfl ?_
         refine WL.y (Y.nilCheck rfl) rfl ?_
         refine WL.y (Y.fieldAddr fo64_0 rfl) rfl ?_
         have hf72 := hb18.st hst70 rfl
         refine WL.y (Y.loadSc ty27 rfl rfl (hf72.cell 0 _ rfl)) rfl ?_
         refine WL.buildSlice (O := O67) (R := Rep.b) (vals := [(0, vb 0)]) 11 [vb 0] (xs := [0]) (by decide) ty27 ty5 (by decide) (by decide) (Fits.evalp rfl) (by kernel_rfl) rfl ⟨[vb 0], [], rfl, rfl, rfl⟩ rfl ?_
         intro v73 O75 wd76 hst77 ho74
         obtain ⟨xs78, hxs78, h⟩ := bnd h
         have hf79 := hf21.st hst70 rfl rfl rfl
         have hf80 := hf79.st hst77 rfl rfl rfl
         refine WL.append (by decide) ty27 ty5 rfl (by decide) rfl rfl hf80 ho74.src hxs78 rfl ?_
         intro v84 O81 wd82 hst83 ho85
         refine WL.y (Y.nilCheck rfl) rfl ?_
         refine WL.y (Y.fieldAddr fo64_0 rfl) rfl ?_
         have hh89 := h
         obtain ⟨p86, m87, c88, rfl⟩ := ho85.shape
         have h := hh89
         have hf90 := hf72.st hst77 rfl
         have hf91 := hf90.st hst83 rfl
         refine WL.store (v := (Value.slice p86 m87 c88)) (cells' := [(Value.slice p86 m87 c88), vi c22]) ty27 rfl rfl hf91 rfl (Nat.le_of_ble_eq_true rfl) rfl rfl ?_
         intro wd92 hst93 hb94
         refine WL.nil ?_
         have hf95 := ho85.st hst93 rfl rfl rfl
         exact At.join (σ := (List UInt8 × Own × Value)) (xs78, O81, (Value.slice p86 m87 c88)) ⟨some1 h, (Stp.trans (Stp.up hst70 rfl) (Stp.trans (Stp.up hst77 rfl) (Stp.trans (Stp.up hst83 rfl) (Stp.up hst93 rfl)))), hf95, hb94⟩ (.cons rfl (.cons rfl (.cons rfl .nil)))
        ·refine WC.condF' rfl hc71 ?_
         refine WC.skip ?_
         have hf96 := hf21.st hst70 rfl rfl rfl
         have hf97 := hb18.st hst70 rfl
         exact At.join (σ := (List UInt8 × Own × Value)) (c19, O67, v20) ⟨some1 h, (Stp.up hst70 rfl), hf96, hf97⟩ (.cons rfl (.cons rfl (.cons rfl .nil)))
       ·rintro ⟨c54, O57, v55⟩ wd58 ⟨rfl, hst59, hf56, hb53⟩
        replace h := hk61
        try dsimp only at h hst59 hf56 hb53
        refine (show At _ _ _ [(0, Value.pointer (some ⟨b0, 0, none⟩)), (1, vu a1), (2, vi nv23)] _ from ?_)
        refine At.then ?_
        refine WC.seq ?_
        refine WC.region ?_
        refine WL.y (Y.move rfl) rfl ?_
        obtain ⟨r98, hp99, h⟩ := bnd h
        refine WL.call (vals := [Value.pointer (some ⟨b0, 0, none⟩)]) kok39 rfl rfl (c_bitio_Writer_room (A := fun _ => True) (a0 := (bitio_Writer.mk c54 c22)) (hf56.src.sl) hb53.blk trivial hp99) ?_
        rintro vr102 wd101 ⟨rfl, hm100⟩
        obtain ⟨O103, hold104, hnew105, hst106⟩ := adoptE O57 (fun k => 1) hm100
        refine WL.y (Y.assign rfl) rfl ?_
        refine WL.nil ?_
        refine At.then ?_
        refine WC.seq ?_
        refine WC.region ?_
        refine WL.y (Y.move rfl) rfl ?_
        refine WL.y (Y.move rfl) rfl ?_
        refine WL.y (Y.min_i rfl rfl) rfl ?_
        obtain ⟨k107, hk107, h⟩ := lt1 h
        refine WL.yE (Y.assign rfl) (congrArg vi hk107.symm) rfl ?_
        refine WL.nil ?_
        refine At.then ?_
        refine WC.seq ?_
        refine WC.region ?_
        refine WL.y (Y.move rfl) rfl ?_
        refine WL.y (Y.move rfl) rfl ?_
        refine WL.y (Y.move rfl) rfl ?_
        refine WL.y (Y.sub_i rfl rfl) rfl ?_
        refine WL.y (Y.conv_iu ty3.u ty55.u rfl) rfl ?_
        refine WL.y (Y.shr_uu rfl rfl) rfl ?_
        obtain ⟨piece108, hpiece108, h⟩ := lt1 h
        refine WL.yE (Y.assign rfl) (congrArg vu hpiece108.symm) rfl ?_
        refine WL.nil ?_
        refine At.then ?_
        refine WC.seq ?_
        obtain ⟨p110, h, hk111⟩ := bnd h
        refine WC.join (σ := UInt64) (fun x w' => x = p110 ∧ wd101 = w') (fun x => [(0, Value.pointer (some ⟨b0, 0, none⟩)), (1, vu a1), (2, vi nv23), (7, vi r98), (8, vi k107), (9, vu x)]) ?_ ?_
        ·refine WC.seq ?_
         refine WC.region ?_
         refine WL.y (Y.move rfl) rfl ?_
         refine WL.y (Y.lss_i rfl rfl) rfl ?_
         refine WL.nil ?_
         refine At.then ?_
         rcases cnd h with ⟨hc112, h⟩ | ⟨hc112, h⟩
         ·refine WC.condT' rfl hc112 ?_
          refine WC.region ?_
          refine WL.y (Y.move rfl) rfl ?_
          refine WL.y (Y.move rfl) rfl ?_
          refine WL.y (Y.conv_iu ty3.u ty55.u rfl) rfl ?_
          refine WL.y (Y.shl_uu (a := 1) rfl rfl) rfl ?_
          refine WL.y (Y.sub_u (b := 1) rfl rfl) rfl ?_
          refine WL.y (Y.and_u rfl rfl) rfl ?_
          obtain ⟨piece113, hpiece113, h⟩ := lt1 h
          refine WL.yE (Y.assign rfl) (congrArg vu hpiece113.symm) rfl ?_
          refine WL.nil ?_
          exact At.join (σ := UInt64) piece113 ⟨some1 h, rfl⟩ (.cons rfl (.cons rfl (.cons rfl (.cons rfl (.cons rfl (.cons rfl .nil))))))
         ·refine WC.condF' rfl hc112 ?_
          refine WC.skip ?_
          exact At.join (σ := UInt64) piece108 ⟨some1 h, rfl⟩ (.cons rfl (.cons rfl (.cons rfl (.cons rfl (.cons rfl (.cons rfl .nil))))))
        ·rintro piece109 _ ⟨rfl, rfl⟩
         replace h := hk111
         try dsimp only at h
         refine (show At _ _ _ [(0, Value.pointer (some ⟨b0, 0, none⟩)), (1, vu a1), (2, vi nv23), (7, vi r98), (8, vi k107), (9, vu piece109)] _ from ?_)
         refine At.then ?_
         refine WC.seq ?_
         refine WC.draw 21 O103 fmix (by kernel_rfl) ?_
         intro wd114 hst115
         refine WS.y (Y.move rfl) rfl ?_
         refine WS.y (Y.nilCheck rfl) rfl ?_
         refine WS.y (Y.fieldAddr fo64_0 rfl) rfl ?_
         have hf116 := hb53.st hst106 rfl
         have hf117 := hf116.st hst115 rfl
         refine WS.y (Y.loadSc ty27 rfl rfl (hf117.cell 0 _ rfl)) rfl ?_
         refine WS.y (Y.move rfl) rfl ?_
         refine WS.y (Y.nilCheck rfl) rfl ?_
         refine WS.y (Y.fieldAddr fo64_0 rfl) rfl ?_
         refine WS.y (Y.loadSc ty27 rfl rfl (hf117.cell 0 _ rfl)) rfl ?_
         have hf118 := hf56.st hst106 rfl rfl rfl
         have hf119 := hf118.st hst115 rfl rfl rfl
         refine WS.y (Y.len ty27 rfl hf119.src.sl) rfl ?_
         refine WS.y (Y.sub_i rfl rfl) rfl ?_
         obtain ⟨e120, he120, h⟩ := bnd h
         obtain ⟨b121, cap128, cs127, hv122, hi123, hl124, hc125, hok126⟩ := OwnSl.at hf119 he120
         obtain rfl := hok126
         replace hc125 : CellsAt _ _ _ [vb e120] := hc125
         have hca129 := CAt.own hf119 hv122 hc125
         refine WS.y (Y.indexAddr ty27 ty5 rfl hv122 rfl hi123 hl124) rfl ?_
         refine WS.y (Y.loadSc ty5 rfl rfl hca129.at_) rfl ?_
         refine WS.y (Y.move rfl) rfl ?_
         refine WS.y (Y.move rfl) rfl ?_
         refine WS.y (Y.move rfl) rfl ?_
         refine WS.y (Y.sub_i rfl rfl) rfl ?_
         refine WS.y (Y.conv_iu ty3.u ty55.u rfl) rfl ?_
         refine WS.y (Y.shl_uu rfl rfl) rfl ?_
         refine WS.y (Y.conv_ub ty23.u ty5.u rfl) rfl ?_
         refine WS.y (Y.or_b rfl rfl) rfl ?_
         obtain ⟨e130, he130, h⟩ := bnd h
         obtain ⟨b131, cap138, cs137, hv132, hi133, hl134, hc135, hok136⟩ := OwnSl.at hf119 he130
         obtain rfl := hok136
         replace hc135 : CellsAt _ _ _ [vb e130] := hc135
         have hca139 := CAt.own hf119 hv132 hc135
         refine WS.y (Y.indexAddr ty27 ty5 rfl hv132 rfl hi133 hl134) rfl ?_
         refine WS.tail ?_
         obtain ⟨t140, ht140, h⟩ := lt1 h
         refine WL.ren 79 rfl (congrArg vb ht140.symm) ?_
         obtain ⟨xs141, hxs141, h⟩ := bnd h
         refine WL.storeOwn (by decide) ty5 rfl rfl rfl hf119 hv132 hxs141 ?_
         intro wd142 hst143 ho144
         refine WL.nil ?_
         refine At.then ?_
         refine WC.seq ?_
         refine WC.region ?_
         refine WL.y (Y.move rfl) rfl ?_
         refine WL.y (Y.nilCheck rfl) rfl ?_
         refine WL.y (Y.fieldAddr fo64_1 rfl) rfl ?_
         have hf145 := hf117.st hst143 rfl
         refine WL.y (Y.loadSc ty3 rfl rfl (hf145.cell 1 _ rfl)) rfl ?_
         refine WL.y (Y.move rfl) rfl ?_
         refine WL.y (Y.add_i rfl rfl) rfl ?_
         refine WL.y (Y.nilCheck rfl) rfl ?_
         refine WL.y (Y.fieldAddr fo64_1 rfl) rfl ?_
         obtain ⟨t146, ht146, h⟩ := lt1 h
         refine WL.ren 86 rfl (congrArg vi ht146.symm) ?_
         refine WL.store (v := vi t146) (cells' := [v55, vi t146]) ty3 rfl rfl hf145 rfl (Nat.le_of_ble_eq_true rfl) rfl rfl ?_
         intro wd147 hst148 hb149
         refine WL.nil ?_
         refine At.then ?_
         refine WC.region ?_
         refine WL.y (Y.move rfl) rfl ?_
         refine WL.y (Y.move rfl) rfl ?_
         refine WL.y (Y.sub_i rfl rfl) rfl ?_
         obtain ⟨nv150, hnv150, h⟩ := lt1 h
         refine WL.yE (Y.assign rfl) (congrArg vi hnv150.symm) rfl ?_
         refine WL.nil ?_
         refine At.inBlock ?_
         have hf151 := ho144.st hst148 rfl rfl rfl
         exact At.join (σ := (List UInt8 × Int × Int × Own × Value)) (xs141, t146, nv150, O103, v55) ⟨some1 h, (Stp.trans (Stp.up hst59 rfl) (Stp.trans (Stp.up hst106 rfl) (Stp.trans (Stp.up hst115 rfl) (Stp.trans (Stp.up hst143 rfl) (Stp.up hst148 rfl))))), hf151, hb149⟩ (.cons rfl (.cons rfl (.cons rfl .nil)))
      ·rintro ⟨c43, c46, nv47, O48, v44⟩ wd49 ⟨rfl, hst50, hf45, hb42⟩
       replace h := hk52
       try dsimp only at h hst50 hf45 hb42
       refine (show At _ _ _ [(0, Value.pointer (some ⟨b0, 0, none⟩)), (1, vu a1), (2, vi nv47)] _ from ?_)
       exact At.round (c43, c46, nv47, O48, v44) j38 (Nat.lt_succ_self _) ⟨next1 h hn40, (Stp.trans (Stp.up hst26 rfl) (Stp.up hst50 rfl)), hf45, hb42⟩ (.cons rfl (.cons rfl (.cons rfl .nil)))
     ·refine WC.condF' rfl hc41 ?_
      refine WC.exit ?_
      refine At.thenX ?_
      refine At.loopX ?_
      exact At.hitB (σ := (List UInt8 × Int × Own × Value)) (c19, c22, O24, v20) ⟨brk1 h hn40, (Stp.up hst26 rfl), hf21, hb18⟩ .nil
    ·rintro ⟨c28, c31, O32, v29⟩ wd33 ⟨rfl, hst34, hf30, hb27⟩
     replace h := flowK_go hk37
     try dsimp only at h hst34 hf30 hb27
     refine (show At _ _ _ [] _ from ?_)
     refine At.inBlockHit ?_
     refine At.then ?_
     refine WC.seq ?_
     refine WC.region ?_
     refine WL.y (Y.assign rfl) rfl ?_
     refine WL.nil ?_
     refine At.then ?_
     refine WC.ret ?_
     obtain ⟨rfl, rfl⟩ := tup2 h
     have hs152 : Stp [3, 4] (Lg.OB b0 3 (Lg.OV v0_0 4 (Lg.O0 (fun _ => False)))) w O32 wd33 := (Stp.up hst34 rfl)
     exact At.res (.inl rfl) rfl (.tmp rfl .nil) ⟨v29, rfl, (Stp.modL hs152 (sB sV1) rfl rfl), (OwnSl.outG hf30 hs152 (lowB (lowV low0 rfl rfl) rfl rfl) (lsB (lbV (ln0 rfl)) rfl)), hb27.blk⟩

theorem c_xor_window_behind {a0 : xor_window} {w : World} {r0 : Int} (h : xor_window_behind a0 = some r0) : Rets Tryd.prog 32 [Value.agg (List.toArray [vi a0.ahead, vi a0.size])] w (fun v w' => v = vi r0 ∧ Ext w w') := by
 unfold xor_window_behind at h
 refine Rets.enter Tryd.func32 rfl rfl ?_
 refine (show WC _ _ _ _ [(0, Value.agg (List.toArray [vi a0.ahead, vi a0.size]))] _ from ?_)
 refine WC.seq ?_
 refine WC.region ?_
 refine WL.box (O := (Lg.O0 (fun _ => False))) 11 [vi a0.ahead, vi a0.size] rfl rfl rfl ?_
 intro p12 O13 wd14 hst15 hb11
 refine WL.y (Y.assign rfl) rfl ?_
 refine WL.nil ?_
 refine At.then ?_
 refine WC.seq ?_
 refine WC.region ?_
 refine WL.y (Y.fieldAddr fo60_0 rfl) rfl ?_
 refine WL.y (Y.loadSc ty3 rfl rfl (hb11.cell 0 _ rfl)) rfl ?_
 refine WL.y (Y.sub_i rfl rfl) rfl ?_
 refine WL.y (Y.fieldAddr fo60_1 rfl) rfl ?_
 refine WL.y (Y.loadSc ty3 rfl rfl (hb11.cell 1 _ rfl)) rfl ?_
 refine WL.y (Y.sub_i rfl rfl) rfl ?_
 obtain ⟨t16, ht16, h⟩ := lt1 h
 refine WL.yE (Y.assign rfl) (congrArg vi ht16.symm) rfl ?_
 refine WL.nil ?_
 refine At.then ?_
 refine WC.ret ?_
 obtain rfl := some1 h
 have hs17 : Stp [] (Lg.O0 (fun _ => False)) w O13 wd14 := (Stp.up hst15 rfl)
 exact At.res (.inl rfl) rfl (.tmp rfl .nil) ⟨rfl, (Stp.ext hs17 rfl rfl)⟩

theorem c_math_bits_Len64 {a0 : UInt64} {w : World} {r0 : Int} (h : math_bits_Len64 a0 = some r0) : Rets Tryd.prog 43 [vu a0] w (fun v w' => v = vi r0 ∧ Ext w w') := by
 unfold math_bits_Len64 at h
 refine Rets.enter Tryd.func43 rfl rfl ?_
 refine (show WC _ _ _ _ [(0, vu a0)] _ from ?_)
 refine WC.seq ?_
 refine WC.region ?_
 refine WL.y (Y.assign rfl) rfl ?_
 refine WL.nil ?_
 refine At.then ?_
 refine WC.seq ?_
 obtain ⟨p13, h, hk14⟩ := bnd h
 refine WC.join (σ := (UInt64 × Int)) (fun x w' => (x.1, x.2) = p13 ∧ w = w') (fun x => [(0, vu x.1), (2, vi x.2)]) ?_ ?_
 ·refine WC.seq ?_
  refine WC.region ?_
  refine WL.y (Y.move rfl) rfl ?_
  refine WL.y (Y.geq_u (b := 4294967296) rfl rfl) rfl ?_
  refine WL.nil ?_
  refine At.then ?_
  rcases cnd h with ⟨hc15, h⟩ | ⟨hc15, h⟩
  ·refine WC.condT' rfl hc15 ?_
   refine WC.seq ?_
   refine WC.region ?_
   refine WL.y (Y.move rfl) rfl ?_
   refine WL.y (Y.shr_uu (m := 32) rfl rfl) rfl ?_
   obtain ⟨x16, hx16, h⟩ := lt1 h
   refine WL.yE (Y.assign rfl) (congrArg vu hx16.symm) rfl ?_
   refine WL.nil ?_
   refine At.then ?_
   refine WC.region ?_
   refine WL.y (Y.assign rfl) rfl ?_
   refine WL.nil ?_
   exact At.join (σ := (UInt64 × Int)) (x16, 32) ⟨some1 h, rfl⟩ (.cons rfl (.cons rfl .nil))
  ·refine WC.condF' rfl hc15 ?_
   refine WC.skip ?_
   exact At.join (σ := (UInt64 × Int)) (a0, 0) ⟨some1 h, rfl⟩ (.cons rfl (.cons rfl .nil))
 ·rintro ⟨x11, nv12⟩ _ ⟨rfl, rfl⟩
  replace h := hk14
  try dsimp only at h
  refine (show At _ _ _ [(0, vu x11), (2, vi nv12)] _ from ?_)
  refine At.then ?_
  refine WC.seq ?_
  obtain ⟨p19, h, hk20⟩ := bnd h
  refine WC.join (σ := (UInt64 × Int)) (fun x w' => (x.1, x.2) = p19 ∧ w = w') (fun x => [(0, vu x.1), (2, vi x.2)]) ?_ ?_
  ·refine WC.seq ?_
   refine WC.region ?_
   refine WL.y (Y.move rfl) rfl ?_
   refine WL.y (Y.geq_u (b := 65536) rfl rfl) rfl ?_
   refine WL.nil ?_
   refine At.then ?_
   rcases cnd h with ⟨hc21, h⟩ | ⟨hc21, h⟩
   ·refine WC.condT' rfl hc21 ?_
    refine WC.seq ?_
    refine WC.region ?_
    refine WL.y (Y.move rfl) rfl ?_
    refine WL.y (Y.shr_uu (m := 16) rfl rfl) rfl ?_
    obtain ⟨x22, hx22, h⟩ := lt1 h
    refine WL.yE (Y.assign rfl) (congrArg vu hx22.symm) rfl ?_
    refine WL.nil ?_
    refine At.then ?_
    refine WC.region ?_
    refine WL.y (Y.move rfl) rfl ?_
    refine WL.y (Y.add_i rfl rfl) rfl ?_
    obtain ⟨nv23, hnv23, h⟩ := lt1 h
    refine WL.yE (Y.assign rfl) (congrArg vi hnv23.symm) rfl ?_
    refine WL.nil ?_
    exact At.join (σ := (UInt64 × Int)) (x22, nv23) ⟨some1 h, rfl⟩ (.cons rfl (.cons rfl .nil))
   ·refine WC.condF' rfl hc21 ?_
    refine WC.skip ?_
    exact At.join (σ := (UInt64 × Int)) (x11, nv12) ⟨some1 h, rfl⟩ (.cons rfl (.cons rfl .nil))
  ·rintro ⟨x17, nv18⟩ _ ⟨rfl, rfl⟩
   replace h := hk20
   try dsimp only at h
   refine (show At _ _ _ [(0, vu x17), (2, vi nv18)] _ from ?_)
   refine At.then ?_
   refine WC.seq ?_
   obtain ⟨p26, h, hk27⟩ := bnd h
   refine WC.join (σ := (UInt64 × Int)) (fun x w' => (x.1, x.2) = p26 ∧ w = w') (fun x => [(0, vu x.1), (2, vi x.2)]) ?_ ?_
   ·refine WC.seq ?_
    refine WC.region ?_
    refine WL.y (Y.move rfl) rfl ?_
    refine WL.y (Y.geq_u (b := 256) rfl rfl) rfl ?_
    refine WL.nil ?_
    refine At.then ?_
    rcases cnd h with ⟨hc28, h⟩ | ⟨hc28, h⟩
    ·refine WC.condT' rfl hc28 ?_
     refine WC.seq ?_
     refine WC.region ?_
     refine WL.y (Y.move rfl) rfl ?_
     refine WL.y (Y.shr_uu (m := 8) rfl rfl) rfl ?_
     obtain ⟨x29, hx29, h⟩ := lt1 h
     refine WL.yE (Y.assign rfl) (congrArg vu hx29.symm) rfl ?_
     refine WL.nil ?_
     refine At.then ?_
     refine WC.region ?_
     refine WL.y (Y.move rfl) rfl ?_
     refine WL.y (Y.add_i rfl rfl) rfl ?_
     obtain ⟨nv30, hnv30, h⟩ := lt1 h
     refine WL.yE (Y.assign rfl) (congrArg vi hnv30.symm) rfl ?_
     refine WL.nil ?_
     exact At.join (σ := (UInt64 × Int)) (x29, nv30) ⟨some1 h, rfl⟩ (.cons rfl (.cons rfl .nil))
    ·refine WC.condF' rfl hc28 ?_
     refine WC.skip ?_
     exact At.join (σ := (UInt64 × Int)) (x17, nv18) ⟨some1 h, rfl⟩ (.cons rfl (.cons rfl .nil))
   ·rintro ⟨x24, nv25⟩ _ ⟨rfl, rfl⟩
    replace h := hk27
    try dsimp only at h
    refine (show At _ _ _ [(0, vu x24), (2, vi nv25)] _ from ?_)
    refine At.then ?_
    refine WC.seq ?_
    refine WC.region ?_
    refine WL.y (Y.move rfl) rfl ?_
    refine WL.y (Y.move rfl) rfl ?_
    refine WL.y (Y.conv_ub ty23.u ty5.u rfl) rfl ?_
    obtain ⟨c31, hc31, h⟩ := bnd h
    refine WL.y (Y.index_s (xs := lit_c95356610d) ty9 rfl rfl hc31) rfl ?_
    refine WL.y (Y.conv_bi ty5.u ty3.u rfl) rfl ?_
    refine WL.y (Y.add_i rfl rfl) rfl ?_
    obtain ⟨nv32, hnv32, h⟩ := lt1 h
    refine WL.yE (Y.assign rfl) (congrArg vi hnv32.symm) rfl ?_
    refine WL.nil ?_
    refine At.then ?_
    refine WC.ret ?_
    obtain rfl := some1 h
    have hs33 : Stp [] (Lg.O0 (fun _ => False)) w (Lg.O0 (fun _ => False)) w := (Stp.refl _ _ _)
    exact At.res (.inl rfl) rfl (.tmp rfl .nil) ⟨rfl, (Stp.ext hs33 rfl rfl)⟩

theorem c_math_bits_LeadingZeros64 {a0 : UInt64} {w : World} {r0 : Int} (h : math_bits_LeadingZeros64 a0 = some r0) : Rets Tryd.prog 40 [vu a0] w (fun v w' => v = vi r0 ∧ Ext w w') := by
 unfold math_bits_LeadingZeros64 at h
 refine Rets.enter Tryd.func40 rfl rfl ?_
 refine (show WC _ _ _ _ [(0, vu a0)] _ from ?_)
 refine WC.seq ?_
 refine WC.region ?_
 refine WL.y (Y.assign rfl) rfl ?_
 refine WL.nil ?_
 refine At.then ?_
 refine WC.seq ?_
 refine WC.region ?_
 refine WL.y (Y.move rfl) rfl ?_
 obtain ⟨r11, hp12, h⟩ := bnd h
 refine WL.call (vals := [vu a0]) kok43 rfl rfl (c_math_bits_Len64 hp12) ?_
 rintro vr15 wd14 ⟨rfl, hm13⟩
 obtain ⟨O16, hold17, hnew18, hst19⟩ := adoptE (Lg.O0 (fun _ => False)) (fun k => 1) hm13
 refine WL.y (Y.sub_i rfl rfl) rfl ?_
 obtain ⟨t20, ht20, h⟩ := lt1 h
 refine WL.yE (Y.assign rfl) (congrArg vi ht20.symm) rfl ?_
 refine WL.nil ?_
 refine At.then ?_
 refine WC.ret ?_
 obtain rfl := some1 h
 have hs21 : Stp [] (Lg.O0 (fun _ => False)) w O16 wd14 := (Stp.up hst19 rfl)
 exact At.res (.inl rfl) rfl (.tmp rfl .nil) ⟨rfl, (Stp.ext hs21 rfl rfl)⟩

theorem c_math_bits_TrailingZeros64 {A : Nat → Prop} {a0 : UInt64} {w : World} (hG1 : CellsAt w 1 0 (gdat1.map vb)) (hGA1 : A 1) {r0 : Int} (h : math_bits_TrailingZeros64 a0 = some r0) : Rets Tryd.prog 41 [vu a0] w (fun v w' => v = vi r0 ∧ Ext w w') := by
 unfold math_bits_TrailingZeros64 at h
 refine Rets.enter Tryd.func41 rfl rfl ?_
 have hG11 : CAt [0, 1] (Lg.O0 A) w 1 0 (gdat1.map vb) := CAt.glob hG1 (if_pos hGA1)
 refine (show WC _ _ _ _ [(0, vu a0)] _ from ?_)
 refine WC.seq ?_
 refine WC.region ?_
 refine WL.y (Y.assign rfl) rfl ?_
 refine WL.nil ?_
 refine At.then ?_
 refine WC.seq ?_
 refine WC.seq ?_
 refine WC.region ?_
 refine WL.y (Y.move rfl) rfl ?_
 refine WL.y (Y.eql_u (b := 0) rfl rfl) rfl ?_
 refine WL.nil ?_
 refine At.then ?_
 rcases cnd h with ⟨hc12, h⟩ | ⟨hc12, h⟩
 ·refine WC.condT' rfl hc12 ?_
  refine WC.seq ?_
  refine WC.region ?_
  refine WL.y (Y.assign rfl) rfl ?_
  refine WL.nil ?_
  refine At.then ?_
  refine WC.ret ?_
  refine At.thenR ?_
  obtain rfl := some1 h
  have hs13 : Stp [] (Lg.O0 A) w (Lg.O0 A) w := (Stp.refl _ _ _)
  exact At.res (.inl rfl) rfl (.tmp rfl .nil) ⟨rfl, (Stp.ext hs13 rfl rfl)⟩
 ·refine WC.condF' rfl hc12 ?_
  refine WC.skip ?_
  refine At.then ?_
  refine WC.seq ?_
  refine WC.region ?_
  refine WL.y (Y.move rfl) rfl ?_
  refine WL.y (Y.move rfl) rfl ?_
  refine WL.y (Y.neg_u rfl) rfl ?_
  refine WL.y (Y.and_u rfl rfl) rfl ?_
  refine WL.y (Y.mul_u (b := 285870213051353865) rfl rfl) rfl ?_
  refine WL.y (Y.shr_uu (m := 58) rfl rfl) rfl ?_
  obtain ⟨e14, he14, h⟩ := bnd h
  obtain ⟨cs15, hca16, hok17, hi18, hl19⟩ := CAt.idx (R := Rep.b) (A := fun _ => True) hG11 (rowsB gdat1) he14
  obtain rfl := hok17
  replace hca16 : CAt _ _ _ _ _ [vb e14] := hca16
  refine WL.y (Y.indexAddrA ty84 ty5 rfl rfl hi18 hl19) rfl ?_
  refine WL.y (Y.loadSc ty5 rfl rfl hca16.at_) rfl ?_
  refine WL.y (Y.conv_bi ty5.u ty3.u rfl) rfl ?_
  obtain ⟨t20, ht20, h⟩ := lt1 h
  refine WL.yE (Y.assign rfl) (congrArg vi ht20.symm) rfl ?_
  refine WL.nil ?_
  refine At.then ?_
  refine WC.ret ?_
  obtain rfl := some1 h
  have hs21 : Stp [] (Lg.O0 A) w (Lg.O0 A) w := (Stp.refl _ _ _)
  exact At.res (.inl rfl) rfl (.tmp rfl .nil) ⟨rfl, (Stp.ext hs21 rfl rfl)⟩

theorem c_xor_window_holds {A : Nat → Prop} {a0 : xor_window} {a1 : UInt64} {w : World} (hG0 : CellsAt w 0 0 [vi 0, vi 0]) (hGA0 : A 0) (hG1 : CellsAt w 1 0 (gdat1.map vb)) (hGA1 : A 1) {r0 : Bool} (h : xor_window_holds a0 a1 = some r0) : Rets Tryd.prog 31 [Value.agg (List.toArray [vi a0.ahead, vi a0.size]), vu a1] w (fun v w' => v = Value.bool r0 ∧ Ext w w') := by
 unfold xor_window_holds at h
 refine Rets.enter Tryd.func31 rfl rfl ?_
 have hG11 : CAt [0, 1] (Lg.O0 A) w 0 0 [vi 0, vi 0] := CAt.glob hG0 (if_pos hGA0)
 have hG12 : CAt [0, 1] (Lg.O0 A) w 1 0 (gdat1.map vb) := CAt.glob hG1 (if_pos hGA1)
 refine (show WC _ _ _ _ [(0, Value.agg (List.toArray [vi a0.ahead, vi a0.size])), (1, vu a1)] _ from ?_)
 refine WC.seq ?_
 refine WC.region ?_
 refine WL.box (O := (Lg.O0 A)) 11 [vi a0.ahead, vi a0.size] rfl rfl rfl ?_
 intro p14 O15 wd16 hst17 hb13
 refine WL.y (Y.assign rfl) rfl ?_
 refine WL.nil ?_
 refine At.then ?_
 refine WC.seq ?_
 refine WC.drawH [] [0, 1, 2, 3, 4, 5, 6, 7, 8, 9, 10, 11, 12, 13, 14, 15, 16, 17] O15 18 fmix rfl (by kernel_rfl) ?_
 intro wd18 hst19
 refine WD.y 0 rfl (by kernel_rfl) (fun wd21 O20 hst22 => have hf23 := hb13.st hst19 rfl; have hf24 := hf23.st hst22 rfl; Y.loadAg ty60 rfl rfl (hf24.cells 0 [vi a0.ahead, vi a0.size] rfl) rfl) rfl ?_
 refine WD.y 1 rfl (by kernel_rfl) (fun wd26 O25 hst27 => have hf28 := hG11.st hst17 rfl; have hf29 := hf28.st hst19 rfl; have hf30 := hf29.st hst27 rfl; Y.loadAg ty60 rfl rfl hf30.at_ rfl) rfl ?_
 refine WD.y 2 rfl (by kernel_rfl) (fun _ _ _ => Y.neq_ag agok60 rfl rfl (EqF.cons (by decide) (fun w => run_part_plain w (by kernel_rfl) rfl) (fun w => run_part_plain w (by kernel_rfl) rfl) (EqV.i (a := a0.ahead) (b := 0) ty3.u) (EqF.cons (by decide) (fun w => run_part_plain w (by kernel_rfl) rfl) (fun w => run_part_plain w (by kernel_rfl) rfl) (EqV.i (a := a0.size) (b := 0) ty3.u) EqF.nil))) rfl ?_
 refine WD.y 3 rfl (by kernel_rfl) (fun _ _ _ => Y.move rfl) rfl ?_
 obtain ⟨p41, h, hk42⟩ := bnd h
 refine WD.join (σ := (Bool × Own)) (f' := 8) [9, 8, 5, 7, 6, 4, 3, 2, 1, 0] (fun x O' w' => x.1 = p41 ∧ Stp [] O15 wd18 x.2 w' ∧ x.2 = O') (fun x => [(1, vu a1), (2, Value.pointer (some ⟨p14, 0, none⟩)), (4, Value.bool false), (14, Value.bool x.1)]) (fun hJ43 => ?_) ?_
 ·rcases cnd h with ⟨hE44, h⟩ | ⟨hE44, h⟩
  ·refine WD.ren 8 rfl (congrArg Value.bool hE44) ?_
   refine WD.gT 4 rfl (by kernel_rfl) rfl rfl (fun _ _ _ => Y.move rfl) rfl ?_
   refine WD.gT 6 rfl (by kernel_rfl) rfl rfl (fun _ _ _ => Y.fieldAddr fo60_0 rfl) rfl ?_
   refine WD.gT 7 rfl (by kernel_rfl) rfl rfl (fun wd52 O51 hst53 => have hf54 := hb13.st hst19 rfl; have hf55 := hf54.st hst53 rfl; Y.loadSc ty3 rfl rfl (hf55.cell 0 _ rfl)) rfl ?_
   refine WD.heavy 5 rfl (by kernel_rfl) ?_
   refine WL.ung rfl rfl ?_
   obtain ⟨r56, hp57, h⟩ := bnd h
   refine WL.call (vals := [vu a1]) kok40 rfl rfl (c_math_bits_LeadingZeros64 hp57) ?_
   rintro vr60 wd59 ⟨rfl, hm58⟩
   obtain ⟨O61, hold62, hnew63, hst64⟩ := adoptE O15 (fun k => 1) hm58
   refine WL.nil ?_
   refine At.dq (Stp.up hst64 rfl) ?_
   refine WD.gT 8 rfl (by kernel_rfl) rfl rfl (fun _ _ _ => Y.geq_i rfl rfl) rfl ?_
   refine WD.y 9 rfl (by kernel_rfl) (fun _ _ _ => Y.pick (b := true) rfl rfl) rfl ?_
   refine WD.ren 8 rfl (congrArg Value.bool hE44.symm) ?_
   exact hJ43 (decide (a0.ahead ≤ r56), O61) _ _ _ ⟨some1 h, (Stp.up hst64 rfl), rfl⟩ (.cons rfl (.cons rfl (.cons rfl (.cons rfl .nil))))
  ·refine WD.ren 8 rfl (congrArg Value.bool hE44) ?_
   refine WD.gS 4 rfl (by kernel_rfl) rfl rfl rfl rfl ?_
   refine WD.gS 6 rfl (by kernel_rfl) rfl rfl rfl rfl ?_
   refine WD.gS 7 rfl (by kernel_rfl) rfl rfl rfl rfl ?_
   refine WD.heavy 5 rfl (by kernel_rfl) ?_
   refine WL.gS rfl rfl rfl rfl ?_
   refine WL.nil ?_
   refine At.dq (Stp.refl _ _ _) ?_
   refine WD.gS 8 rfl (by kernel_rfl) rfl rfl rfl rfl ?_
   refine WD.y 9 rfl (by kernel_rfl) (fun _ _ _ => Y.pick (b := false) rfl rfl) rfl ?_
   refine WD.ren 8 rfl (congrArg Value.bool hE44.symm) ?_
   exact hJ43 (false, O15) _ _ _ ⟨some1 h, (Stp.refl _ _ _), rfl⟩ (.cons rfl (.cons rfl (.cons rfl (.cons rfl .nil))))
 ·rintro ⟨x37, O38⟩ _ wd39 ⟨rfl, hst40, rfl⟩
  replace h := hk42
  try dsimp only at h hst40
  refine (show WD _ _ _ _ _ _ _ _ [(1, vu a1), (2, Value.pointer (some ⟨p14, 0, none⟩)), (4, Value.bool false), (14, Value.bool x37)] _ _ from ?_)
  refine WD.y 10 rfl (by kernel_rfl) (fun _ _ _ => Y.move rfl) rfl ?_
  obtain ⟨p81, h, hk82⟩ := bnd h
  refine WD.join (σ := (Bool × Own)) (f' := 1) [16, 15, 14, 12, 13, 11, 10, 9, 8, 5, 7, 6, 4, 3, 2, 1, 0] (fun x O' w' => x.1 = p81 ∧ Stp [] O38 wd39 x.2 w' ∧ x.2 = O') (fun x => [(4, Value.bool false), (21, Value.bool x.1)]) (fun hJ83 => ?_) ?_
  ·rcases cnd h with ⟨hE84, h⟩ | ⟨hE84, h⟩
   ·refine WD.ren 15 rfl (congrArg Value.bool hE84) ?_
    refine WD.gT 11 rfl (by kernel_rfl) rfl rfl (fun _ _ _ => Y.move rfl) rfl ?_
    refine WD.gT 13 rfl (by kernel_rfl) rfl rfl (fun wd89 O88 hst90 => have hf91 := hb13.st hst19 rfl; have hf92 := hf91.st hst40 rfl; have hf93 := hf92.st hst90 rfl; Y.loadAg ty60 rfl rfl (hf93.cells 0 [vi a0.ahead, vi a0.size] rfl) rfl) rfl ?_
    refine WD.heavy 12 rfl (by kernel_rfl) ?_
    refine WL.ung rfl rfl ?_
    have hf94 := hG12.st hst17 rfl
    have hf95 := hf94.st hst19 rfl
    have hf96 := hf95.st hst40 rfl
    obtain ⟨r97, hp98, h⟩ := bnd h
    refine WL.call (vals := [vu a1]) kok41 rfl rfl (c_math_bits_TrailingZeros64 (A := fun _ => True) hf96.at_ trivial hp98) ?_
    rintro vr101 wd100 ⟨rfl, hm99⟩
    obtain ⟨O102, hold103, hnew104, hst105⟩ := adoptE O38 (fun k => 1) hm99
    refine WL.nil ?_
    refine At.dq (Stp.up hst105 rfl) ?_
    refine WD.heavy 14 rfl (by kernel_rfl) ?_
    refine WL.ung rfl rfl ?_
    obtain ⟨r106, hp107, h⟩ := bnd h
    refine WL.call (vals := [Value.agg (List.toArray [vi a0.ahead, vi a0.size])]) kok32 rfl rfl (c_xor_window_behind (a0 := a0) hp107) ?_
    rintro vr110 wd109 ⟨rfl, hm108⟩
    obtain ⟨O111, hold112, hnew113, hst114⟩ := adoptE O102 (fun k => 1) hm108
    refine WL.nil ?_
    refine At.dq (Stp.up hst114 rfl) ?_
    refine WD.gT 15 rfl (by kernel_rfl) rfl rfl (fun _ _ _ => Y.geq_i rfl rfl) rfl ?_
    refine WD.y 16 rfl (by kernel_rfl) (fun _ _ _ => Y.pick (b := true) rfl rfl) rfl ?_
    refine WD.ren 15 rfl (congrArg Value.bool hE84.symm) ?_
    exact hJ83 (decide (r106 ≤ r97), O111) _ _ _ ⟨some1 h, (Stp.trans (Stp.up hst105 rfl) (Stp.up hst114 rfl)), rfl⟩ (.cons rfl (.cons rfl .nil))
   ·refine WD.ren 15 rfl (congrArg Value.bool hE84) ?_
    refine WD.gS 11 rfl (by kernel_rfl) rfl rfl rfl rfl ?_
    refine WD.gS 13 rfl (by kernel_rfl) rfl rfl rfl rfl ?_
    refine WD.heavy 12 rfl (by kernel_rfl) ?_
    refine WL.gS rfl rfl rfl rfl ?_
    refine WL.nil ?_
    refine At.dq (Stp.refl _ _ _) ?_
    refine WD.heavy 14 rfl (by kernel_rfl) ?_
    refine WL.gS rfl rfl rfl rfl ?_
    refine WL.nil ?_
    refine At.dq (Stp.refl _ _ _) ?_
    refine WD.gS 15 rfl (by kernel_rfl) rfl rfl rfl rfl ?_
    refine WD.y 16 rfl (by kernel_rfl) (fun _ _ _ => Y.pick (b := false) rfl rfl) rfl ?_
    refine WD.ren 15 rfl (congrArg Value.bool hE84.symm) ?_
    exact hJ83 (false, O38) _ _ _ ⟨some1 h, (Stp.refl _ _ _), rfl⟩ (.cons rfl (.cons rfl .nil))
  ·rintro ⟨x77, O78⟩ _ wd79 ⟨rfl, hst80, rfl⟩
   replace h := hk82
   try dsimp only at h hst80
   refine (show WD _ _ _ _ _ _ _ _ [(4, Value.bool false), (21, Value.bool x77)] _ _ from ?_)
   refine WD.y 17 rfl (by kernel_rfl) (fun _ _ _ => Y.assign rfl) rfl ?_
   refine WD.done_ (by kernel_rfl) ?_
   refine At.then ?_
   refine WC.ret ?_
   obtain rfl := some1 h
   have hs127 : Stp [] (Lg.O0 A) w O78 wd79 := (Stp.trans (Stp.up hst17 rfl) (Stp.trans (Stp.up hst19 rfl) (Stp.trans (Stp.up hst40 rfl) (Stp.up hst80 rfl))))
   exact At.res (.inl rfl) rfl (.tmp rfl .nil) ⟨rfl, (Stp.ext hs127 rfl rfl)⟩

theorem c_xor_around {A : Nat → Prop} {a0 : UInt64} {w : World} (hG1 : CellsAt w 1 0 (gdat1.map vb)) (hGA1 : A 1) {r0 : xor_window} (h : xor_around a0 = some r0) : Rets Tryd.prog 33 [vu a0] w (fun v w' => v = Value.agg (List.toArray [vi r0.ahead, vi r0.size]) ∧ Ext w w') := by
 unfold xor_around at h
 refine Rets.enter Tryd.func33 rfl rfl ?_
 have hG11 : CAt [0, 1] (Lg.O0 A) w 1 0 (gdat1.map vb) := CAt.glob hG1 (if_pos hGA1)
 refine (show WC _ _ _ _ [(0, vu a0)] _ from ?_)
 refine WC.seq ?_
 refine WC.region ?_
 refine WL.alloc (O := (Lg.O0 A)) 11 [vi 0, vi 0] ty60 rfl rfl ?_
 intro p13 O14 wd15 hst16 hb12
 refine WL.nil ?_
 refine At.then ?_
 refine WC.seq ?_
 refine WC.region ?_
 refine WL.y (Y.move rfl) rfl ?_
 obtain ⟨r17, hp18, h⟩ := bnd h
 refine WL.call (vals := [vu a0]) kok40 rfl rfl (c_math_bits_LeadingZeros64 hp18) ?_
 rintro vr21 wd20 ⟨rfl, hm19⟩
 obtain ⟨O22, hold23, hnew24, hst25⟩ := adoptE O14 (fun k => 1) hm19
 refine WL.y (Y.min_i rfl rfl) rfl ?_
 obtain ⟨ahead26, hahead26, h⟩ := lt1 h
 refine WL.yE (Y.assign rfl) (congrArg vi hahead26.symm) rfl ?_
 refine WL.nil ?_
 refine At.then ?_
 refine WC.seq ?_
 refine WC.region ?_
 refine WL.y (Y.move rfl) rfl ?_
 refine WL.y (Y.move rfl) rfl ?_
 refine WL.y (Y.sub_i rfl rfl) rfl ?_
 refine WL.y (Y.move rfl) rfl ?_
 have hf27 := hG11.st hst16 rfl
 have hf28 := hf27.st hst25 rfl
 obtain ⟨r29, hp30, h⟩ := bnd h
 refine WL.call (vals := [vu a0]) kok41 rfl rfl (c_math_bits_TrailingZeros64 (A := fun _ => True) hf28.at_ trivial hp30) ?_
 rintro vr33 wd32 ⟨rfl, hm31⟩
 obtain ⟨O34, hold35, hnew36, hst37⟩ := adoptE O22 (fun k => 1) hm31
 refine WL.y (Y.sub_i rfl rfl) rfl ?_
 refine WL.y (Y.build (vals := [(0, vi ahead26), (1, vi (w64 ((w64 (64 - ahead26)) - r29)))]) (cells := [vi ahead26, vi (w64 ((w64 (64 - ahead26)) - r29))]) (Fits.evalp rfl) (by kernel_rfl)) rfl ?_
 have hf38 := hb12.st hst25 rfl
 have hf39 := hf38.st hst37 rfl
 refine WL.store (v := Value.agg (List.toArray [vi ahead26, vi (w64 ((w64 (64 - ahead26)) - r29))])) (cells' := [vi ahead26, vi (w64 ((w64 (64 - ahead26)) - r29))]) ty60 rfl rfl hf39 rfl (Nat.le_of_ble_eq_true rfl) rfl rfl ?_
 intro wd40 hst41 hb42
 refine WL.nil ?_
 refine At.then ?_
 refine WC.ret ?_
 obtain rfl := some1 h
 have hs43 : Stp [11] (Lg.O0 A) w O34 wd40 := (Stp.trans (Stp.up hst16 rfl) (Stp.trans (Stp.up hst25 rfl) (Stp.trans (Stp.up hst37 rfl) (Stp.up hst41 rfl))))
 exact At.res (.inl rfl) rfl (.cell rfl (hb42.runAg 0 [vi ahead26, vi (w64 ((w64 (64 - ahead26)) - r29))] ty60 rfl rfl rfl) .nil) ⟨rfl, (Stp.ext hs43 rfl rfl)⟩

theorem c_xor_Row_Put {A : Nat → Prop} {a0 : xor_Row} {b0 : Nat} {v1_0 : Value} {a1 : bitio_Writer} {b1 : Nat} {a2 : UInt64} {w : World} (hb0 : w.heap[b0]? = some (.cells (List.toArray [vi a0.n, vu a0.last, vi a0.win.ahead, vi a0.win.size]) 62 (0, 0))) (hs1_0 : Row Rep.b 5 w v1_0 a1.b) (hb1 : w.heap[b1]? = some (.cells (List.toArray [v1_0, vi a1.n]) 64 (0, 0))) (hG0 : CellsAt w 0 0 [vi 0, vi 0]) (hGA0 : A 0) (hG1 : CellsAt w 1 0 (gdat1.map vb)) (hGA1 : A 1) (hne0_1 : b0 ≠ b1) (hne0_2 : Value.ownBlock v1_0 ≠ some b0) (hne1_2 : Value.ownBlock v1_0 ≠ some b1) (hA : ∀ k, A k → k ≠ b0 ∧ k ≠ b1 ∧ Value.ownBlock v1_0 ≠ some k) {q0 : xor_Row} {q1 : bitio_Writer} (h : xor_Row_Put a0 a1 a2 = some (q0, q1)) : Rets Tryd.prog 16 [Value.pointer (some ⟨b0, 0, none⟩), Value.pointer (some ⟨b1, 0, none⟩), vu a2] w (fun v w' => ∃ (z1_0 : Value), v = Value.tuple (List.toArray []) ∧ Mod (fun k => k = b0 ∨ k = b1 ∨ Value.ownBlock v1_0 = some k) w w' ∧ w'.heap[b0]? = some (.cells (List.toArray [vi q0.n, vu q0.last, vi q0.win.ahead, vi q0.win.size]) 62 (0, 0)) ∧ RowG Rep.b 5 w w' v1_0 z1_0 q1.b ∧ w'.heap[b1]? = some (.cells (List.toArray [z1_0, vi q1.n]) 64 (0, 0))) := by
 unfold xor_Row_Put at h
 refine Rets.enter Tryd.func16 rfl rfl ?_
 have hb11 : Blk 3 (Lg.OB b0 3 (Lg.OB b1 4 (Lg.OV v1_0 5 (Lg.O0 A)))) w b0 62 [vi a0.n, vu a0.last, vi a0.win.ahead, vi a0.win.size] := ⟨(if_pos rfl), hb0⟩
 have ho12 : OwnSl 5 Rep.b 5 (Lg.OB b0 3 (Lg.OB b1 4 (Lg.OV v1_0 5 (Lg.O0 A)))) w v1_0 a1.b := Row.start Flat.b hs1_0 (fun k hk => ((if_neg (fun (e : k = b0) => hne0_2 (e ▸ hk))).trans ((if_neg (fun (e : k = b1) => hne1_2 (e ▸ hk))).trans (if_pos hk))))
 have hb13 : Blk 4 (Lg.OB b0 3 (Lg.OB b1 4 (Lg.OV v1_0 5 (Lg.O0 A)))) w b1 64 [v1_0, vi a1.n] := ⟨((if_neg (fun (e : b1 = b0) => hne0_1 e.symm)).trans (if_pos rfl)), hb1⟩
 have hG14 : CAt [0, 1] (Lg.OB b0 3 (Lg.OB b1 4 (Lg.OV v1_0 5 (Lg.O0 A)))) w 0 0 [vi 0, vi 0] := CAt.glob hG0 ((if_neg (hA _ hGA0).1).trans ((if_neg (hA _ hGA0).2.1).trans ((if_neg (hA _ hGA0).2.2).trans (if_pos hGA0))))
 have hG15 : CAt [0, 1] (Lg.OB b0 3 (Lg.OB b1 4 (Lg.OV v1_0 5 (Lg.O0 A)))) w 1 0 (gdat1.map vb) := CAt.glob hG1 ((if_neg (hA _ hGA1).1).trans ((if_neg (hA _ hGA1).2.1).trans ((if_neg (hA _ hGA1).2.2).trans (if_pos hGA1))))
 refine (show WC _ _ _ _ [(0, Value.pointer (some ⟨b0, 0, none⟩)), (1, Value.pointer (some ⟨b1, 0, none⟩)), (2, vu a2)] _ from ?_)
 refine WC.seq ?_
 refine WC.region ?_
 refine WL.y (Y.move rfl) rfl ?_
 refine WL.y (Y.move rfl) rfl ?_
 refine WL.y (Y.nilCheck rfl) rfl ?_
 refine WL.y (Y.fieldAddr fo62_1 rfl) rfl ?_
 refine WL.y (Y.loadSc ty23 rfl rfl (hb11.cell 1 _ rfl)) rfl ?_
 refine WL.y (Y.xor_u rfl rfl) rfl ?_
 obtain ⟨d16, hd16, h⟩ := lt1 h
 refine WL.yE (Y.assign rfl) (congrArg vu hd16.symm) rfl ?_
 refine WL.nil ?_
 refine At.then ?_
 refine WC.seq ?_
 obtain ⟨p28, h, hk29⟩ := bnd h
 refine WC.join (σ := (Int × Int × List UInt8 × Int × Own × Value)) (fun x w' => (x.1, x.2.1, x.2.2.1, x.2.2.2.1) = p28 ∧ Stp [3, 4, 5] (Lg.OB b0 3 (Lg.OB b1 4 (Lg.OV v1_0 5 (Lg.O0 A)))) w x.2.2.2.2.1 w' ∧ Blk 3 x.2.2.2.2.1 w' b0 62 [vi a0.n, vu a0.last, vi x.1, vi x.2.1] ∧ OwnSl 5 Rep.b 5 x.2.2.2.2.1 w' x.2.2.2.2.2 x.2.2.1 ∧ Blk 4 x.2.2.2.2.1 w' b1 64 [x.2.2.2.2.2, vi x.2.2.2.1]) (fun x => [(0, Value.pointer (some ⟨b0, 0, none⟩)), (2, vu a2)]) ?_ ?_
 ·refine WC.block ?_
  refine WC.seq ?_
  refine WC.region ?_
  refine WL.y (Y.move rfl) rfl ?_
  refine WL.y (Y.nilCheck rfl) rfl ?_
  refine WL.y (Y.fieldAddr fo62_0 rfl) rfl ?_
  refine WL.y (Y.loadSc ty3 rfl rfl (hb11.cell 0 _ rfl)) rfl ?_
  refine WL.y (Y.eql_i rfl rfl) rfl ?_
  obtain ⟨t30, ht30, h⟩ := lt1 h
  refine WL.yE (Y.assign rfl) (congrArg Value.bool ht30.symm) rfl ?_
  refine WL.nil ?_
  refine At.then ?_
  rcases cnd h with ⟨hc31, h⟩ | ⟨hc31, h⟩
  ·refine WC.condT' rfl hc31 ?_
   refine WC.region ?_
   refine WL.y (Y.move rfl) rfl ?_
   refine WL.y (Y.move rfl) rfl ?_
   obtain ⟨⟨r32, r33⟩, hp34, h⟩ := bnd h
   refine WL.call (vals := [Value.pointer (some ⟨b1, 0, none⟩), vu a2, vi 64]) kok30 rfl rfl (c_bitio_Writer_Put (a0 := a1) ho12.row hb13.blk (ne_lab ho12 hb13.lab rfl) hp34) ?_
   rintro vr40 wd39 ⟨z35, rfl, hm38, f36, f37⟩
   obtain ⟨O41, hold42, hnew43, hst44⟩ := adopt (Lg.OB b0 3 (Lg.OB b1 4 (Lg.OV v1_0 5 (Lg.O0 A)))) (fun k => if Value.ownBlock z35 = some k then 5 else 1) [4, 5] hm38 (memOr (memB hb13.lab rfl) (memV ho12.labs rfl))
   have ho45 : OwnSl 5 Rep.b 5 O41 wd39 z35 r33.b := RowG.adopt Flat.b ho12.labs f36 hold42 hnew43 (fun k hk => if_pos hk)
   have hb46 : Blk 4 O41 wd39 b1 64 [z35, vi r33.n] := Blk.adopt hb13 hold42 f37
   refine WL.nil ?_
   refine At.inBlock ?_
   have hf47 := hb11.st hst44 rfl
   exact At.join (σ := (Int × Int × List UInt8 × Int × Own × Value)) (a0.win.ahead, a0.win.size, r33.b, r33.n, O41, z35) ⟨some1 h, (Stp.up hst44 rfl), hf47, ho45, hb46⟩ (.cons rfl (.cons rfl .nil))
  ·refine WC.condF' rfl hc31 ?_
   refine WC.seq ?_
   refine WC.region ?_
   refine WL.y (Y.move rfl) rfl ?_
   refine WL.y (Y.eql_u (b := 0) rfl rfl) rfl ?_
   obtain ⟨t48, ht48, h⟩ := lt1 h
   refine WL.yE (Y.assign rfl) (congrArg Value.bool ht48.symm) rfl ?_
   refine WL.nil ?_
   refine At.then ?_
   rcases cnd h with ⟨hc49, h⟩ | ⟨hc49, h⟩
   ·refine WC.condT' rfl hc49 ?_
    refine WC.region ?_
    refine WL.y (Y.move rfl) rfl ?_
    obtain ⟨⟨r50, r51⟩, hp52, h⟩ := bnd h
    refine WL.call (vals := [Value.pointer (some ⟨b1, 0, none⟩), vu 0, vi 1]) kok30 rfl rfl (c_bitio_Writer_Put (a0 := a1) ho12.row hb13.blk (ne_lab ho12 hb13.lab rfl) hp52) ?_
    rintro vr58 wd57 ⟨z53, rfl, hm56, f54, f55⟩
    obtain ⟨O59, hold60, hnew61, hst62⟩ := adopt (Lg.OB b0 3 (Lg.OB b1 4 (Lg.OV v1_0 5 (Lg.O0 A)))) (fun k => if Value.ownBlock z53 = some k then 5 else 1) [4, 5] hm56 (memOr (memB hb13.lab rfl) (memV ho12.labs rfl))
    have ho63 : OwnSl 5 Rep.b 5 O59 wd57 z53 r51.b := RowG.adopt Flat.b ho12.labs f54 hold60 hnew61 (fun k hk => if_pos hk)
    have hb64 : Blk 4 O59 wd57 b1 64 [z53, vi r51.n] := Blk.adopt hb13 hold60 f55
    refine WL.nil ?_
    refine At.inBlock ?_
    have hf65 := hb11.st hst62 rfl
    exact At.join (σ := (Int × Int × List UInt8 × Int × Own × Value)) (a0.win.ahead, a0.win.size, r51.b, r51.n, O59, z53) ⟨some1 h, (Stp.up hst62 rfl), hf65, ho63, hb64⟩ (.cons rfl (.cons rfl .nil))
   ·refine WC.condF' rfl hc49 ?_
    refine WC.seq ?_
    refine WC.region ?_
    refine WL.y (Y.move rfl) rfl ?_
    refine WL.y (Y.nilCheck rfl) rfl ?_
    refine WL.y (Y.fieldAddr fo62_2 rfl) rfl ?_
    refine WL.y (Y.loadAg ty60 rfl rfl (hb11.cells 2 [vi a0.win.ahead, vi a0.win.size] rfl) rfl) rfl ?_
    refine WL.y (Y.move rfl) rfl ?_
    obtain ⟨r66, hp67, h⟩ := bnd h
    refine WL.call (vals := [Value.agg (List.toArray [vi a0.win.ahead, vi a0.win.size]), vu d16]) kok31 rfl rfl (c_xor_window_holds (A := fun _ => True) (a0 := a0.win) hG14.at_ trivial hG15.at_ trivial hp67) ?_
    rintro vr70 wd69 ⟨rfl, hm68⟩
    obtain ⟨O71, hold72, hnew73, hst74⟩ := adoptE (Lg.OB b0 3 (Lg.OB b1 4 (Lg.OV v1_0 5 (Lg.O0 A)))) (fun k => 1) hm68
    refine WL.y (Y.assign rfl) rfl ?_
    refine WL.nil ?_
    refine At.then ?_
    rcases cnd h with ⟨hc75, h⟩ | ⟨hc75, h⟩
    ·refine WC.condT' rfl hc75 ?_
     refine WC.seq ?_
     refine WC.region ?_
     refine WL.y (Y.move rfl) rfl ?_
     have hf76 := ho12.st hst74 rfl rfl rfl
     have hf77 := hb13.st hst74 rfl
     obtain ⟨⟨r78, r79⟩, hp80, h⟩ := bnd h
     refine WL.call (vals := [Value.pointer (some ⟨b1, 0, none⟩), vu 2, vi 2]) kok30 rfl rfl (c_bitio_Writer_Put (a0 := a1) hf76.row hf77.blk (ne_lab hf76 hf77.lab rfl) hp80) ?_
     rintro vr86 wd85 ⟨z81, rfl, hm84, f82, f83⟩
     obtain ⟨O87, hold88, hnew89, hst90⟩ := adopt O71 (fun k => if Value.ownBlock z81 = some k then 5 else 1) [4, 5] hm84 (memOr (memB hf77.lab rfl) (memV hf76.labs rfl))
     have ho91 : OwnSl 5 Rep.b 5 O87 wd85 z81 r79.b := RowG.adopt Flat.b hf76.labs f82 hold88 hnew89 (fun k hk => if_pos hk)
     have hb92 : Blk 4 O87 wd85 b1 64 [z81, vi r79.n] := Blk.adopt hf77 hold88 f83
     refine WL.nil ?_
     refine At.then ?_
     refine WC.drawH [4, 5] [0, 1, 2, 3, 4, 5, 6, 7, 8, 9, 10, 11, 12, 13, 14] O87 15 fmix rfl (by kernel_rfl) ?_
     intro wd93 hst94
     refine WD.y 0 rfl (by kernel_rfl) (fun _ _ _ => Y.move rfl) rfl ?_
     refine WD.y 1 rfl (by kernel_rfl) (fun _ _ _ => Y.move rfl) rfl ?_
     refine WD.y 2 rfl (by kernel_rfl) (fun _ _ _ => Y.move rfl) rfl ?_
     refine WD.y 3 rfl (by kernel_rfl) (fun _ _ _ => Y.nilCheck rfl) rfl ?_
     refine WD.y 4 rfl (by kernel_rfl) (fun _ _ _ => Y.fieldAddr fo62_2 rfl) rfl ?_
     refine WD.y 5 rfl (by kernel_rfl) (fun wd111 O110 hst112 => have hf113 := hb11.st hst74 rfl; have hf114 := hf113.st hst90 rfl; have hf115 := hf114.st hst94 rfl; have hf116 := hf115.st hst112 rfl; Y.loadAg ty60 rfl rfl (hf116.cells 2 [vi a0.win.ahead, vi a0.win.size] rfl) rfl) rfl ?_
     refine WD.y 9 rfl (by kernel_rfl) (fun _ _ _ => Y.move rfl) rfl ?_
     refine WD.y 10 rfl (by kernel_rfl) (fun _ _ _ => Y.nilCheck rfl) rfl ?_
     refine WD.y 11 rfl (by kernel_rfl) (fun _ _ _ => Y.fieldAddr fo62_2 rfl) rfl ?_
     refine WD.y 12 rfl (by kernel_rfl) (fun _ _ _ => Y.fieldAddr fo60_1 rfl) rfl ?_
     refine WD.y 13 rfl (by kernel_rfl) (fun wd130 O129 hst131 => have hf132 := hb11.st hst74 rfl; have hf133 := hf132.st hst90 rfl; have hf134 := hf133.st hst94 rfl; have hf135 := hf134.st hst131 rfl; Y.loadSc ty3 rfl rfl (hf135.cell 3 _ rfl)) rfl ?_
     refine WD.heavy 6 rfl (by kernel_rfl) ?_
     obtain ⟨r136, hp137, h⟩ := bnd h
     refine WL.call (vals := [Value.agg (List.toArray [vi a0.win.ahead, vi a0.win.size])]) kok32 rfl rfl (c_xor_window_behind (a0 := a0.win) hp137) ?_
     rintro vr140 wd139 ⟨rfl, hm138⟩
     obtain ⟨O141, hold142, hnew143, hst144⟩ := adoptE O87 (fun k => 1) hm138
     refine WL.nil ?_
     refine At.dq (Stp.up hst144 rfl) ?_
     refine WD.y 7 rfl (by kernel_rfl) (fun _ _ _ => Y.conv_iu ty3.u ty55.u rfl) rfl ?_
     refine WD.y 8 rfl (by kernel_rfl) (fun _ _ _ => Y.shr_uu rfl rfl) rfl ?_
     refine WD.heavy 14 rfl (by kernel_rfl) ?_
     have hf151 := ho91.st hst94 rfl rfl rfl
     have hf152 := hf151.st hst144 rfl rfl rfl
     have hf153 := hb92.st hst94 rfl
     have hf154 := hf153.st hst144 rfl
     obtain ⟨⟨r155, r156⟩, hp157, h⟩ := bnd h
     refine WL.call (vals := [Value.pointer (some ⟨b1, 0, none⟩), vu (shrU d16 ((toU64 r136).toNat)), vi a0.win.size]) kok30 rfl rfl (c_bitio_Writer_Put (a0 := r79) hf152.row hf154.blk (ne_lab hf152 hf154.lab rfl) hp157) ?_
     rintro vr163 wd162 ⟨z158, rfl, hm161, f159, f160⟩
     obtain ⟨O164, hold165, hnew166, hst167⟩ := adopt O141 (fun k => if Value.ownBlock z158 = some k then 5 else 1) [4, 5] hm161 (memOr (memB hf154.lab rfl) (memV hf152.labs rfl))
     have ho168 : OwnSl 5 Rep.b 5 O164 wd162 z158 r156.b := RowG.adopt Flat.b hf152.labs f159 hold165 hnew166 (fun k hk => if_pos hk)
     have hb169 : Blk 4 O164 wd162 b1 64 [z158, vi r156.n] := Blk.adopt hf154 hold165 f160
     refine WL.nil ?_
     refine At.dq (Stp.up hst167 rfl) ?_
     refine WD.done_ (by kernel_rfl) ?_
     refine At.inBlock ?_
     have hf170 := hb11.st hst74 rfl
     have hf171 := hf170.st hst90 rfl
     have hf172 := hf171.st hst94 rfl
     have hf173 := hf172.st hst144 rfl
     have hf174 := hf173.st hst167 rfl
     exact At.join (σ := (Int × Int × List UInt8 × Int × Own × Value)) (a0.win.ahead, a0.win.size, r156.b, r156.n, O164, z158) ⟨some1 h, (Stp.trans (Stp.up hst74 rfl) (Stp.trans (Stp.up hst90 rfl) (Stp.trans (Stp.up hst94 rfl) (Stp.trans (Stp.up hst144 rfl) (Stp.up hst167 rfl))))), hf174, ho168, hb169⟩ (.cons rfl (.cons rfl .nil))
    ·refine WC.condF' rfl hc75 ?_
     refine WC.seq ?_
     refine WC.region ?_
     refine WL.y (Y.move rfl) rfl ?_
     refine WL.y (Y.move rfl) rfl ?_
     have hf175 := hG15.st hst74 rfl
     obtain ⟨r176, hp177, h⟩ := bnd h
     refine WL.call (vals := [vu d16]) kok33 rfl rfl (c_xor_around (A := fun _ => True) hf175.at_ trivial hp177) ?_
     rintro vr180 wd179 ⟨rfl, hm178⟩
     obtain ⟨O181, hold182, hnew183, hst184⟩ := adoptE O71 (fun k => 1) hm178
     refine WL.y (Y.nilCheck rfl) rfl ?_
     refine WL.y (Y.fieldAddr fo62_2 rfl) rfl ?_
     have hf185 := hb11.st hst74 rfl
     have hf186 := hf185.st hst184 rfl
     refine WL.store (v := Value.agg (List.toArray [vi r176.ahead, vi r176.size])) (cells' := [vi a0.n, vu a0.last, vi r176.ahead, vi r176.size]) ty60 rfl rfl hf186 rfl (Nat.le_of_ble_eq_true rfl) rfl rfl ?_
     intro wd187 hst188 hb189
     refine WL.nil ?_
     refine At.then ?_
     refine WC.seq ?_
     refine WC.region ?_
     refine WL.y (Y.move rfl) rfl ?_
     have hf190 := ho12.st hst74 rfl rfl rfl
     have hf191 := hf190.st hst184 rfl rfl rfl
     have hf192 := hf191.st hst188 rfl rfl rfl
     have hf193 := hb13.st hst74 rfl
     have hf194 := hf193.st hst184 rfl
     have hf195 := hf194.st hst188 rfl
     obtain ⟨⟨r196, r197⟩, hp198, h⟩ := bnd h
     refine WL.call (vals := [Value.pointer (some ⟨b1, 0, none⟩), vu 3, vi 2]) kok30 rfl rfl (c_bitio_Writer_Put (a0 := a1) hf192.row hf195.blk (ne_lab hf192 hf195.lab rfl) hp198) ?_
     rintro vr204 wd203 ⟨z199, rfl, hm202, f200, f201⟩
     obtain ⟨O205, hold206, hnew207, hst208⟩ := adopt O181 (fun k => if Value.ownBlock z199 = some k then 5 else 1) [4, 5] hm202 (memOr (memB hf195.lab rfl) (memV hf192.labs rfl))
     have ho209 : OwnSl 5 Rep.b 5 O205 wd203 z199 r197.b := RowG.adopt Flat.b hf192.labs f200 hold206 hnew207 (fun k hk => if_pos hk)
     have hb210 : Blk 4 O205 wd203 b1 64 [z199, vi r197.n] := Blk.adopt hf195 hold206 f201
     refine WL.nil ?_
     refine At.then ?_
     refine WC.seq ?_
     refine WC.region ?_
     refine WL.y (Y.move rfl) rfl ?_
     refine WL.y (Y.move rfl) rfl ?_
     refine WL.y (Y.nilCheck rfl) rfl ?_
     refine WL.y (Y.fieldAddr fo62_2 rfl) rfl ?_
     refine WL.y (Y.fieldAddr fo60_0 rfl) rfl ?_
     have hf211 := hb189.st hst208 rfl
     refine WL.y (Y.loadSc ty3 rfl rfl (hf211.cell 2 _ rfl)) rfl ?_
     refine WL.y (Y.conv_iu ty3.u ty23.u rfl) rfl ?_
     obtain ⟨⟨r212, r213⟩, hp214, h⟩ := bnd h
     refine WL.call (vals := [Value.pointer (some ⟨b1, 0, none⟩), vu (toU64 r176.ahead), vi 5]) kok30 rfl rfl (c_bitio_Writer_Put (a0 := r197) ho209.row hb210.blk (ne_lab ho209 hb210.lab rfl) hp214) ?_
     rintro vr220 wd219 ⟨z215, rfl, hm218, f216, f217⟩
     obtain ⟨O221, hold222, hnew223, hst224⟩ := adopt O205 (fun k => if Value.ownBlock z215 = some k then 5 else 1) [4, 5] hm218 (memOr (memB hb210.lab rfl) (memV ho209.labs rfl))
     have ho225 : OwnSl 5 Rep.b 5 O221 wd219 z215 r213.b := RowG.adopt Flat.b ho209.labs f216 hold222 hnew223 (fun k hk => if_pos hk)
     have hb226 : Blk 4 O221 wd219 b1 64 [z215, vi r213.n] := Blk.adopt hb210 hold222 f217
     refine WL.nil ?_
     refine At.then ?_
     refine WC.seq ?_
     refine WC.region ?_
     refine WL.y (Y.move rfl) rfl ?_
     refine WL.y (Y.move rfl) rfl ?_
     refine WL.y (Y.nilCheck rfl) rfl ?_
     refine WL.y (Y.fieldAddr fo62_2 rfl) rfl ?_
     refine WL.y (Y.fieldAddr fo60_1 rfl) rfl ?_
     have hf227 := hf211.st hst224 rfl
     refine WL.y (Y.loadSc ty3 rfl rfl (hf227.cell 3 _ rfl)) rfl ?_
     refine WL.y (Y.sub_i rfl rfl) rfl ?_
     refine WL.y (Y.conv_iu ty3.u ty23.u rfl) rfl ?_
     obtain ⟨⟨r228, r229⟩, hp230, h⟩ := bnd h
     refine WL.call (vals := [Value.pointer (some ⟨b1, 0, none⟩), vu (toU64 (w64 (r176.size - 1))), vi 6]) kok30 rfl rfl (c_bitio_Writer_Put (a0 := r213) ho225.row hb226.blk (ne_lab ho225 hb226.lab rfl) hp230) ?_
     rintro vr236 wd235 ⟨z231, rfl, hm234, f232, f233⟩
     obtain ⟨O237, hold238, hnew239, hst240⟩ := adopt O221 (fun k => if Value.ownBlock z231 = some k then 5 else 1) [4, 5] hm234 (memOr (memB hb226.lab rfl) (memV ho225.labs rfl))
     have ho241 : OwnSl 5 Rep.b 5 O237 wd235 z231 r229.b := RowG.adopt Flat.b ho225.labs f232 hold238 hnew239 (fun k hk => if_pos hk)
     have hb242 : Blk 4 O237 wd235 b1 64 [z231, vi r229.n] := Blk.adopt hb226 hold238 f233
     refine WL.nil ?_
     refine At.then ?_
     refine WC.drawH [4, 5] [0, 1, 2, 3, 4, 5, 6, 7, 8, 9, 10, 11, 12, 13, 14] O237 15 fmix rfl (by kernel_rfl) ?_
     intro wd243 hst244
     refine WD.y 0 rfl (by kernel_rfl) (fun _ _ _ => Y.move rfl) rfl ?_
     refine WD.y 1 rfl (by kernel_rfl) (fun _ _ _ => Y.move rfl) rfl ?_
     refine WD.y 2 rfl (by kernel_rfl) (fun _ _ _ => Y.move rfl) rfl ?_
     refine WD.y 3 rfl (by kernel_rfl) (fun _ _ _ => Y.nilCheck rfl) rfl ?_
     refine WD.y 4 rfl (by kernel_rfl) (fun _ _ _ => Y.fieldAddr fo62_2 rfl) rfl ?_
     refine WD.y 5 rfl (by kernel_rfl) (fun wd261 O260 hst262 => have hf263 := hf227.st hst240 rfl; have hf264 := hf263.st hst244 rfl; have hf265 := hf264.st hst262 rfl; Y.loadAg ty60 rfl rfl (hf265.cells 2 [vi r176.ahead, vi r176.size] rfl) rfl) rfl ?_
     refine WD.y 9 rfl (by kernel_rfl) (fun _ _ _ => Y.move rfl) rfl ?_
     refine WD.y 10 rfl (by kernel_rfl) (fun _ _ _ => Y.nilCheck rfl) rfl ?_
     refine WD.y 11 rfl (by kernel_rfl) (fun _ _ _ => Y.fieldAddr fo62_2 rfl) rfl ?_
     refine WD.y 12 rfl (by kernel_rfl) (fun _ _ _ => Y.fieldAddr fo60_1 rfl) rfl ?_
     refine WD.y 13 rfl (by kernel_rfl) (fun wd279 O278 hst280 => have hf281 := hf227.st hst240 rfl; have hf282 := hf281.st hst244 rfl; have hf283 := hf282.st hst280 rfl; Y.loadSc ty3 rfl rfl (hf283.cell 3 _ rfl)) rfl ?_
     refine WD.heavy 6 rfl (by kernel_rfl) ?_
     obtain ⟨r284, hp285, h⟩ := bnd h
     refine WL.call (vals := [Value.agg (List.toArray [vi r176.ahead, vi r176.size])]) kok32 rfl rfl (c_xor_window_behind (a0 := r176) hp285) ?_
     rintro vr288 wd287 ⟨rfl, hm286⟩
     obtain ⟨O289, hold290, hnew291, hst292⟩ := adoptE O237 (fun k => 1) hm286
     refine WL.nil ?_
     refine At.dq (Stp.up hst292 rfl) ?_
     refine WD.y 7 rfl (by kernel_rfl) (fun _ _ _ => Y.conv_iu ty3.u ty55.u rfl) rfl ?_
     refine WD.y 8 rfl (by kernel_rfl) (fun _ _ _ => Y.shr_uu rfl rfl) rfl ?_
     refine WD.heavy 14 rfl (by kernel_rfl) ?_
     have hf299 := ho241.st hst244 rfl rfl rfl
     have hf300 := hf299.st hst292 rfl rfl rfl
     have hf301 := hb242.st hst244 rfl
     have hf302 := hf301.st hst292 rfl
     obtain ⟨⟨r303, r304⟩, hp305, h⟩ := bnd h
     refine WL.call (vals := [Value.pointer (some ⟨b1, 0, none⟩), vu (shrU d16 ((toU64 r284).toNat)), vi r176.size]) kok30 rfl rfl (c_bitio_Writer_Put (a0 := r229) hf300.row hf302.blk (ne_lab hf300 hf302.lab rfl) hp305) ?_
     rintro vr311 wd310 ⟨z306, rfl, hm309, f307, f308⟩
     obtain ⟨O312, hold313, hnew314, hst315⟩ := adopt O289 (fun k => if Value.ownBlock z306 = some k then 5 else 1) [4, 5] hm309 (memOr (memB hf302.lab rfl) (memV hf300.labs rfl))
     have ho316 : OwnSl 5 Rep.b 5 O312 wd310 z306 r304.b := RowG.adopt Flat.b hf300.labs f307 hold313 hnew314 (fun k hk => if_pos hk)
     have hb317 : Blk 4 O312 wd310 b1 64 [z306, vi r304.n] := Blk.adopt hf302 hold313 f308
     refine WL.nil ?_
     refine At.dq (Stp.up hst315 rfl) ?_
     refine WD.done_ (by kernel_rfl) ?_
     refine At.inBlock ?_
     have hf318 := hf227.st hst240 rfl
     have hf319 := hf318.st hst244 rfl
     have hf320 := hf319.st hst292 rfl
     have hf321 := hf320.st hst315 rfl
     exact At.join (σ := (Int × Int × List UInt8 × Int × Own × Value)) (r176.ahead, r176.size, r304.b, r304.n, O312, z306) ⟨some1 h, (Stp.trans (Stp.up hst74 rfl) (Stp.trans (Stp.up hst184 rfl) (Stp.trans (Stp.up hst188 rfl) (Stp.trans (Stp.up hst208 rfl) (Stp.trans (Stp.up hst224 rfl) (Stp.trans (Stp.up hst240 rfl) (Stp.trans (Stp.up hst244 rfl) (Stp.trans (Stp.up hst292 rfl) (Stp.up hst315 rfl))))))))), hf321, ho316, hb317⟩ (.cons rfl (.cons rfl .nil))
 ·rintro ⟨c18, c19, c21, c24, O25, v22⟩ wd26 ⟨rfl, hst27, hb17, hf23, hb20⟩
  replace h := hk29
  try dsimp only at h hst27 hb17 hf23 hb20
  refine (show At _ _ _ [(0, Value.pointer (some ⟨b0, 0, none⟩)), (2, vu a2)] _ from ?_)
  refine At.then ?_
  refine WC.seq ?_
  refine WC.region ?_
  refine WL.y (Y.move rfl) rfl ?_
  refine WL.y (Y.nilCheck rfl) rfl ?_
  refine WL.y (Y.fieldAddr fo62_0 rfl) rfl ?_
  refine WL.y (Y.loadSc ty3 rfl rfl (hb17.cell 0 _ rfl)) rfl ?_
  refine WL.y (Y.add_i rfl rfl) rfl ?_
  refine WL.y (Y.nilCheck rfl) rfl ?_
  refine WL.y (Y.fieldAddr fo62_0 rfl) rfl ?_
  obtain ⟨t322, ht322, h⟩ := lt1 h
  refine WL.ren 94 rfl (congrArg vi ht322.symm) ?_
  refine WL.store (v := vi t322) (cells' := [vi t322, vu a0.last, vi c18, vi c19]) ty3 rfl rfl hb17 rfl (Nat.le_of_ble_eq_true rfl) rfl rfl ?_
  intro wd323 hst324 hb325
  refine WL.nil ?_
  refine At.then ?_
  refine WC.region ?_
  refine WL.y (Y.move rfl) rfl ?_
  refine WL.y (Y.move rfl) rfl ?_
  refine WL.y (Y.nilCheck rfl) rfl ?_
  refine WL.y (Y.fieldAddr fo62_1 rfl) rfl ?_
  refine WL.store (v := vu a2) (cells' := [vi t322, vu a2, vi c18, vi c19]) ty23 rfl rfl hb325 rfl (Nat.le_of_ble_eq_true rfl) rfl rfl ?_
  intro wd326 hst327 hb328
  refine WL.nil ?_
  obtain ⟨rfl, rfl⟩ := tup2 h
  have hs329 : Stp [3, 4, 5] (Lg.OB b0 3 (Lg.OB b1 4 (Lg.OV v1_0 5 (Lg.O0 A)))) w O25 wd326 := (Stp.trans (Stp.up hst27 rfl) (Stp.trans (Stp.up hst324 rfl) (Stp.up hst327 rfl)))
  have hf330 := hb20.st hst324 rfl
  have hf331 := hf330.st hst327 rfl
  have hf332 := hf23.st hst324 rfl rfl rfl
  have hf333 := hf332.st hst327 rfl rfl rfl
  exact At.res (.inr rfl) rfl .nil ⟨v22, rfl, (Stp.modL hs329 (sB (sB sV1)) rfl rfl), hb328.blk, (OwnSl.outG hf333 hs329 (lowB (lowB (lowV low0 rfl rfl) rfl rfl) rfl rfl) (lsB (lsB (lbV (ln0 rfl)) rfl) rfl)), hf331.blk⟩

theorem c_bitio_Writer_Len {A : Nat → Prop} {v0_0 : Value} {a0 : bitio_Writer} {b0 : Nat} {w : World} (hs0_0 : Sl Rep.b w A v0_0 a0.b) (hb0 : w.heap[b0]? = some (.cells (List.toArray [v0_0, vi a0.n]) 64 (0, 0))) (hm0 : A b0) {r0 : Int} (h : bitio_Writer_Len a0 = some r0) : Rets Tryd.prog 17 [Value.pointer (some ⟨b0, 0, none⟩)] w (fun v w' => v = vi r0 ∧ Ext w w') := by
 unfold bitio_Writer_Len at h
 refine Rets.enter Tryd.func17 rfl rfl ?_
 have hf11 : Sl Rep.b w (imm (Lg.O0 A)) v0_0 a0.b := (Sl.start hs0_0)
 have hb12 : Blk 0 (Lg.O0 A) w b0 64 [v0_0, vi a0.n] := ⟨(if_pos hm0), hb0⟩
 refine (show WC _ _ _ _ [(0, Value.pointer (some ⟨b0, 0, none⟩))] _ from ?_)
 refine WC.seq ?_
 refine WC.region ?_
 refine WL.y (Y.assign rfl) rfl ?_
 refine WL.nil ?_
 refine At.then ?_
 refine WC.seq ?_
 refine WC.region ?_
 refine WL.y (Y.move rfl) rfl ?_
 refine WL.y (Y.nilCheck rfl) rfl ?_
 refine WL.y (Y.fieldAddr fo64_1 rfl) rfl ?_
 refine WL.y (Y.loadSc ty3 rfl rfl (hb12.cell 1 _ rfl)) rfl ?_
 refine WL.y (Y.assign rfl) rfl ?_
 refine WL.nil ?_
 refine At.then ?_
 refine WC.ret ?_
 obtain rfl := some1 h
 have hs13 : Stp [] (Lg.O0 A) w (Lg.O0 A) w := (Stp.refl _ _ _)
 exact At.res (.inl rfl) rfl (.tmp rfl .nil) ⟨rfl, (Stp.ext hs13 rfl rfl)⟩

theorem c_xor_Cost {A : Nat → Prop} {a0 : List UInt64} {v0 : Value} {w : World} (hs0 : Sl Rep.u w A v0 a0) (hG0 : CellsAt w 0 0 [vi 0, vi 0]) (hGA0 : A 0) (hG1 : CellsAt w 1 0 (gdat1.map vb)) (hGA1 : A 1) {r0 : Int} (h : xor_Cost a0 = some r0) : Rets Tryd.prog 7 [v0] w (fun v w' => v = vi r0 ∧ Ext w w') := by
 unfold xor_Cost at h
 refine Rets.enter Tryd.func7 rfl rfl ?_
 have hf11 : Sl Rep.u w (imm (Lg.O0 A)) v0 a0 := (Sl.start hs0)
 have hG12 : CAt [0, 1] (Lg.O0 A) w 0 0 [vi 0, vi 0] := CAt.glob hG0 (if_pos hGA0)
 have hG13 : CAt [0, 1] (Lg.O0 A) w 1 0 (gdat1.map vb) := CAt.glob hG1 (if_pos hGA1)
 refine (show WC _ _ _ _ [(0, v0)] _ from ?_)
 refine WC.seq ?_
 refine WC.region ?_
 refine WL.y (Y.assign rfl) rfl ?_
 refine WL.nil ?_
 refine At.then ?_
 refine WC.seq ?_
 refine WC.region ?_
 obtain ⟨r14, hp15, h⟩ := bnd h
 refine WL.call (vals := []) kok11 rfl rfl (c_bitio_NewWriter hp15) ?_
 rintro vr23 wd22 ⟨p16, u17, rfl, hm21, f18, f19, f20⟩
 obtain ⟨O24, hold25, hnew26, hst27⟩ := adoptE (Lg.O0 A) (fun k => if k = p16 then 11 else if Value.ownBlock u17 = some k then 12 else 1) hm21
 have hf29 : OwnSl 12 Rep.b 5 O24 wd22 u17 r14.b := RowF.adopt 12 Flat.b f19 hnew26 (fun k hk => (if_neg (fun (e : k = p16) => f20 (e ▸ hk))).trans (if_pos hk))
 have hb28 : Blk 11 O24 wd22 p16 64 [u17, vi r14.n] := Blk.new f18 hnew26 (if_pos rfl)
 obtain ⟨r30, hp31, h⟩ := bnd h
 refine WL.call (vals := []) kok10 rfl rfl (c_xor_NewRow hp31) ?_
 rintro vr36 wd35 ⟨p32, rfl, hm34, f33⟩
 obtain ⟨O37, hold38, hnew39, hst40⟩ := adoptE O24 (fun k => if k = p32 then 13 else 1) hm34
 have hb41 : Blk 13 O37 wd35 p32 62 [vi r30.n, vu r30.last, vi r30.win.ahead, vi r30.win.size] := Blk.new f33 hnew39 (if_pos rfl)
 refine WL.y (Y.assign rfl) rfl ?_
 refine WL.y (Y.assign rfl) rfl ?_
 refine WL.nil ?_
 refine At.then ?_
 refine WC.seq ?_
 refine WC.seq ?_
 refine WC.region ?_
 refine WL.y (Y.move rfl) rfl ?_
 have hf42 := hf11.mono (imm_st hst27 rfl rfl)
 have hf43 := hf42.mono (imm_st hst40 rfl rfl)
 refine WL.y (Y.len ty22 rfl hf43) rfl ?_
 refine WL.y (Y.move rfl) rfl ?_
 refine WL.nil ?_
 refine At.then ?_
 refine WC.block ?_
 obtain ⟨p66, h, hk68⟩ := flow1 h
 obtain ⟨k67, h⟩ := loop_some h
 refine WC.joinB 0 (σ := (List UInt8 × Int × Own × Value)) (fun x w' => p66 = .go (x.1, x.2.1) ∧ Stp [11, 12, 13, 1001] O37 wd35 x.2.2.1 w' ∧ OwnSl 1002 Rep.b 5 x.2.2.1 w' x.2.2.2 x.1 ∧ Blk 11 x.2.2.1 w' p16 64 [x.2.2.2, vi x.2.1]) (fun x => [(3, Value.pointer (some ⟨p16, 0, none⟩))]) ?_ ?_
 ·have hf69 := hf29.st hst40 rfl rfl rfl
  obtain ⟨O70, hst71, ho72⟩ := OwnSl.rlb 1001 rfl hf69
  have hf73 := hb28.st hst40 rfl
  have hf74 := hf73.st hst71 rfl
  have hf75 := hb41.st hst71 rfl
  refine WC.loop (σ := (List UInt8 × Int × Int × UInt64 × Int × Int × Int × Own × Value)) (fun x k w' => loopN k (xor_Cost_lp1 a0) (x.1, x.2.1, x.2.2.1, x.2.2.2.1, x.2.2.2.2.1, x.2.2.2.2.2.1, x.2.2.2.2.2.2.1) = some p66 ∧ Stp [11, 12, 13, 1001] O37 wd35 x.2.2.2.2.2.2.2.1 w' ∧ OwnSl 1001 Rep.b 5 x.2.2.2.2.2.2.2.1 w' x.2.2.2.2.2.2.2.2 x.1 ∧ Blk 11 x.2.2.2.2.2.2.2.1 w' p16 64 [x.2.2.2.2.2.2.2.2, vi x.2.1] ∧ Blk 13 x.2.2.2.2.2.2.2.1 w' p32 62 [vi x.2.2.1, vu x.2.2.2.1, vi x.2.2.2.2.1, vi x.2.2.2.2.2.1]) (fun x => [(3, Value.pointer (some ⟨p16, 0, none⟩)), (4, Value.pointer (some ⟨p32, 0, none⟩)), (9, v0), (10, vi (a0.length : Int)), (11, vi x.2.2.2.2.2.2.1)]) (r14.b, r14.n, r30.n, r30.last, r30.win.ahead, r30.win.size, 0, O70, u17) k67 (.cons rfl (.cons rfl (.cons rfl (.cons rfl (.cons rfl .nil))))) ⟨h, (Stp.up hst71 rfl), ho72, hf74, hf75⟩ ?_
  rintro ⟨c45, c48, c50, c51, c52, c53, x54, O55, v46⟩ k67 wd56 ⟨h, hst57, hf47, hb44, hb49⟩
  obtain ⟨j76, q77, rfl, h, hn78⟩ := rnd1 h
  unfold xor_Cost_lp1 at h
  try dsimp only at h hst57 hf47 hb44 hb49
  refine (show WC _ _ _ _ [(3, Value.pointer (some ⟨p16, 0, none⟩)), (4, Value.pointer (some ⟨p32, 0, none⟩)), (9, v0), (10, vi (a0.length : Int)), (11, vi x54)] _ from ?_)
  refine WC.seq ?_
  refine WC.region ?_
  refine WL.y (Y.lss_i rfl rfl) rfl ?_
  refine WL.nil ?_
  refine At.then ?_
  refine WC.seq ?_
  rcases cnd h with ⟨hc79, h⟩ | ⟨hc79, h⟩
  ·refine WC.condT' rfl hc79 ?_
   refine WC.skip ?_
   refine At.then ?_
   refine WC.seq ?_
   refine WC.block ?_
   refine WC.seq ?_
   refine WC.region ?_
   obtain ⟨e80, he80, h⟩ := bnd h
   have hf89 := hf43.mono (imm_st hst57 rfl rfl)
   obtain ⟨b81, off90, cap88, cs87, hv82, hi83, hl84, hc85, hok86, hA91⟩ := Sl.at2 hf89 he80
   obtain rfl := hok86
   replace hc85 : CellsAt _ _ _ [vu e80] := hc85
   have hca92 := CAt.imm hc85 hA91
   refine WL.y (Y.indexAddr ty22 ty23 rfl hv82 rfl hi83 hl84) rfl ?_
   refine WL.y (Y.loadSc ty23 rfl rfl hca92.at_) rfl ?_
   refine WL.y (Y.assign rfl) rfl ?_
   refine WL.nil ?_
   refine At.then ?_
   refine WC.region ?_
   refine WL.y (Y.move rfl) rfl ?_
   refine WL.y (Y.move rfl) rfl ?_
   refine WL.y (Y.move rfl) rfl ?_
   have hf93 := hG12.st hst27 rfl
   have hf94 := hf93.st hst40 rfl
   have hf95 := hf94.st hst57 rfl
   have hf96 := hG13.st hst27 rfl
   have hf97 := hf96.st hst40 rfl
   have hf98 := hf97.st hst57 rfl
   obtain ⟨⟨r99, r100⟩, hp101, h⟩ := bnd h
   refine WL.call (vals := [Value.pointer (some ⟨p32, 0, none⟩), Value.pointer (some ⟨p16, 0, none⟩), vu e80]) kok16 rfl rfl (c_xor_Row_Put (A := out [13, 11, 1001] O55) (a0 := (xor_Row.mk c50 c51 (xor_window.mk c52 c53))) (a1 := (bitio_Writer.mk c45 c48)) hb49.blk hf47.row hb44.blk hf95.at_ (CAt.inO hf95 rfl rfl) hf98.at_ (CAt.inO hf98 rfl rfl) (ne_blk hb49.lab hb44.lab rfl) (ne_lab hf47 hb49.lab rfl) (ne_lab hf47 hb44.lab rfl) (fun k hk => ⟨out_ne hb49.lab rfl k hk, out_ne hb44.lab rfl k hk, out_neV (w := wd56) hf47.labs rfl k hk⟩) hp101) ?_
   rintro vr108 wd107 ⟨z102, rfl, hm106, f103, f104, f105⟩
   obtain ⟨O109, hold110, hnew111, hst112⟩ := adopt O55 (fun k => if Value.ownBlock z102 = some k then 1001 else 1) [13, 11, 1001] hm106 (memOr (memB hb49.lab rfl) (memOr (memB hb44.lab rfl) (memV hf47.labs rfl)))
   have hb113 : Blk 13 O109 wd107 p32 62 [vi r99.n, vu r99.last, vi r99.win.ahead, vi r99.win.size] := Blk.adopt hb49 hold110 f103
   have ho114 : OwnSl 1001 Rep.b 5 O109 wd107 z102 r100.b := RowG.adopt Flat.b hf47.labs f104 hold110 hnew111 (fun k hk => if_pos hk)
   have hb115 : Blk 11 O109 wd107 p16 64 [z102, vi r100.n] := Blk.adopt hb44 hold110 f105
   refine WL.nil ?_
   refine At.inBlock ?_
   refine At.then ?_
   refine WC.region ?_
   refine WL.y (Y.add_i rfl rfl) rfl ?_
   refine WL.y (Y.move rfl) rfl ?_
   refine WL.nil ?_
   exact At.round (r100.b, r100.n, r99.n, r99.last, r99.win.ahead, r99.win.size, w64 (x54 + 1), O109, z102) j76 (Nat.lt_succ_self _) ⟨next1 h hn78, (Stp.trans (Stp.up hst57 rfl) (Stp.up hst112 rfl)), ho114, hb115, hb113⟩ (.cons rfl (.cons rfl (.cons rfl (.cons rfl (.cons rfl .nil)))))
  ·refine WC.condF' rfl hc79 ?_
   refine WC.exit ?_
   refine At.thenX ?_
   refine At.loopX ?_
   obtain ⟨O116, hst117, ho118⟩ := OwnSl.rlb 1002 rfl hf47
   have hf119 := hb44.st hst117 rfl
   exact At.hitB (σ := (List UInt8 × Int × Own × Value)) (c45, c48, O116, v46) ⟨brk1 h hn78, (Stp.trans (Stp.up hst57 rfl) (Stp.up hst117 rfl)), ho118, hf119⟩ (.cons rfl .nil)
 ·rintro ⟨c59, c62, O63, v60⟩ wd64 ⟨rfl, hst65, hf61, hb58⟩
  replace h := flowK_go hk68
  try dsimp only at h hst65 hf61 hb58
  refine (show At _ _ _ [(3, Value.pointer (some ⟨p16, 0, none⟩))] _ from ?_)
  refine At.inBlockHit ?_
  refine At.then ?_
  refine WC.seq ?_
  refine WC.region ?_
  refine WL.y (Y.move rfl) rfl ?_
  obtain ⟨r120, hp121, h⟩ := bnd h
  refine WL.call (vals := [Value.pointer (some ⟨p16, 0, none⟩)]) kok17 rfl rfl (c_bitio_Writer_Len (A := fun _ => True) (a0 := (bitio_Writer.mk c59 c62)) (hf61.src.sl) hb58.blk trivial hp121) ?_
  rintro vr124 wd123 ⟨rfl, hm122⟩
  obtain ⟨O125, hold126, hnew127, hst128⟩ := adoptE O63 (fun k => 1) hm122
  refine WL.y (Y.assign rfl) rfl ?_
  refine WL.nil ?_
  refine At.then ?_
  refine WC.ret ?_
  obtain rfl := some1 h
  have hs129 : Stp [11, 12, 13, 1001] (Lg.O0 A) w O125 wd123 := (Stp.trans (Stp.up hst27 rfl) (Stp.trans (Stp.up hst40 rfl) (Stp.trans (Stp.up hst65 rfl) (Stp.up hst128 rfl))))
  exact At.res (.inl rfl) rfl (.tmp rfl .nil) ⟨rfl, (Stp.ext hs129 rfl rfl)⟩

theorem c_xor_Row_Len {A : Nat → Prop} {a0 : xor_Row} {b0 : Nat} {w : World} (hb0 : w.heap[b0]? = some (.cells (List.toArray [vi a0.n, vu a0.last, vi a0.win.ahead, vi a0.win.size]) 62 (0, 0))) (hm0 : A b0) {r0 : Int} (h : xor_Row_Len a0 = some r0) : Rets Tryd.prog 15 [Value.pointer (some ⟨b0, 0, none⟩)] w (fun v w' => v = vi r0 ∧ Ext w w') := by
 unfold xor_Row_Len at h
 refine Rets.enter Tryd.func15 rfl rfl ?_
 have hb11 : Blk 0 (Lg.O0 A) w b0 62 [vi a0.n, vu a0.last, vi a0.win.ahead, vi a0.win.size] := ⟨(if_pos hm0), hb0⟩
 refine (show WC _ _ _ _ [(0, Value.pointer (some ⟨b0, 0, none⟩))] _ from ?_)
 refine WC.seq ?_
 refine WC.region ?_
 refine WL.y (Y.assign rfl) rfl ?_
 refine WL.nil ?_
 refine At.then ?_
 refine WC.seq ?_
 refine WC.region ?_
 refine WL.y (Y.move rfl) rfl ?_
 refine WL.y (Y.nilCheck rfl) rfl ?_
 refine WL.y (Y.fieldAddr fo62_0 rfl) rfl ?_
 refine WL.y (Y.loadSc ty3 rfl rfl (hb11.cell 0 _ rfl)) rfl ?_
 refine WL.y (Y.assign rfl) rfl ?_
 refine WL.nil ?_
 refine At.then ?_
 refine WC.ret ?_
 obtain rfl := some1 h
 have hs12 : Stp [] (Lg.O0 A) w (Lg.O0 A) w := (Stp.refl _ _ _)
 exact At.res (.inl rfl) rfl (.tmp rfl .nil) ⟨rfl, (Stp.ext hs12 rfl rfl)⟩

theorem c_law07_awake {A : Nat → Prop} {w : World} (hG0 : CellsAt w 0 0 [vi 0, vi 0]) (hGA0 : A 0) (hG1 : CellsAt w 1 0 (gdat1.map vb)) (hGA1 : A 1) {r0 : Bool} (h : law07_awake = some r0) : Rets Tryd.prog 6 [] w (fun v w' => v = Value.bool r0 ∧ Ext w w') := by
 unfold law07_awake at h
 refine Rets.enter Tryd.func6 rfl rfl ?_
 have hG11 : CAt [0, 1] (Lg.O0 A) w 0 0 [vi 0, vi 0] := CAt.glob hG0 (if_pos hGA0)
 have hG12 : CAt [0, 1] (Lg.O0 A) w 1 0 (gdat1.map vb) := CAt.glob hG1 (if_pos hGA1)
 refine (show WC _ _ _ _ [] _ from ?_)
 refine WC.seq ?_
 refine WC.region ?_
 refine WL.y (Y.assign rfl) rfl ?_
 refine WL.nil ?_
 refine At.then ?_
 refine WC.seq ?_
 refine WC.region ?_
 obtain ⟨r13, hp14, h⟩ := bnd h
 refine WL.call (vals := []) kok11 rfl rfl (c_bitio_NewWriter hp14) ?_
 rintro vr22 wd21 ⟨p15, u16, rfl, hm20, f17, f18, f19⟩
 obtain ⟨O23, hold24, hnew25, hst26⟩ := adoptE (Lg.O0 A) (fun k => if k = p15 then 11 else if Value.ownBlock u16 = some k then 12 else 1) hm20
 have hf28 : OwnSl 12 Rep.b 5 O23 wd21 u16 r13.b := RowF.adopt 12 Flat.b f18 hnew25 (fun k hk => (if_neg (fun (e : k = p15) => f19 (e ▸ hk))).trans (if_pos hk))
 have hb27 : Blk 11 O23 wd21 p15 64 [u16, vi r13.n] := Blk.new f17 hnew25 (if_pos rfl)
 refine WL.y (Y.assign rfl) rfl ?_
 refine WL.nil ?_
 refine At.then ?_
 refine WC.seq ?_
 refine WC.region ?_
 obtain ⟨r29, hp30, h⟩ := bnd h
 refine WL.call (vals := []) kok10 rfl rfl (c_xor_NewRow hp30) ?_
 rintro vr35 wd34 ⟨p31, rfl, hm33, f32⟩
 obtain ⟨O36, hold37, hnew38, hst39⟩ := adoptE O23 (fun k => if k = p31 then 13 else 1) hm33
 have hb40 : Blk 13 O36 wd34 p31 62 [vi r29.n, vu r29.last, vi r29.win.ahead, vi r29.win.size] := Blk.new f32 hnew38 (if_pos rfl)
 refine WL.y (Y.assign rfl) rfl ?_
 refine WL.nil ?_
 refine At.then ?_
 refine WC.seq ?_
 refine WC.seq ?_
 refine WC.region ?_
 refine WL.y (Y.move rfl) rfl ?_
 refine WL.y (Y.eql_nil (r := false) ty36.u rfl rfl rfl) rfl ?_
 refine WL.y (Y.move rfl) rfl ?_
 refine WL.ung rfl rfl ?_
 refine WL.y (Y.move rfl) rfl ?_
 refine WL.ung rfl rfl ?_
 refine WL.y (Y.eql_nil (r := false) ty34.u rfl rfl rfl) rfl ?_
 refine WL.y (Y.pick (b := false) rfl rfl) rfl ?_
 refine WL.nil ?_
 refine At.then ?_
 refine WC.condF rfl ?_
 refine WC.skip ?_
 refine At.then ?_
 refine WC.seq ?_
 refine WC.region ?_
 refine WL.y (Y.move rfl) rfl ?_
 refine WL.y (Y.move rfl) rfl ?_
 have hf41 := hf28.st hst39 rfl rfl rfl
 have hf42 := hb27.st hst39 rfl
 have hf43 := hG11.st hst26 rfl
 have hf44 := hf43.st hst39 rfl
 have hf45 := hG12.st hst26 rfl
 have hf46 := hf45.st hst39 rfl
 obtain ⟨⟨r47, r48⟩, hp49, h⟩ := bnd h
 refine WL.call (vals := [Value.pointer (some ⟨p31, 0, none⟩), Value.pointer (some ⟨p15, 0, none⟩), vu 4607182418800017408]) kok16 rfl rfl (c_xor_Row_Put (A := out [13, 11, 12] O36) (a0 := r29) (a1 := r13) hb40.blk hf41.row hf42.blk hf44.at_ (CAt.inO hf44 rfl rfl) hf46.at_ (CAt.inO hf46 rfl rfl) (ne_blk hb40.lab hf42.lab rfl) (ne_lab hf41 hb40.lab rfl) (ne_lab hf41 hf42.lab rfl) (fun k hk => ⟨out_ne hb40.lab rfl k hk, out_ne hf42.lab rfl k hk, out_neV (w := wd34) hf41.labs rfl k hk⟩) hp49) ?_
 rintro vr56 wd55 ⟨z50, rfl, hm54, f51, f52, f53⟩
 obtain ⟨O57, hold58, hnew59, hst60⟩ := adopt O36 (fun k => if Value.ownBlock z50 = some k then 12 else 1) [13, 11, 12] hm54 (memOr (memB hb40.lab rfl) (memOr (memB hf42.lab rfl) (memV hf41.labs rfl)))
 have hb61 : Blk 13 O57 wd55 p31 62 [vi r47.n, vu r47.last, vi r47.win.ahead, vi r47.win.size] := Blk.adopt hb40 hold58 f51
 have ho62 : OwnSl 12 Rep.b 5 O57 wd55 z50 r48.b := RowG.adopt Flat.b hf41.labs f52 hold58 hnew59 (fun k hk => if_pos hk)
 have hb63 : Blk 11 O57 wd55 p15 64 [z50, vi r48.n] := Blk.adopt hf42 hold58 f53
 refine WL.nil ?_
 refine At.then ?_
 refine WC.seq ?_
 refine WC.region ?_
 refine WL.y (Y.move rfl) rfl ?_
 refine WL.y (Y.move rfl) rfl ?_
 have hf64 := hf44.st hst60 rfl
 have hf65 := hf46.st hst60 rfl
 obtain ⟨⟨r66, r67⟩, hp68, h⟩ := bnd h
 refine WL.call (vals := [Value.pointer (some ⟨p31, 0, none⟩), Value.pointer (some ⟨p15, 0, none⟩), vu 4607182418800017408]) kok16 rfl rfl (c_xor_Row_Put (A := out [13, 11, 12] O57) (a0 := r47) (a1 := r48) hb61.blk ho62.row hb63.blk hf64.at_ (CAt.inO hf64 rfl rfl) hf65.at_ (CAt.inO hf65 rfl rfl) (ne_blk hb61.lab hb63.lab rfl) (ne_lab ho62 hb61.lab rfl) (ne_lab ho62 hb63.lab rfl) (fun k hk => ⟨out_ne hb61.lab rfl k hk, out_ne hb63.lab rfl k hk, out_neV (w := wd55) ho62.labs rfl k hk⟩) hp68) ?_
 rintro vr75 wd74 ⟨z69, rfl, hm73, f70, f71, f72⟩
 obtain ⟨O76, hold77, hnew78, hst79⟩ := adopt O57 (fun k => if Value.ownBlock z69 = some k then 12 else 1) [13, 11, 12] hm73 (memOr (memB hb61.lab rfl) (memOr (memB hb63.lab rfl) (memV ho62.labs rfl)))
 have hb80 : Blk 13 O76 wd74 p31 62 [vi r66.n, vu r66.last, vi r66.win.ahead, vi r66.win.size] := Blk.adopt hb61 hold77 f70
 have ho81 : OwnSl 12 Rep.b 5 O76 wd74 z69 r67.b := RowG.adopt Flat.b ho62.labs f71 hold77 hnew78 (fun k hk => if_pos hk)
 have hb82 : Blk 11 O76 wd74 p15 64 [z69, vi r67.n] := Blk.adopt hb63 hold77 f72
 refine WL.nil ?_
 refine At.then ?_
 refine WC.seq ?_
 refine WC.region ?_
 refine WL.y (Y.move rfl) rfl ?_
 refine WL.y (Y.move rfl) rfl ?_
 have hf83 := hf64.st hst79 rfl
 have hf84 := hf65.st hst79 rfl
 obtain ⟨⟨r85, r86⟩, hp87, h⟩ := bnd h
 refine WL.call (vals := [Value.pointer (some ⟨p31, 0, none⟩), Value.pointer (some ⟨p15, 0, none⟩), vu 4611686018427387904]) kok16 rfl rfl (c_xor_Row_Put (A := out [13, 11, 12] O76) (a0 := r66) (a1 := r67) hb80.blk ho81.row hb82.blk hf83.at_ (CAt.inO hf83 rfl rfl) hf84.at_ (CAt.inO hf84 rfl rfl) (ne_blk hb80.lab hb82.lab rfl) (ne_lab ho81 hb80.lab rfl) (ne_lab ho81 hb82.lab rfl) (fun k hk => ⟨out_ne hb80.lab rfl k hk, out_ne hb82.lab rfl k hk, out_neV (w := wd74) ho81.labs rfl k hk⟩) hp87) ?_
 rintro vr94 wd93 ⟨z88, rfl, hm92, f89, f90, f91⟩
 obtain ⟨O95, hold96, hnew97, hst98⟩ := adopt O76 (fun k => if Value.ownBlock z88 = some k then 12 else 1) [13, 11, 12] hm92 (memOr (memB hb80.lab rfl) (memOr (memB hb82.lab rfl) (memV ho81.labs rfl)))
 have hb99 : Blk 13 O95 wd93 p31 62 [vi r85.n, vu r85.last, vi r85.win.ahead, vi r85.win.size] := Blk.adopt hb80 hold96 f89
 have ho100 : OwnSl 12 Rep.b 5 O95 wd93 z88 r86.b := RowG.adopt Flat.b ho81.labs f90 hold96 hnew97 (fun k hk => if_pos hk)
 have hb101 : Blk 11 O95 wd93 p15 64 [z88, vi r86.n] := Blk.adopt hb82 hold96 f91
 refine WL.nil ?_
 refine At.then ?_
 refine WC.seq ?_
 refine WC.region ?_
 refine WL.y (Y.move rfl) rfl ?_
 obtain ⟨r102, hp103, h⟩ := bnd h
 refine WL.call (vals := [Value.pointer (some ⟨p15, 0, none⟩)]) kok17 rfl rfl (c_bitio_Writer_Len (A := fun _ => True) (a0 := r86) (ho100.src.sl) hb101.blk trivial hp103) ?_
 rintro vr106 wd105 ⟨rfl, hm104⟩
 obtain ⟨O107, hold108, hnew109, hst110⟩ := adoptE O95 (fun k => 1) hm104
 refine WL.y (Y.eql_i rfl rfl) rfl ?_
 refine WL.y (Y.move rfl) rfl ?_
 obtain ⟨p115, h, hk116⟩ := bnd h
 refine WL.cut 4 (σ := (Bool × Own)) (fun x w' => x.1 = p115 ∧ Stp [] O107 wd105 x.2 w') (fun x => [(27, Value.bool x.1)]) ?_ ?_
 ·rcases cnd h with ⟨hE117, h⟩ | ⟨hE117, h⟩
  ·refine WL.ren 23 rfl (congrArg Value.bool hE117) ?_
   refine WL.ung rfl rfl ?_
   refine WL.y (Y.move rfl) rfl ?_
   refine WL.ung rfl rfl ?_
   have hf118 := hb99.st hst110 rfl
   obtain ⟨r119, hp120, h⟩ := bnd h
   refine WL.call (vals := [Value.pointer (some ⟨p31, 0, none⟩)]) kok15 rfl rfl (c_xor_Row_Len (A := fun _ => True) (a0 := r85) hf118.blk trivial hp120) ?_
   rintro vr123 wd122 ⟨rfl, hm121⟩
   obtain ⟨O124, hold125, hnew126, hst127⟩ := adoptE O107 (fun k => 1) hm121
   refine WL.ung rfl rfl ?_
   refine WL.y (Y.eql_i rfl rfl) rfl ?_
   refine WL.y (Y.pick (b := true) rfl rfl) rfl ?_
   exact WL.nil (At.join (σ := (Bool × Own)) (decide (r119 = 3), O124) ⟨some1 h, (Stp.up hst127 rfl)⟩ (.cons rfl .nil))
  ·refine WL.ren 23 rfl (congrArg Value.bool hE117) ?_
   refine WL.gS rfl rfl rfl rfl ?_
   refine WL.gS rfl rfl rfl rfl ?_
   refine WL.gS rfl rfl rfl rfl ?_
   refine WL.y (Y.pick (b := false) rfl rfl) rfl ?_
   exact WL.nil (At.join (σ := (Bool × Own)) (false, O107) ⟨some1 h, (Stp.refl _ _ _)⟩ (.cons rfl .nil))
 ·rintro ⟨x111, O112⟩ wd113 ⟨rfl, hst114⟩
  replace h := hk116
  try dsimp only at h hst114
  refine (show WL _ _ _ _ _ [(27, Value.bool x111)] _ from ?_)
  refine WL.y (Y.move rfl) rfl ?_
  obtain ⟨p132, h, hk133⟩ := bnd h
  refine WL.cut 4 (σ := (Bool × Own)) (fun x w' => x.1 = p132 ∧ Stp [] O112 wd113 x.2 w') (fun x => [(32, Value.bool x.1)]) ?_ ?_
  ·rcases cnd h with ⟨hE134, h⟩ | ⟨hE134, h⟩
   ·refine WL.ren 28 rfl (congrArg Value.bool hE134) ?_
    refine WL.ung rfl rfl ?_
    refine WL.buildSlice (O := O112) (R := Rep.u) (vals := [(0, vu 1), (1, vu 1)]) 14 [vu 1, vu 1] (xs := [1, 1]) (by decide) ty22 ty23 (by decide) (by decide) (Fits.evalp rfl) (by kernel_rfl) rfl ⟨[vu 1], [vu 1], rfl, rfl, ⟨[vu 1], [], rfl, rfl, rfl⟩⟩ rfl ?_
    intro v135 O137 wd138 hst139 ho136
    refine WL.ung rfl rfl ?_
    have hf140 := hf83.st hst98 rfl
    have hf141 := hf140.st hst110 rfl
    have hf142 := hf141.st hst114 rfl
    have hf143 := hf142.st hst139 rfl
    have hf144 := hf84.st hst98 rfl
    have hf145 := hf144.st hst110 rfl
    have hf146 := hf145.st hst114 rfl
    have hf147 := hf146.st hst139 rfl
    obtain ⟨r148, hp149, h⟩ := bnd h
    refine WL.call (vals := [v135]) kok7 rfl rfl (c_xor_Cost (A := fun _ => True) (ho136.src.sl) hf143.at_ trivial hf147.at_ trivial hp149) ?_
    rintro vr152 wd151 ⟨rfl, hm150⟩
    obtain ⟨O153, hold154, hnew155, hst156⟩ := adoptE O137 (fun k => 1) hm150
    refine WL.ung rfl rfl ?_
    refine WL.y (Y.eql_i rfl rfl) rfl ?_
    refine WL.y (Y.pick (b := true) rfl rfl) rfl ?_
    exact WL.nil (At.join (σ := (Bool × Own)) (decide (r148 = 65), O153) ⟨some1 h, (Stp.trans (Stp.up hst139 rfl) (Stp.up hst156 rfl))⟩ (.cons rfl .nil))
   ·refine WL.ren 28 rfl (congrArg Value.bool hE134) ?_
    refine WL.gS rfl rfl rfl rfl ?_
    refine WL.gS rfl rfl rfl rfl ?_
    refine WL.gS rfl rfl rfl rfl ?_
    refine WL.y (Y.pick (b := false) rfl rfl) rfl ?_
    exact WL.nil (At.join (σ := (Bool × Own)) (false, O112) ⟨some1 h, (Stp.refl _ _ _)⟩ (.cons rfl .nil))
  ·rintro ⟨x128, O129⟩ wd130 ⟨rfl, hst131⟩
   replace h := hk133
   try dsimp only at h hst131
   refine (show WL _ _ _ _ _ [(32, Value.bool x128)] _ from ?_)
   refine WL.y (Y.assign rfl) rfl ?_
   refine WL.nil ?_
   refine At.then ?_
   refine WC.ret ?_
   obtain rfl := some1 h
   have hs157 : Stp [11, 12, 13] (Lg.O0 A) w O129 wd130 := (Stp.trans (Stp.up hst26 rfl) (Stp.trans (Stp.up hst39 rfl) (Stp.trans (Stp.up hst60 rfl) (Stp.trans (Stp.up hst79 rfl) (Stp.trans (Stp.up hst98 rfl) (Stp.trans (Stp.up hst110 rfl) (Stp.trans (Stp.up hst114 rfl) (Stp.up hst131 rfl))))))))
   exact At.res (.inl rfl) rfl (.tmp rfl .nil) ⟨rfl, (Stp.ext hs157 rfl rfl)⟩

theorem c_law07_XorSame {A : Nat → Prop} {a0 : List UInt64} {v0 : Value} {a1 : UInt64} {a2 : Int} {w : World} (hs0 : Sl Rep.u w A v0 a0) (hG0 : CellsAt w 0 0 [vi 0, vi 0]) (hGA0 : A 0) (hG1 : CellsAt w 1 0 (gdat1.map vb)) (hGA1 : A 1) {r0 : Bool} (h : law07_XorSame a0 a1 a2 = some r0) : Rets Tryd.prog 3 [v0, vu a1, vi a2] w (fun v w' => v = Value.bool r0 ∧ Ext w w') := by
 unfold law07_XorSame at h
 refine Rets.enter Tryd.func3 rfl rfl ?_
 have hf11 : Sl Rep.u w (imm (Lg.O0 A)) v0 a0 := (Sl.start hs0)
 have hG12 : CAt [0, 1] (Lg.O0 A) w 0 0 [vi 0, vi 0] := CAt.glob hG0 (if_pos hGA0)
 have hG13 : CAt [0, 1] (Lg.O0 A) w 1 0 (gdat1.map vb) := CAt.glob hG1 (if_pos hGA1)
 refine (show WC _ _ _ _ [(0, v0), (1, vu a1), (2, vi a2)] _ from ?_)
 refine WC.seq ?_
 refine WC.region ?_
 refine WL.y (Y.assign rfl) rfl ?_
 refine WL.nil ?_
 refine At.then ?_
 refine WC.seq ?_
 refine WC.seq ?_
 refine WC.region ?_
 obtain ⟨r14, hp15, h⟩ := bnd h
 refine WL.call (vals := []) kok6 rfl rfl (c_law07_awake (A := fun _ => True) hG12.at_ trivial hG13.at_ trivial hp15) ?_
 rintro vr18 wd17 ⟨rfl, hm16⟩
 obtain ⟨O19, hold20, hnew21, hst22⟩ := adoptE (Lg.O0 A) (fun k => 1) hm16
 refine WL.y (Y.not rfl) rfl ?_
 refine WL.nil ?_
 refine At.then ?_
 rcases cnd h with ⟨hc23, h⟩ | ⟨hc23, h⟩
 ·refine WC.condT' rfl hc23 ?_
  refine WC.seq ?_
  refine WC.region ?_
  refine WL.y (Y.assign rfl) rfl ?_
  refine WL.nil ?_
  refine At.then ?_
  refine WC.ret ?_
  refine At.thenR ?_
  obtain rfl := some1 h
  have hs24 : Stp [] (Lg.O0 A) w O19 wd17 := (Stp.up hst22 rfl)
  exact At.res (.inl rfl) rfl (.tmp rfl .nil) ⟨rfl, (Stp.ext hs24 rfl rfl)⟩
 ·refine WC.condF' rfl hc23 ?_
  refine WC.skip ?_
  refine At.then ?_
  refine WC.seq ?_
  refine WC.seq ?_
  refine WC.region ?_
  refine WL.y (Y.move rfl) rfl ?_
  have hf25 := hf11.mono (imm_st hst22 rfl rfl)
  refine WL.y (Y.len ty22 rfl hf25) rfl ?_
  refine WL.y (Y.gtr_i rfl rfl) rfl ?_
  refine WL.y (Y.move rfl) rfl ?_
  refine WL.cut 3 (σ := Unit) (fun _ w' => wd17 = w') (fun _ => [(0, v0), (1, vu a1), (2, vi a2), (19, Value.bool ((decide (300 < (a0.length : Int))) || (decide (a2 < 0))))]) ?_ ?_
  ·refine WL.part 16 rfl (fun hE26 => ?_) (fun hE26 => ?_)
   ·refine WL.gS rfl rfl rfl rfl ?_
    refine WL.gS rfl rfl rfl rfl ?_
    refine WL.y (Y.pick (b := true) rfl rfl) rfl ?_
    refine WL.ren (v' := Value.bool ((decide (300 < (a0.length : Int))) || (decide (a2 < 0)))) 19 rfl (congrArg Value.bool (orT hE26)) ?_
    exact WL.nil (At.join () rfl (.cons rfl (.cons rfl (.cons rfl (.cons rfl .nil)))))
   ·refine WL.ung rfl rfl ?_
    refine WL.y (Y.move rfl) rfl ?_
    refine WL.ung rfl rfl ?_
    refine WL.y (Y.lss_i rfl rfl) rfl ?_
    refine WL.y (Y.pick (b := false) rfl rfl) rfl ?_
    refine WL.ren (v' := Value.bool ((decide (300 < (a0.length : Int))) || (decide (a2 < 0)))) 19 rfl (congrArg Value.bool (orF hE26)) ?_
    exact WL.nil (At.join () rfl (.cons rfl (.cons rfl (.cons rfl (.cons rfl .nil)))))
  ·rintro _ _ rfl
   refine (show WL _ _ _ _ _ [(0, v0), (1, vu a1), (2, vi a2), (19, Value.bool ((decide (300 < (a0.length : Int))) || (decide (a2 < 0))))] _ from ?_)
   refine WL.y (Y.move rfl) rfl ?_
   refine WL.cut 3 (σ := Unit) (fun _ w' => wd17 = w') (fun _ => [(0, v0), (1, vu a1), (2, vi a2), (23, Value.bool (((decide (300 < (a0.length : Int))) || (decide (a2 < 0))) || (decide (300 < a2))))]) ?_ ?_
   ·refine WL.part 20 rfl (fun hE27 => ?_) (fun hE27 => ?_)
    ·refine WL.gS rfl rfl rfl rfl ?_
     refine WL.gS rfl rfl rfl rfl ?_
     refine WL.y (Y.pick (b := true) rfl rfl) rfl ?_
     refine WL.ren (v' := Value.bool (((decide (300 < (a0.length : Int))) || (decide (a2 < 0))) || (decide (300 < a2)))) 23 rfl (congrArg Value.bool (orT hE27)) ?_
     exact WL.nil (At.join () rfl (.cons rfl (.cons rfl (.cons rfl (.cons rfl .nil)))))
    ·refine WL.ung rfl rfl ?_
     refine WL.y (Y.move rfl) rfl ?_
     refine WL.ung rfl rfl ?_
     refine WL.y (Y.gtr_i rfl rfl) rfl ?_
     refine WL.y (Y.pick (b := false) rfl rfl) rfl ?_
     refine WL.ren (v' := Value.bool (((decide (300 < (a0.length : Int))) || (decide (a2 < 0))) || (decide (300 < a2)))) 23 rfl (congrArg Value.bool (orF hE27)) ?_
     exact WL.nil (At.join () rfl (.cons rfl (.cons rfl (.cons rfl (.cons rfl .nil)))))
   ·rintro _ _ rfl
    refine (show WL _ _ _ _ _ [(0, v0), (1, vu a1), (2, vi a2), (23, Value.bool (((decide (300 < (a0.length : Int))) || (decide (a2 < 0))) || (decide (300 < a2))))] _ from ?_)
    refine WL.nil ?_
    refine At.then ?_
    rcases cnd h with ⟨hc28, h⟩ | ⟨hc28, h⟩
    ·refine WC.condT' rfl hc28 ?_
     refine WC.seq ?_
     refine WC.region ?_
     refine WL.y (Y.assign rfl) rfl ?_
     refine WL.nil ?_
     refine At.then ?_
     refine WC.ret ?_
     refine At.thenR ?_
     obtain rfl := some1 h
     have hs29 : Stp [] (Lg.O0 A) w O19 wd17 := (Stp.up hst22 rfl)
     exact At.res (.inl rfl) rfl (.tmp rfl .nil) ⟨rfl, (Stp.ext hs29 rfl rfl)⟩
    ·refine WC.condF' rfl hc28 ?_
     refine WC.skip ?_
     refine At.then ?_
     refine WC.seq ?_
     refine WC.region ?_
     refine WL.y (Y.assign rfl) rfl ?_
     refine WL.nil ?_
     refine At.then ?_
     refine WC.seq ?_
     refine WC.seq ?_
     refine WC.region ?_
     refine WL.y (Y.assign rfl) rfl ?_
     refine WL.nil ?_
     refine At.then ?_
     obtain ⟨p36, h, hk37⟩ := bnd h
     refine WC.join (σ := (List UInt64 × Own × Value)) (fun x w' => x.1 = p36 ∧ Stp [12, 1001, 1002] O19 wd17 x.2.1 w' ∧ OwnSl 1004 Rep.u 23 x.2.1 w' x.2.2 x.1) (fun x => [(0, v0), (2, vi a2), (7, x.2.2)]) ?_ ?_
     ·refine WC.block ?_
      obtain ⟨p51, h, hk53⟩ := flow1 h
      obtain ⟨k52, h⟩ := loop_some h
      refine WC.joinB 0 (σ := (List UInt64 × Own × Value)) (fun x w' => p51 = .go x.1 ∧ Stp [12, 1001] O19 wd17 x.2.1 w' ∧ OwnSl 1002 Rep.u 23 x.2.1 w' x.2.2 x.1) (fun x => [(0, v0), (2, vi a2), (7, x.2.2)]) ?_ ?_
      ·refine WC.loop (σ := (List UInt64 × Int × Own × Value)) (fun x k w' => loopN k (law07_XorSame_lp1 a1 a2) (x.1, x.2.1) = some p51 ∧ Stp [12, 1001] O19 wd17 x.2.2.1 w' ∧ OwnSl 1001 Rep.u 23 x.2.2.1 w' x.2.2.2 x.1) (fun x => [(0, v0), (1, vu a1), (2, vi a2), (7, x.2.2.2), (8, vi x.2.1)]) ([], 0, O19, Value.slice none 0 0) k52 (.cons rfl (.cons rfl (.cons rfl (.cons rfl (.cons rfl .nil))))) ⟨h, (Stp.refl _ _ _), (OwnSl.nil 1001 Rep.u 23)⟩ ?_
       rintro ⟨same38, i41, O42, v39⟩ k52 wd43 ⟨h, hst44, hf40⟩
       obtain ⟨j54, q55, rfl, h, hn56⟩ := rnd1 h
       unfold law07_XorSame_lp1 at h
       try dsimp only at h hst44 hf40
       refine (show WC _ _ _ _ [(0, v0), (1, vu a1), (2, vi a2), (7, v39), (8, vi i41)] _ from ?_)
       refine WC.seq ?_
       refine WC.seq ?_
       refine WC.region ?_
       refine WL.y (Y.move rfl) rfl ?_
       refine WL.y (Y.move rfl) rfl ?_
       refine WL.y (Y.lss_i rfl rfl) rfl ?_
       refine WL.nil ?_
       refine At.then ?_
       rcases cnd h with ⟨hc57, h⟩ | ⟨hc57, h⟩
       ·refine WC.condT' rfl hc57 ?_
        refine WC.skip ?_
        refine At.then ?_
        refine WC.seq ?_
        refine WC.block ?_
        refine WC.region ?_
        refine WL.y (Y.move rfl) rfl ?_
        refine WL.y (Y.move rfl) rfl ?_
        refine WL.buildSlice (O := O42) (R := Rep.u) (vals := [(0, vu a1)]) 11 [vu a1] (xs := [a1]) (by decide) ty22 ty23 (by decide) (by decide) (Fits.evalp rfl) (by kernel_rfl) rfl ⟨[vu a1], [], rfl, rfl, rfl⟩ rfl ?_
        intro v58 O60 wd61 hst62 ho59
        obtain ⟨xs63, hxs63, h⟩ := bnd h
        have hf64 := hf40.st hst62 rfl rfl rfl
        refine WL.append (by decide) ty22 ty23 rfl (by decide) rfl rfl hf64 ho59.src hxs63 rfl ?_
        intro v68 O65 wd66 hst67 ho69
        refine WL.y (Y.assign rfl) rfl ?_
        refine WL.nil ?_
        refine At.inBlock ?_
        refine At.then ?_
        refine WC.region ?_
        refine WL.y (Y.move rfl) rfl ?_
        refine WL.y (Y.add_i rfl rfl) rfl ?_
        obtain ⟨i70, hi70, h⟩ := lt1 h
        refine WL.yE (Y.assign rfl) (congrArg vi hi70.symm) rfl ?_
        refine WL.nil ?_
        exact At.round (xs63, i70, O65, v68) j54 (Nat.lt_succ_self _) ⟨next1 h hn56, (Stp.trans (Stp.up hst44 rfl) (Stp.trans (Stp.up hst62 rfl) (Stp.up hst67 rfl))), ho69⟩ (.cons rfl (.cons rfl (.cons rfl (.cons rfl (.cons rfl .nil)))))
       ·refine WC.condF' rfl hc57 ?_
        refine WC.exit ?_
        refine At.thenX ?_
        refine At.loopX ?_
        obtain ⟨O71, hst72, ho73⟩ := OwnSl.rlb 1002 rfl hf40
        exact At.hitB (σ := (List UInt64 × Own × Value)) (same38, O71, v39) ⟨brk1 h hn56, (Stp.trans (Stp.up hst44 rfl) (Stp.up hst72 rfl)), ho73⟩ (.cons rfl (.cons rfl (.cons rfl .nil)))
      ·rintro ⟨same45, O48, v46⟩ wd49 ⟨rfl, hst50, hf47⟩
       replace h := flowK_go hk53
       try dsimp only at h hst50 hf47
       refine (show At _ _ _ [(0, v0), (2, vi a2), (7, v46)] _ from ?_)
       refine At.inBlockHit ?_
       obtain ⟨O74, hst75, ho76⟩ := OwnSl.rlb 1004 rfl hf47
       exact At.join (σ := (List UInt64 × Own × Value)) (same45, O74, v46) ⟨some1 h, (Stp.trans (Stp.up hst50 rfl) (Stp.up hst75 rfl)), ho76⟩ (.cons rfl (.cons rfl (.cons rfl .nil)))
     ·rintro ⟨same30, O33, v31⟩ wd34 ⟨rfl, hst35, hf32⟩
      replace h := hk37
      try dsimp only at h hst35 hf32
      refine (show At _ _ _ [(0, v0), (2, vi a2), (7, v31)] _ from ?_)
      refine At.then ?_
      refine WC.seq ?_
      refine WC.region ?_
      refine WL.y (Y.move rfl) rfl ?_
      have hf77 := hG12.st hst22 rfl
      have hf78 := hf77.st hst35 rfl
      have hf79 := hG13.st hst22 rfl
      have hf80 := hf79.st hst35 rfl
      obtain ⟨r81, hp82, h⟩ := bnd h
      refine WL.call (vals := [v31]) kok7 rfl rfl (c_xor_Cost (A := fun _ => True) (hf32.src.sl) hf78.at_ trivial hf80.at_ trivial hp82) ?_
      rintro vr85 wd84 ⟨rfl, hm83⟩
      obtain ⟨O86, hold87, hnew88, hst89⟩ := adoptE O33 (fun k => 1) hm83
      refine WL.y (Y.assign rfl) rfl ?_
      refine WL.nil ?_
      refine At.then ?_
      refine WC.seq ?_
      refine WC.seq ?_
      refine WC.region ?_
      refine WL.y (Y.move rfl) rfl ?_
      refine WL.y (Y.gtr_i rfl rfl) rfl ?_
      refine WL.y (Y.move rfl) rfl ?_
      refine WL.cut 5 (σ := Unit) (fun _ w' => wd84 = w') (fun _ => [(0, v0), (2, vi a2), (9, vi r81), (42, Value.bool ((decide (0 < a2)) && (!decide (r81 = w64 (63 + a2)))))]) ?_ ?_
      ·refine WL.part 37 rfl (fun hE90 => ?_) (fun hE90 => ?_)
       ·refine WL.ung rfl rfl ?_
        refine WL.y (Y.move rfl) rfl ?_
        refine WL.ung rfl rfl ?_
        refine WL.y (Y.move rfl) rfl ?_
        refine WL.ung rfl rfl ?_
        refine WL.y (Y.add_i rfl rfl) rfl ?_
        refine WL.ung rfl rfl ?_
        refine WL.y (Y.neq_i rfl rfl) rfl ?_
        refine WL.y (Y.pick (b := true) rfl rfl) rfl ?_
        refine WL.ren (v' := Value.bool ((decide (0 < a2)) && (!decide (r81 = w64 (63 + a2))))) 42 rfl (congrArg Value.bool (andT hE90)) ?_
        exact WL.nil (At.join () rfl (.cons rfl (.cons rfl (.cons rfl (.cons rfl .nil)))))
       ·refine WL.gS rfl rfl rfl rfl ?_
        refine WL.gS rfl rfl rfl rfl ?_
        refine WL.gS rfl rfl rfl rfl ?_
        refine WL.gS rfl rfl rfl rfl ?_
        refine WL.y (Y.pick (b := false) rfl rfl) rfl ?_
        refine WL.ren (v' := Value.bool ((decide (0 < a2)) && (!decide (r81 = w64 (63 + a2))))) 42 rfl (congrArg Value.bool (andF hE90)) ?_
        exact WL.nil (At.join () rfl (.cons rfl (.cons rfl (.cons rfl (.cons rfl .nil)))))
      ·rintro _ _ rfl
       refine (show WL _ _ _ _ _ [(0, v0), (2, vi a2), (9, vi r81), (42, Value.bool ((decide (0 < a2)) && (!decide (r81 = w64 (63 + a2)))))] _ from ?_)
       refine WL.y (Y.move rfl) rfl ?_
       refine WL.cut 7 (σ := Unit) (fun _ w' => wd84 = w') (fun _ => [(0, v0), (50, Value.bool (((decide (0 < a2)) && (!decide (r81 = w64 (63 + a2)))) || ((decide (a2 = 0)) && (!decide (r81 = 0)))))]) ?_ ?_
       ·refine WL.part 43 rfl (fun hE91 => ?_) (fun hE91 => ?_)
        ·refine WL.gS rfl rfl rfl rfl ?_
         refine WL.gS rfl rfl rfl rfl ?_
         refine WL.gS rfl rfl rfl rfl ?_
         refine WL.gS rfl rfl rfl rfl ?_
         refine WL.gS rfl rfl rfl rfl ?_
         refine WL.gS rfl rfl rfl rfl ?_
         refine WL.y (Y.pick (b := true) rfl rfl) rfl ?_
         refine WL.ren (v' := Value.bool (((decide (0 < a2)) && (!decide (r81 = w64 (63 + a2)))) || ((decide (a2 = 0)) && (!decide (r81 = 0))))) 50 rfl (congrArg Value.bool (orT hE91)) ?_
         exact WL.nil (At.join () rfl (.cons rfl (.cons rfl .nil)))
        ·refine WL.ung rfl rfl ?_
         refine WL.y (Y.move rfl) rfl ?_
         refine WL.ung rfl rfl ?_
         refine WL.y (Y.eql_i rfl rfl) rfl ?_
         refine WL.ung rfl rfl ?_
         refine WL.y (Y.move rfl) rfl ?_
         refine WL.cut 3 (σ := Unit) (fun _ w' => wd84 = w') (fun _ => [(0, v0), (43, Value.bool false), (49, Value.bool ((decide (a2 = 0)) && (!decide (r81 = 0))))]) ?_ ?_
         ·refine WL.part 46 rfl (fun hE92 => ?_) (fun hE92 => ?_)
          ·refine WL.ung rfl rfl ?_
           refine WL.y (Y.move rfl) rfl ?_
           refine WL.ung rfl rfl ?_
           refine WL.y (Y.neq_i rfl rfl) rfl ?_
           refine WL.ung rfl rfl ?_
           refine WL.y (Y.pick (b := true) rfl rfl) rfl ?_
           refine WL.ren (v' := Value.bool ((decide (a2 = 0)) && (!decide (r81 = 0)))) 49 rfl (congrArg Value.bool (andT hE92)) ?_
           exact WL.nil (At.join () rfl (.cons rfl (.cons rfl (.cons rfl .nil))))
          ·refine WL.gS rfl rfl rfl rfl ?_
           refine WL.gS rfl rfl rfl rfl ?_
           refine WL.ung rfl rfl ?_
           refine WL.y (Y.pick (b := false) rfl rfl) rfl ?_
           refine WL.ren (v' := Value.bool ((decide (a2 = 0)) && (!decide (r81 = 0)))) 49 rfl (congrArg Value.bool (andF hE92)) ?_
           exact WL.nil (At.join () rfl (.cons rfl (.cons rfl (.cons rfl .nil))))
         ·rintro _ _ rfl
          refine (show WL _ _ _ _ _ [(0, v0), (43, Value.bool false), (49, Value.bool ((decide (a2 = 0)) && (!decide (r81 = 0))))] _ from ?_)
          refine WL.y (Y.pick (b := false) rfl rfl) rfl ?_
          refine WL.ren (v' := Value.bool (((decide (0 < a2)) && (!decide (r81 = w64 (63 + a2)))) || ((decide (a2 = 0)) && (!decide (r81 = 0))))) 50 rfl (congrArg Value.bool (orF hE91)) ?_
          exact WL.nil (At.join () rfl (.cons rfl (.cons rfl .nil)))
       ·rintro _ _ rfl
        refine (show WL _ _ _ _ _ [(0, v0), (50, Value.bool (((decide (0 < a2)) && (!decide (r81 = w64 (63 + a2)))) || ((decide (a2 = 0)) && (!decide (r81 = 0)))))] _ from ?_)
        refine WL.nil ?_
        refine At.then ?_
        rcases cnd h with ⟨hc93, h⟩ | ⟨hc93, h⟩
        ·refine WC.condT' rfl hc93 ?_
         refine WC.seq ?_
         refine WC.region ?_
         refine WL.y (Y.assign rfl) rfl ?_
         refine WL.nil ?_
         refine At.then ?_
         refine WC.ret ?_
         refine At.thenR ?_
         obtain rfl := some1 h
         have hs94 : Stp [12, 1001, 1002] (Lg.O0 A) w O86 wd84 := (Stp.trans (Stp.up hst22 rfl) (Stp.trans (Stp.up hst35 rfl) (Stp.up hst89 rfl)))
         exact At.res (.inl rfl) rfl (.tmp rfl .nil) ⟨rfl, (Stp.ext hs94 rfl rfl)⟩
        ·refine WC.condF' rfl hc93 ?_
         refine WC.skip ?_
         refine At.then ?_
         refine WC.seq ?_
         refine WC.region ?_
         refine WL.y (Y.move rfl) rfl ?_
         have hf95 := hf25.mono (imm_st hst35 rfl rfl)
         have hf96 := hf95.mono (imm_st hst89 rfl rfl)
         have hf97 := hf78.st hst89 rfl
         have hf98 := hf80.st hst89 rfl
         obtain ⟨r99, hp100, h⟩ := bnd h
         refine WL.call (vals := [v0]) kok7 rfl rfl (c_xor_Cost (A := fun _ => True) (Sl.all hf96) hf97.at_ trivial hf98.at_ trivial hp100) ?_
         rintro vr103 wd102 ⟨rfl, hm101⟩
         obtain ⟨O104, hold105, hnew106, hst107⟩ := adoptE O86 (fun k => 1) hm101
         refine WL.y (Y.assign rfl) rfl ?_
         refine WL.nil ?_
         refine At.then ?_
         refine WC.seq ?_
         refine WC.region ?_
         refine WL.y (Y.move rfl) rfl ?_
         refine WL.y (Y.move rfl) rfl ?_
         have hf108 := hf96.mono (imm_st hst107 rfl rfl)
         refine WL.y (Y.len ty22 rfl hf108) rfl ?_
         refine WL.y (Y.mul_i rfl rfl) rfl ?_
         refine WL.y (Y.leq_i rfl rfl) rfl ?_
         refine WL.y (Y.move rfl) rfl ?_
         refine WL.cut 11 (σ := Unit) (fun _ w' => wd102 = w') (fun _ => [(69, Value.bool ((decide (r99 ≤ w64 (77 * (a0.length : Int)))) && ((decide ((a0.length : Int) = 0)) || (decide (w64 (63 + (a0.length : Int)) ≤ r99)))))]) ?_ ?_
         ·refine WL.part 58 rfl (fun hE109 => ?_) (fun hE109 => ?_)
          ·refine WL.ung rfl rfl ?_
           refine WL.y (Y.move rfl) rfl ?_
           refine WL.ung rfl rfl ?_
           refine WL.y (Y.len ty22 rfl hf108) rfl ?_
           refine WL.ung rfl rfl ?_
           refine WL.y (Y.eql_i rfl rfl) rfl ?_
           refine WL.ung rfl rfl ?_
           refine WL.y (Y.move rfl) rfl ?_
           refine WL.cut 6 (σ := Unit) (fun _ w' => wd102 = w') (fun _ => [(58, Value.bool true), (68, Value.bool ((decide ((a0.length : Int) = 0)) || (decide (w64 (63 + (a0.length : Int)) ≤ r99))))]) ?_ ?_
           ·refine WL.part 62 rfl (fun hE110 => ?_) (fun hE110 => ?_)
            ·refine WL.gS rfl rfl rfl rfl ?_
             refine WL.gS rfl rfl rfl rfl ?_
             refine WL.gS rfl rfl rfl rfl ?_
             refine WL.gS rfl rfl rfl rfl ?_
             refine WL.gS rfl rfl rfl rfl ?_
             refine WL.ung rfl rfl ?_
             refine WL.y (Y.pick (b := true) rfl rfl) rfl ?_
             refine WL.ren (v' := Value.bool ((decide ((a0.length : Int) = 0)) || (decide (w64 (63 + (a0.length : Int)) ≤ r99)))) 68 rfl (congrArg Value.bool (orT hE110)) ?_
             exact WL.nil (At.join () rfl (.cons rfl (.cons rfl .nil)))
            ·refine WL.ung rfl rfl ?_
             refine WL.y (Y.move rfl) rfl ?_
             refine WL.ung rfl rfl ?_
             refine WL.y (Y.move rfl) rfl ?_
             refine WL.ung rfl rfl ?_
             refine WL.y (Y.len ty22 rfl hf108) rfl ?_
             refine WL.ung rfl rfl ?_
             refine WL.y (Y.add_i rfl rfl) rfl ?_
             refine WL.ung rfl rfl ?_
             refine WL.y (Y.geq_i rfl rfl) rfl ?_
             refine WL.ung rfl rfl ?_
             refine WL.y (Y.pick (b := false) rfl rfl) rfl ?_
             refine WL.ren (v' := Value.bool ((decide ((a0.length : Int) = 0)) || (decide (w64 (63 + (a0.length : Int)) ≤ r99)))) 68 rfl (congrArg Value.bool (orF hE110)) ?_
             exact WL.nil (At.join () rfl (.cons rfl (.cons rfl .nil)))
           ·rintro _ _ rfl
            refine (show WL _ _ _ _ _ [(58, Value.bool true), (68, Value.bool ((decide ((a0.length : Int) = 0)) || (decide (w64 (63 + (a0.length : Int)) ≤ r99))))] _ from ?_)
            refine WL.y (Y.pick (b := true) rfl rfl) rfl ?_
            refine WL.ren (v' := Value.bool ((decide (r99 ≤ w64 (77 * (a0.length : Int)))) && ((decide ((a0.length : Int) = 0)) || (decide (w64 (63 + (a0.length : Int)) ≤ r99))))) 69 rfl (congrArg Value.bool (andT hE109)) ?_
            exact WL.nil (At.join () rfl (.cons rfl .nil))
          ·refine WL.gS rfl rfl rfl rfl ?_
           refine WL.gS rfl rfl rfl rfl ?_
           refine WL.gS rfl rfl rfl rfl ?_
           refine WL.gS rfl rfl rfl rfl ?_
           refine WL.gS rfl rfl rfl rfl ?_
           refine WL.gS rfl rfl rfl rfl ?_
           refine WL.gS rfl rfl rfl rfl ?_
           refine WL.gS rfl rfl rfl rfl ?_
           refine WL.gS rfl rfl rfl rfl ?_
           refine WL.gS rfl rfl rfl rfl ?_
           refine WL.y (Y.pick (b := false) rfl rfl) rfl ?_
           refine WL.ren (v' := Value.bool ((decide (r99 ≤ w64 (77 * (a0.length : Int)))) && ((decide ((a0.length : Int) = 0)) || (decide (w64 (63 + (a0.length : Int)) ≤ r99))))) 69 rfl (congrArg Value.bool (andF hE109)) ?_
           exact WL.nil (At.join () rfl (.cons rfl .nil))
         ·rintro _ _ rfl
          refine (show WL _ _ _ _ _ [(69, Value.bool ((decide (r99 ≤ w64 (77 * (a0.length : Int)))) && ((decide ((a0.length : Int) = 0)) || (decide (w64 (63 + (a0.length : Int)) ≤ r99)))))] _ from ?_)
          obtain ⟨t111, ht111, h⟩ := lt1 h
          refine WL.yE (Y.assign rfl) (congrArg Value.bool ht111.symm) rfl ?_
          refine WL.nil ?_
          refine At.then ?_
          refine WC.ret ?_
          obtain rfl := some1 h
          have hs112 : Stp [12, 1001, 1002] (Lg.O0 A) w O104 wd102 := (Stp.trans (Stp.up hst22 rfl) (Stp.trans (Stp.up hst35 rfl) (Stp.trans (Stp.up hst89 rfl) (Stp.up hst107 rfl))))
          exact At.res (.inl rfl) rfl (.tmp rfl .nil) ⟨rfl, (Stp.ext hs112 rfl rfl)⟩

end Go.Lg
