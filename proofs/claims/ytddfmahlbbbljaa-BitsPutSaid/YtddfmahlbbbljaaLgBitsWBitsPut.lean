/- The walks of BitsPut and of what it calls, printed by gen.py. -/
import Derived.Test.YtddfmahlbbbljaaLgBitsP
import Derived.Test.YtddfmahlbbbljaaProg
set_option linter.unusedVariables false
namespace Go.Lg
open Go Go.Proofs
set_option maxRecDepth 100000
theorem fmix : Try.prog.follows .mixedOrders = true := by kernel_rfl
theorem ty3 : TyOk Try.prog 3 (.int .i64) 1 8 (.int .i64 0) := tyOk Try.underlying3 (by kernel_rfl)
theorem ty4 : TyOk Try.prog 4 .bool 1 1 (.bool false) := tyOk Try.underlying4 (by kernel_rfl)
theorem ty5 : TyOk Try.prog 5 (.int .u8) 1 1 (.int .u8 0) := tyOk Try.underlying5 (by kernel_rfl)
theorem ty9 : TyOk Try.prog 9 .string 1 16 (.string ⟨#[]⟩) := tyOk Try.underlying9 (by kernel_rfl)
theorem ty23 : TyOk Try.prog 23 (.slice 3) 1 24 (.slice none 0 0) := tyOk Try.underlying23 (by kernel_rfl)
theorem ty25 : TyOk Try.prog 25 (.pointer 73) 1 8 (.pointer none) := tyOk Try.underlying25 (by kernel_rfl)
theorem ty29 : TyOk Try.prog 29 (.int .u64) 1 8 (.int .u64 0) := tyOk Try.underlying29 (by kernel_rfl)
theorem ty30 : TyOk Try.prog 30 (.slice 5) 1 24 (.slice none 0 0) := tyOk Try.underlying30 (by kernel_rfl)
theorem ty32 : TyOk Try.prog 32 (.pointer 77) 1 8 (.pointer none) := tyOk Try.underlying32 (by kernel_rfl)
theorem ty46 : TyOk Try.prog 46 (.slice 49) 1 24 (.slice none 0 0) := tyOk Try.underlying46 (by kernel_rfl)
theorem ty49 : TyOk Try.prog 49 (.struct #[(Field.mk "Kind" 3 0 false "" "" 0), (Field.mk "V" 29 1 false "" "" 8), (Field.mk "N" 3 2 false "" "" 16), (Field.mk "B" 30 3 false "" "" 24)]) 4 48 (.agg #[(.int .i64 0), (.int .u64 0), (.int .i64 0), (.slice none 0 0)]) := tyOk Try.underlying49 (by kernel_rfl)
theorem ty74 : TyOk Try.prog 74 (.int .u64) 1 8 (.int .u64 0) := tyOk Try.underlying74 (by kernel_rfl)
theorem fo49_0 : FieldOk Try.prog 49 0 0 := fieldOk Try.underlying49 rfl rfl (by kernel_rfl)
theorem fo49_1 : FieldOk Try.prog 49 1 1 := fieldOk Try.underlying49 rfl rfl (by kernel_rfl)
theorem fo49_2 : FieldOk Try.prog 49 2 2 := fieldOk Try.underlying49 rfl rfl (by kernel_rfl)
theorem fo49_3 : FieldOk Try.prog 49 3 3 := fieldOk Try.underlying49 rfl rfl (by kernel_rfl)
theorem fo73_0 : FieldOk Try.prog 73 0 0 := fieldOk Try.underlying73 rfl rfl (by kernel_rfl)
theorem fo73_1 : FieldOk Try.prog 73 1 1 := fieldOk Try.underlying73 rfl rfl (by kernel_rfl)
theorem fo77_0 : FieldOk Try.prog 77 0 0 := fieldOk Try.underlying77 rfl rfl (by kernel_rfl)
theorem fo77_1 : FieldOk Try.prog 77 1 1 := fieldOk Try.underlying77 rfl rfl (by kernel_rfl)
theorem fo77_2 : FieldOk Try.prog 77 2 2 := fieldOk Try.underlying77 rfl rfl (by kernel_rfl)
theorem kok11 : CallOk Try.prog 11 := callOk Try.func11 (by kernel_rfl) rfl
theorem kok12 : CallOk Try.prog 12 := callOk Try.func12 (by kernel_rfl) rfl
theorem kok13 : CallOk Try.prog 13 := callOk Try.func13 (by kernel_rfl) rfl
theorem kok14 : CallOk Try.prog 14 := callOk Try.func14 (by kernel_rfl) rfl
theorem kok15 : CallOk Try.prog 15 := callOk Try.func15 (by kernel_rfl) rfl
theorem kok16 : CallOk Try.prog 16 := callOk Try.func16 (by kernel_rfl) rfl
theorem kok17 : CallOk Try.prog 17 := callOk Try.func17 (by kernel_rfl) rfl
theorem kok18 : CallOk Try.prog 18 := callOk Try.func18 (by kernel_rfl) rfl
theorem kok21 : CallOk Try.prog 21 := callOk Try.func21 (by kernel_rfl) rfl
theorem kok23 : CallOk Try.prog 23 := callOk Try.func23 (by kernel_rfl) rfl
theorem kok25 : CallOk Try.prog 25 := callOk Try.func25 (by kernel_rfl) rfl
theorem kok26 : CallOk Try.prog 26 := callOk Try.func26 (by kernel_rfl) rfl
theorem kok27 : CallOk Try.prog 27 := callOk Try.func27 (by kernel_rfl) rfl
theorem kok28 : CallOk Try.prog 28 := callOk Try.func28 (by kernel_rfl) rfl
theorem kok29 : CallOk Try.prog 29 := callOk Try.func29 (by kernel_rfl) rfl
theorem kok46 : CallOk Try.prog 46 := callOk Try.func46 (by kernel_rfl) rfl
theorem kok47 : CallOk Try.prog 47 := callOk Try.func47 (by kernel_rfl) rfl

theorem c_bitio_NewWriter {w : World} {r0 : bitio_Writer} (h : bitio_NewWriter = some r0) : Rets Try.prog 12 [] w (fun v w' => ∃ (p0 : Nat) (u0_0 : Value), v = .pointer (some ⟨p0, 0, none⟩) ∧ Ext w w' ∧ (w'.heap[p0]? = some (.cells (List.toArray [u0_0, vi r0.n]) 73 (0, 0)) ∧ w.heap.size ≤ p0) ∧ RowF Rep.b 5 w w' u0_0 r0.b ∧ Value.ownBlock u0_0 ≠ some p0) := by
  unfold bitio_NewWriter at h
  refine Rets.enter Try.func12 rfl rfl ?_
  refine (show WC _ _ _ _ [] _ from ?_)
  refine WC.seq ?_
  refine WC.region ?_
  refine WL.y (Y.assign rfl) rfl ?_
  refine WL.nil ?_
  refine At.then ?_
  refine WC.seq ?_
  refine WC.region ?_
  refine WL.y (Y.build (vals := []) (cells := [.slice none 0 0, vi 0]) (Fits.evalp rfl) (by kernel_rfl)) rfl ?_
  refine WL.box (O := (Lg.O0 (fun _ => False))) 11 [.slice none 0 0, vi 0] rfl rfl rfl ?_
  intro p12 O13 wd14 hst15 hb11
  refine WL.y (Y.assign rfl) rfl ?_
  refine WL.nil ?_
  refine At.then ?_
  refine WC.ret ?_
  obtain rfl := some1 h
  have hs16 : Stp [] (Lg.O0 (fun _ => False)) w O13 wd14 := (Stp.up hst15 rfl)
  exact At.res (.inl rfl) rfl (.tmp rfl .nil) ⟨p12, .slice none 0 0, rfl, (Stp.ext hs16 rfl rfl), (Blk.outF hb11 hs16 low0 rfl), ⟨RowF.nil, (by simp [Value.ownBlock])⟩⟩

theorem c_bitio_Writer_room {A : Nat → Prop} {v0_0 : Value} {a0 : bitio_Writer} {b0 : Nat} {w : World} (hs0_0 : Sl Rep.b w A v0_0 a0.b) (hb0 : w.heap[b0]? = some (.cells (List.toArray [v0_0, vi a0.n]) 73 (0, 0))) (hm0 : A b0) {r0 : Int} (h : bitio_Writer_room a0 = some r0) : Rets Try.prog 46 [.pointer (some ⟨b0, 0, none⟩)] w (fun v w' => v = vi r0 ∧ Ext w w') := by
  unfold bitio_Writer_room at h
  refine Rets.enter Try.func46 rfl rfl ?_
  have hf11 : Sl Rep.b w (imm (Lg.O0 A)) v0_0 a0.b := (Sl.start hs0_0)
  have hb12 : Blk 0 (Lg.O0 A) w b0 73 [v0_0, vi a0.n] := ⟨(if_pos hm0), hb0⟩
  refine (show WC _ _ _ _ [(0, .pointer (some ⟨b0, 0, none⟩))] _ from ?_)
  refine WC.seq ?_
  refine WC.region ?_
  refine WL.y (Y.assign rfl) rfl ?_
  refine WL.nil ?_
  refine At.then ?_
  refine WC.seq ?_
  refine WC.draw 11 (Lg.O0 A) fmix (by kernel_rfl) ?_
  intro wd13 hst14
  refine WS.y (Y.move rfl) rfl ?_
  refine WS.y (Y.nilCheck rfl) rfl ?_
  refine WS.y (Y.fieldAddr fo73_0 rfl) rfl ?_
  have hf15 := hb12.st hst14 rfl
  refine WS.y (Y.loadSc ty30 rfl rfl (hf15.cell 0 _ rfl)) rfl ?_
  have hf16 := hf11.mono (imm_st hst14 rfl rfl)
  refine WS.y (Y.len ty30 rfl hf16) rfl ?_
  refine WS.y (Y.mul_i rfl rfl) rfl ?_
  refine WS.y (Y.move rfl) rfl ?_
  refine WS.y (Y.nilCheck rfl) rfl ?_
  refine WS.y (Y.fieldAddr fo73_1 rfl) rfl ?_
  refine WS.y (Y.loadSc ty3 rfl rfl (hf15.cell 1 _ rfl)) rfl ?_
  refine WS.y (Y.sub_i rfl rfl) rfl ?_
  refine WS.tail ?_
  obtain ⟨t17, ht17, h⟩ := lt1 h
  refine WL.yE (Y.assign rfl) (congrArg vi ht17.symm) rfl ?_
  refine WL.nil ?_
  refine At.then ?_
  refine WC.ret ?_
  obtain rfl := some1 h
  have hs18 : Stp [] (Lg.O0 A) w (Lg.O0 A) wd13 := (Stp.up hst14 rfl)
  exact At.res (.inl rfl) rfl (.tmp rfl .nil) ⟨rfl, (Stp.ext hs18 rfl rfl)⟩

theorem c_bitio_Writer_Put {v0_0 : Value} {a0 : bitio_Writer} {b0 : Nat} {a1 : UInt64} {a2 : Int} {w : World} (hs0_0 : Row Rep.b 5 w v0_0 a0.b) (hb0 : w.heap[b0]? = some (.cells (List.toArray [v0_0, vi a0.n]) 73 (0, 0))) (hne0_1 : Value.ownBlock v0_0 ≠ some b0) {r0 : Bool} {q0 : bitio_Writer} (h : bitio_Writer_Put a0 a1 a2 = some (r0, q0)) : Rets Try.prog 13 [.pointer (some ⟨b0, 0, none⟩), vu a1, vi a2] w (fun v w' => ∃ (z0_0 : Value), v = .bool r0 ∧ Mod (fun k => k = b0 ∨ Value.ownBlock v0_0 = some k) w w' ∧ RowG Rep.b 5 w w' v0_0 z0_0 q0.b ∧ w'.heap[b0]? = some (.cells (List.toArray [z0_0, vi q0.n]) 73 (0, 0))) := by
  unfold bitio_Writer_Put at h
  refine Rets.enter Try.func13 rfl rfl ?_
  have ho11 : OwnSl 4 Rep.b 5 (Lg.OB b0 3 (Lg.OV v0_0 4 (Lg.O0 (fun _ => False)))) w v0_0 a0.b := Row.start Flat.b hs0_0 (fun k hk => ((if_neg (fun (e : k = b0) => hne0_1 (e ▸ hk))).trans (if_pos hk)))
  have hb12 : Blk 3 (Lg.OB b0 3 (Lg.OV v0_0 4 (Lg.O0 (fun _ => False)))) w b0 73 [v0_0, vi a0.n] := ⟨(if_pos rfl), hb0⟩
  refine (show WC _ _ _ _ [(0, .pointer (some ⟨b0, 0, none⟩)), (1, vu a1), (2, vi a2)] _ from ?_)
  refine WC.seq ?_
  refine WC.region ?_
  refine WL.y (Y.assign rfl) rfl ?_
  refine WL.nil ?_
  refine At.then ?_
  refine WC.seq ?_
  refine WC.seq ?_
  refine WC.region ?_
  refine WL.y (Y.move rfl) rfl ?_
  refine WL.y (Y.lss_i rfl rfl) rfl ?_
  refine WL.y (Y.move rfl) rfl ?_
  refine WL.cut 3 (σ := Unit) (fun _ w' => w = w') (fun _ => [(0, .pointer (some ⟨b0, 0, none⟩)), (1, vu a1), (2, vi a2), (15, .bool ((decide (a2 < 0)) || (decide (64 < a2))))]) ?_ ?_
  · refine WL.part 12 rfl (fun hE13 => ?_) (fun hE13 => ?_)
    · refine WL.gS rfl rfl rfl rfl ?_
      refine WL.gS rfl rfl rfl rfl ?_
      refine WL.y (Y.pick (b := true) rfl rfl) rfl ?_
      refine WL.ren (v' := .bool ((decide (a2 < 0)) || (decide (64 < a2)))) 15 rfl (congrArg Value.bool (orT hE13)) ?_
      exact WL.nil (At.join () rfl (.cons rfl (.cons rfl (.cons rfl (.cons rfl .nil)))))
    · refine WL.ung rfl rfl ?_
      refine WL.y (Y.move rfl) rfl ?_
      refine WL.ung rfl rfl ?_
      refine WL.y (Y.gtr_i rfl rfl) rfl ?_
      refine WL.y (Y.pick (b := false) rfl rfl) rfl ?_
      refine WL.ren (v' := .bool ((decide (a2 < 0)) || (decide (64 < a2)))) 15 rfl (congrArg Value.bool (orF hE13)) ?_
      exact WL.nil (At.join () rfl (.cons rfl (.cons rfl (.cons rfl (.cons rfl .nil)))))
  · rintro _ _ rfl
    refine (show WL _ _ _ _ _ [(0, .pointer (some ⟨b0, 0, none⟩)), (1, vu a1), (2, vi a2), (15, .bool ((decide (a2 < 0)) || (decide (64 < a2))))] _ from ?_)
    refine WL.y (Y.move rfl) rfl ?_
    refine WL.cut 10 (σ := Unit) (fun _ w' => w = w') (fun _ => [(0, .pointer (some ⟨b0, 0, none⟩)), (1, vu a1), (2, vi a2), (26, .bool (((decide (a2 < 0)) || (decide (64 < a2))) || ((decide (a2 < 64)) && (!decide (shrU a1 ((toU64 a2).toNat) = 0)))))]) ?_ ?_
    · refine WL.part 16 rfl (fun hE14 => ?_) (fun hE14 => ?_)
      · refine WL.gS rfl rfl rfl rfl ?_
        refine WL.gS rfl rfl rfl rfl ?_
        refine WL.gS rfl rfl rfl rfl ?_
        refine WL.gS rfl rfl rfl rfl ?_
        refine WL.gS rfl rfl rfl rfl ?_
        refine WL.gS rfl rfl rfl rfl ?_
        refine WL.gS rfl rfl rfl rfl ?_
        refine WL.gS rfl rfl rfl rfl ?_
        refine WL.gS rfl rfl rfl rfl ?_
        refine WL.y (Y.pick (b := true) rfl rfl) rfl ?_
        refine WL.ren (v' := .bool (((decide (a2 < 0)) || (decide (64 < a2))) || ((decide (a2 < 64)) && (!decide (shrU a1 ((toU64 a2).toNat) = 0))))) 26 rfl (congrArg Value.bool (orT hE14)) ?_
        exact WL.nil (At.join () rfl (.cons rfl (.cons rfl (.cons rfl (.cons rfl .nil)))))
      · refine WL.ung rfl rfl ?_
        refine WL.y (Y.move rfl) rfl ?_
        refine WL.ung rfl rfl ?_
        refine WL.y (Y.lss_i rfl rfl) rfl ?_
        refine WL.ung rfl rfl ?_
        refine WL.y (Y.move rfl) rfl ?_
        refine WL.cut 6 (σ := Unit) (fun _ w' => w = w') (fun _ => [(0, .pointer (some ⟨b0, 0, none⟩)), (1, vu a1), (2, vi a2), (16, .bool false), (25, .bool ((decide (a2 < 64)) && (!decide (shrU a1 ((toU64 a2).toNat) = 0))))]) ?_ ?_
        · refine WL.part 19 rfl (fun hE15 => ?_) (fun hE15 => ?_)
          · refine WL.ung rfl rfl ?_
            refine WL.y (Y.move rfl) rfl ?_
            refine WL.ung rfl rfl ?_
            refine WL.y (Y.move rfl) rfl ?_
            refine WL.ung rfl rfl ?_
            refine WL.y (Y.conv_iu ty3.u ty74.u rfl) rfl ?_
            refine WL.ung rfl rfl ?_
            refine WL.y (Y.shr_uu rfl rfl) rfl ?_
            refine WL.ung rfl rfl ?_
            refine WL.y (Y.neq_u (b := 0) rfl rfl) rfl ?_
            refine WL.ung rfl rfl ?_
            refine WL.y (Y.pick (b := true) rfl rfl) rfl ?_
            refine WL.ren (v' := .bool ((decide (a2 < 64)) && (!decide (shrU a1 ((toU64 a2).toNat) = 0)))) 25 rfl (congrArg Value.bool (andT hE15)) ?_
            exact WL.nil (At.join () rfl (.cons rfl (.cons rfl (.cons rfl (.cons rfl (.cons rfl .nil))))))
          · refine WL.gS rfl rfl rfl rfl ?_
            refine WL.gS rfl rfl rfl rfl ?_
            refine WL.gS rfl rfl rfl rfl ?_
            refine WL.gS rfl rfl rfl rfl ?_
            refine WL.gS rfl rfl rfl rfl ?_
            refine WL.ung rfl rfl ?_
            refine WL.y (Y.pick (b := false) rfl rfl) rfl ?_
            refine WL.ren (v' := .bool ((decide (a2 < 64)) && (!decide (shrU a1 ((toU64 a2).toNat) = 0)))) 25 rfl (congrArg Value.bool (andF hE15)) ?_
            exact WL.nil (At.join () rfl (.cons rfl (.cons rfl (.cons rfl (.cons rfl (.cons rfl .nil))))))
        · rintro _ _ rfl
          refine (show WL _ _ _ _ _ [(0, .pointer (some ⟨b0, 0, none⟩)), (1, vu a1), (2, vi a2), (16, .bool false), (25, .bool ((decide (a2 < 64)) && (!decide (shrU a1 ((toU64 a2).toNat) = 0))))] _ from ?_)
          refine WL.y (Y.pick (b := false) rfl rfl) rfl ?_
          refine WL.ren (v' := .bool (((decide (a2 < 0)) || (decide (64 < a2))) || ((decide (a2 < 64)) && (!decide (shrU a1 ((toU64 a2).toNat) = 0))))) 26 rfl (congrArg Value.bool (orF hE14)) ?_
          exact WL.nil (At.join () rfl (.cons rfl (.cons rfl (.cons rfl (.cons rfl .nil)))))
    · rintro _ _ rfl
      refine (show WL _ _ _ _ _ [(0, .pointer (some ⟨b0, 0, none⟩)), (1, vu a1), (2, vi a2), (26, .bool (((decide (a2 < 0)) || (decide (64 < a2))) || ((decide (a2 < 64)) && (!decide (shrU a1 ((toU64 a2).toNat) = 0)))))] _ from ?_)
      refine WL.nil ?_
      refine At.then ?_
      rcases cnd h with ⟨hc16, h⟩ | ⟨hc16, h⟩
      · refine WC.condT' rfl hc16 ?_
        refine WC.seq ?_
        refine WC.region ?_
        refine WL.y (Y.assign rfl) rfl ?_
        refine WL.nil ?_
        refine At.then ?_
        refine WC.ret ?_
        refine At.thenR ?_
        obtain ⟨rfl, rfl⟩ := tup2 h
        have hs17 : Stp [] (Lg.OB b0 3 (Lg.OV v0_0 4 (Lg.O0 (fun _ => False)))) w (Lg.OB b0 3 (Lg.OV v0_0 4 (Lg.O0 (fun _ => False)))) w := (Stp.refl _ _ _)
        exact At.res (.inl rfl) rfl (.tmp rfl .nil) ⟨v0_0, rfl, (Stp.modL hs17 (sB sV1) rfl rfl), (OwnSl.outG ho11 hs17 (lowB (lowV low0 rfl rfl) rfl rfl) (fun k hk => by unfold Lg.OB Lg.OV Lg.O0 at hk; (repeat' split at hk); all_goals first | assumption | exact absurd hk (by decide))), hb12.blk⟩
      · refine WC.condF' rfl hc16 ?_
        refine WC.skip ?_
        refine At.then ?_
        refine WC.seq ?_
        refine WC.block ?_
        obtain ⟨p35, h, hk37⟩ := flow1 h
        obtain ⟨k36, h⟩ := loop_some h
        refine WC.joinB 0 (σ := (List UInt8 × Int × Own × Value)) (fun x w' => p35 = .go (x.1, x.2.1) ∧ Stp [3, 4] (Lg.OB b0 3 (Lg.OV v0_0 4 (Lg.O0 (fun _ => False)))) w x.2.2.1 w' ∧ OwnSl 4 Rep.b 5 x.2.2.1 w' x.2.2.2 x.1 ∧ Blk 3 x.2.2.1 w' b0 73 [x.2.2.2, vi x.2.1]) (fun x => []) ?_ ?_
        · refine WC.loop (σ := (List UInt8 × Int × Int × Own × Value)) (fun x k w' => loopN k (bitio_Writer_Put_lp1 a1) (x.1, x.2.1, x.2.2.1) = some p35 ∧ Stp [3, 4] (Lg.OB b0 3 (Lg.OV v0_0 4 (Lg.O0 (fun _ => False)))) w x.2.2.2.1 w' ∧ OwnSl 4 Rep.b 5 x.2.2.2.1 w' x.2.2.2.2 x.1 ∧ Blk 3 x.2.2.2.1 w' b0 73 [x.2.2.2.2, vi x.2.1]) (fun x => [(0, .pointer (some ⟨b0, 0, none⟩)), (1, vu a1), (2, vi x.2.2.1)]) (a0.b, a0.n, a2, (Lg.OB b0 3 (Lg.OV v0_0 4 (Lg.O0 (fun _ => False)))), v0_0) k36 (.cons rfl (.cons rfl (.cons rfl .nil))) ⟨h, (Stp.refl _ _ _), ho11, hb12⟩ ?_
          rintro ⟨c19, c22, nv23, O24, v20⟩ k36 wd25 ⟨h, hst26, hf21, hb18⟩
          obtain ⟨j38, q39, rfl, h, hn40⟩ := rnd1 h
          unfold bitio_Writer_Put_lp1 at h
          try dsimp only at h hst26 hf21 hb18
          refine (show WC _ _ _ _ [(0, .pointer (some ⟨b0, 0, none⟩)), (1, vu a1), (2, vi nv23)] _ from ?_)
          refine WC.seq ?_
          refine WC.seq ?_
          refine WC.region ?_
          refine WL.y (Y.move rfl) rfl ?_
          refine WL.y (Y.gtr_i rfl rfl) rfl ?_
          refine WL.nil ?_
          refine At.then ?_
          rcases cnd h with ⟨hc41, h⟩ | ⟨hc41, h⟩
          · refine WC.condT' rfl hc41 ?_
            refine WC.skip ?_
            refine At.then ?_
            obtain ⟨p51, h, hk52⟩ := bnd h
            refine WC.join (σ := (List UInt8 × Int × Int × Own × Value)) (fun x w' => (x.1, x.2.1, x.2.2.1) = p51 ∧ Stp [3, 4] O24 wd25 x.2.2.2.1 w' ∧ OwnSl 4 Rep.b 5 x.2.2.2.1 w' x.2.2.2.2 x.1 ∧ Blk 3 x.2.2.2.1 w' b0 73 [x.2.2.2.2, vi x.2.1]) (fun x => [(0, .pointer (some ⟨b0, 0, none⟩)), (1, vu a1), (2, vi x.2.2.1)]) ?_ ?_
            · refine WC.block ?_
              refine WC.seq ?_
              obtain ⟨p60, h, hk61⟩ := bnd h
              refine WC.join (σ := (List UInt8 × Own × Value)) (fun x w' => x.1 = p60 ∧ Stp [3, 4] O24 wd25 x.2.1 w' ∧ OwnSl 4 Rep.b 5 x.2.1 w' x.2.2 x.1 ∧ Blk 3 x.2.1 w' b0 73 [x.2.2, vi c22]) (fun x => [(0, .pointer (some ⟨b0, 0, none⟩)), (1, vu a1), (2, vi nv23)]) ?_ ?_
              · refine WC.seq ?_
                refine WC.region ?_
                refine WL.y (Y.move rfl) rfl ?_
                obtain ⟨r62, hp63, h⟩ := bnd h
                refine WL.call (vals := [.pointer (some ⟨b0, 0, none⟩)]) kok46 rfl rfl (c_bitio_Writer_room (A := fun _ => True) (a0 := (bitio_Writer.mk c19 c22)) (hf21.src.sl) hb18.blk trivial hp63) ?_
                rintro vr66 wd65 ⟨rfl, hm64⟩
                obtain ⟨O67, hold68, hnew69, hst70⟩ := adoptE O24 (fun k => 1) hm64
                refine WL.y (Y.eql_i rfl rfl) rfl ?_
                refine WL.nil ?_
                refine At.then ?_
                rcases cnd h with ⟨hc71, h⟩ | ⟨hc71, h⟩
                · refine WC.condT' rfl hc71 ?_
                  refine WC.region ?_
                  refine WL.y (Y.move rfl) rfl ?_
                  refine WL.y (Y.move rfl) rfl ?_
                  refine WL.y (Y.nilCheck rfl) rfl ?_
                  refine WL.y (Y.fieldAddr fo73_0 rfl) rfl ?_
                  have hf72 := hb18.st hst70 rfl
                  refine WL.y (Y.loadSc ty30 rfl rfl (hf72.cell 0 _ rfl)) rfl ?_
                  refine WL.buildSlice (O := O67) (R := Rep.b) (vals := [(0, vb 0)]) 11 [vb 0] (xs := [0]) (by decide) ty30 ty5 (by decide) (by decide) (Fits.evalp rfl) (by kernel_rfl) rfl ⟨[vb 0], [], rfl, rfl, rfl⟩ rfl ?_
                  intro v73 O75 wd76 hst77 ho74
                  obtain ⟨xs78, hxs78, h⟩ := bnd h
                  have hf79 := hf21.st hst70 rfl rfl rfl
                  have hf80 := hf79.st hst77 rfl rfl rfl
                  refine WL.append (by decide) ty30 ty5 rfl (by decide) rfl rfl hf80 ho74.src hxs78 rfl ?_
                  intro v84 O81 wd82 hst83 ho85
                  refine WL.y (Y.nilCheck rfl) rfl ?_
                  refine WL.y (Y.fieldAddr fo73_0 rfl) rfl ?_
                  have hh89 := h
                  obtain ⟨p86, m87, c88, rfl⟩ := ho85.shape
                  have h := hh89
                  have hf90 := hf72.st hst77 rfl
                  have hf91 := hf90.st hst83 rfl
                  refine WL.store (v := (.slice p86 m87 c88)) (cells' := [(.slice p86 m87 c88), vi c22]) ty30 rfl rfl hf91 rfl (Nat.le_of_ble_eq_true rfl) rfl rfl ?_
                  intro wd92 hst93 hb94
                  refine WL.nil ?_
                  have hf95 := ho85.st hst93 rfl rfl rfl
                  exact At.join (σ := (List UInt8 × Own × Value)) (xs78, O81, (.slice p86 m87 c88)) ⟨some1 h, (Stp.trans (Stp.up hst70 rfl) (Stp.trans (Stp.up hst77 rfl) (Stp.trans (Stp.up hst83 rfl) (Stp.up hst93 rfl)))), hf95, hb94⟩ (.cons rfl (.cons rfl (.cons rfl .nil)))
                · refine WC.condF' rfl hc71 ?_
                  refine WC.skip ?_
                  have hf96 := hf21.st hst70 rfl rfl rfl
                  have hf97 := hb18.st hst70 rfl
                  exact At.join (σ := (List UInt8 × Own × Value)) (c19, O67, v20) ⟨some1 h, (Stp.up hst70 rfl), hf96, hf97⟩ (.cons rfl (.cons rfl (.cons rfl .nil)))
              · rintro ⟨c54, O57, v55⟩ wd58 ⟨rfl, hst59, hf56, hb53⟩
                replace h := hk61
                try dsimp only at h hst59 hf56 hb53
                refine (show At _ _ _ [(0, .pointer (some ⟨b0, 0, none⟩)), (1, vu a1), (2, vi nv23)] _ from ?_)
                refine At.then ?_
                refine WC.seq ?_
                refine WC.region ?_
                refine WL.y (Y.move rfl) rfl ?_
                obtain ⟨r98, hp99, h⟩ := bnd h
                refine WL.call (vals := [.pointer (some ⟨b0, 0, none⟩)]) kok46 rfl rfl (c_bitio_Writer_room (A := fun _ => True) (a0 := (bitio_Writer.mk c54 c22)) (hf56.src.sl) hb53.blk trivial hp99) ?_
                rintro vr102 wd101 ⟨rfl, hm100⟩
                obtain ⟨O103, hold104, hnew105, hst106⟩ := adoptE O57 (fun k => 1) hm100
                refine WL.y (Y.assign rfl) rfl ?_
                refine WL.nil ?_
                refine At.then ?_
                refine WC.seq ?_
                refine WC.region ?_
                refine WL.y (Y.move rfl) rfl ?_
                refine WL.y (Y.move rfl) rfl ?_
                refine WL.y (Y.min_i rfl rfl) rfl ?_
                obtain ⟨k107, hk107, h⟩ := lt1 h
                refine WL.yE (Y.assign rfl) (congrArg vi hk107.symm) rfl ?_
                refine WL.nil ?_
                refine At.then ?_
                refine WC.seq ?_
                refine WC.region ?_
                refine WL.y (Y.move rfl) rfl ?_
                refine WL.y (Y.move rfl) rfl ?_
                refine WL.y (Y.move rfl) rfl ?_
                refine WL.y (Y.sub_i rfl rfl) rfl ?_
                refine WL.y (Y.conv_iu ty3.u ty74.u rfl) rfl ?_
                refine WL.y (Y.shr_uu rfl rfl) rfl ?_
                obtain ⟨piece108, hpiece108, h⟩ := lt1 h
                refine WL.yE (Y.assign rfl) (congrArg vu hpiece108.symm) rfl ?_
                refine WL.nil ?_
                refine At.then ?_
                refine WC.seq ?_
                obtain ⟨p110, h, hk111⟩ := bnd h
                refine WC.join (σ := UInt64) (fun x w' => x = p110 ∧ wd101 = w') (fun x => [(0, .pointer (some ⟨b0, 0, none⟩)), (1, vu a1), (2, vi nv23), (7, vi r98), (8, vi k107), (9, vu x)]) ?_ ?_
                · refine WC.seq ?_
                  refine WC.region ?_
                  refine WL.y (Y.move rfl) rfl ?_
                  refine WL.y (Y.lss_i rfl rfl) rfl ?_
                  refine WL.nil ?_
                  refine At.then ?_
                  rcases cnd h with ⟨hc112, h⟩ | ⟨hc112, h⟩
                  · refine WC.condT' rfl hc112 ?_
                    refine WC.region ?_
                    refine WL.y (Y.move rfl) rfl ?_
                    refine WL.y (Y.move rfl) rfl ?_
                    refine WL.y (Y.conv_iu ty3.u ty74.u rfl) rfl ?_
                    refine WL.y (Y.shl_uu (a := 1) rfl rfl) rfl ?_
                    refine WL.y (Y.sub_u (b := 1) rfl rfl) rfl ?_
                    refine WL.y (Y.and_u rfl rfl) rfl ?_
                    obtain ⟨piece113, hpiece113, h⟩ := lt1 h
                    refine WL.yE (Y.assign rfl) (congrArg vu hpiece113.symm) rfl ?_
                    refine WL.nil ?_
                    exact At.join (σ := UInt64) piece113 ⟨some1 h, rfl⟩ (.cons rfl (.cons rfl (.cons rfl (.cons rfl (.cons rfl (.cons rfl .nil))))))
                  · refine WC.condF' rfl hc112 ?_
                    refine WC.skip ?_
                    exact At.join (σ := UInt64) piece108 ⟨some1 h, rfl⟩ (.cons rfl (.cons rfl (.cons rfl (.cons rfl (.cons rfl (.cons rfl .nil))))))
                · rintro piece109 _ ⟨rfl, rfl⟩
                  replace h := hk111
                  try dsimp only at h
                  refine (show At _ _ _ [(0, .pointer (some ⟨b0, 0, none⟩)), (1, vu a1), (2, vi nv23), (7, vi r98), (8, vi k107), (9, vu piece109)] _ from ?_)
                  refine At.then ?_
                  refine WC.seq ?_
                  refine WC.draw 21 O103 fmix (by kernel_rfl) ?_
                  intro wd114 hst115
                  refine WS.y (Y.move rfl) rfl ?_
                  refine WS.y (Y.nilCheck rfl) rfl ?_
                  refine WS.y (Y.fieldAddr fo73_0 rfl) rfl ?_
                  have hf116 := hb53.st hst106 rfl
                  have hf117 := hf116.st hst115 rfl
                  refine WS.y (Y.loadSc ty30 rfl rfl (hf117.cell 0 _ rfl)) rfl ?_
                  refine WS.y (Y.move rfl) rfl ?_
                  refine WS.y (Y.nilCheck rfl) rfl ?_
                  refine WS.y (Y.fieldAddr fo73_0 rfl) rfl ?_
                  refine WS.y (Y.loadSc ty30 rfl rfl (hf117.cell 0 _ rfl)) rfl ?_
                  have hf118 := hf56.st hst106 rfl rfl rfl
                  have hf119 := hf118.st hst115 rfl rfl rfl
                  refine WS.y (Y.len ty30 rfl hf119.src.sl) rfl ?_
                  refine WS.y (Y.sub_i rfl rfl) rfl ?_
                  obtain ⟨e120, he120, h⟩ := bnd h
                  obtain ⟨b121, cap128, cs127, hv122, hi123, hl124, hc125, hok126⟩ := OwnSl.at hf119 he120
                  obtain rfl := hok126
                  replace hc125 : CellsAt _ _ _ [vb e120] := hc125
                  have hca129 := CAt.own hf119 hv122 hc125
                  refine WS.y (Y.indexAddr ty30 ty5 rfl hv122 rfl hi123 hl124) rfl ?_
                  refine WS.y (Y.loadSc ty5 rfl rfl hca129.at_) rfl ?_
                  refine WS.y (Y.move rfl) rfl ?_
                  refine WS.y (Y.move rfl) rfl ?_
                  refine WS.y (Y.move rfl) rfl ?_
                  refine WS.y (Y.sub_i rfl rfl) rfl ?_
                  refine WS.y (Y.conv_iu ty3.u ty74.u rfl) rfl ?_
                  refine WS.y (Y.shl_uu rfl rfl) rfl ?_
                  refine WS.y (Y.conv_ub ty29.u ty5.u rfl) rfl ?_
                  refine WS.y (Y.or_b rfl rfl) rfl ?_
                  obtain ⟨e130, he130, h⟩ := bnd h
                  obtain ⟨b131, cap138, cs137, hv132, hi133, hl134, hc135, hok136⟩ := OwnSl.at hf119 he130
                  obtain rfl := hok136
                  replace hc135 : CellsAt _ _ _ [vb e130] := hc135
                  have hca139 := CAt.own hf119 hv132 hc135
                  refine WS.y (Y.indexAddr ty30 ty5 rfl hv132 rfl hi133 hl134) rfl ?_
                  refine WS.tail ?_
                  obtain ⟨t140, ht140, h⟩ := lt1 h
                  refine WL.ren 79 rfl (congrArg vb ht140.symm) ?_
                  obtain ⟨xs141, hxs141, h⟩ := bnd h
                  refine WL.storeOwn (by decide) ty5 rfl rfl rfl hf119 hv132 hxs141 ?_
                  intro wd142 hst143 ho144
                  refine WL.nil ?_
                  refine At.then ?_
                  refine WC.seq ?_
                  refine WC.region ?_
                  refine WL.y (Y.move rfl) rfl ?_
                  refine WL.y (Y.nilCheck rfl) rfl ?_
                  refine WL.y (Y.fieldAddr fo73_1 rfl) rfl ?_
                  have hf145 := hf117.st hst143 rfl
                  refine WL.y (Y.loadSc ty3 rfl rfl (hf145.cell 1 _ rfl)) rfl ?_
                  refine WL.y (Y.move rfl) rfl ?_
                  refine WL.y (Y.add_i rfl rfl) rfl ?_
                  refine WL.y (Y.nilCheck rfl) rfl ?_
                  refine WL.y (Y.fieldAddr fo73_1 rfl) rfl ?_
                  obtain ⟨t146, ht146, h⟩ := lt1 h
                  refine WL.ren 86 rfl (congrArg vi ht146.symm) ?_
                  refine WL.store (v := vi t146) (cells' := [v55, vi t146]) ty3 rfl rfl hf145 rfl (Nat.le_of_ble_eq_true rfl) rfl rfl ?_
                  intro wd147 hst148 hb149
                  refine WL.nil ?_
                  refine At.then ?_
                  refine WC.region ?_
                  refine WL.y (Y.move rfl) rfl ?_
                  refine WL.y (Y.move rfl) rfl ?_
                  refine WL.y (Y.sub_i rfl rfl) rfl ?_
                  obtain ⟨nv150, hnv150, h⟩ := lt1 h
                  refine WL.yE (Y.assign rfl) (congrArg vi hnv150.symm) rfl ?_
                  refine WL.nil ?_
                  refine At.inBlock ?_
                  have hf151 := ho144.st hst148 rfl rfl rfl
                  exact At.join (σ := (List UInt8 × Int × Int × Own × Value)) (xs141, t146, nv150, O103, v55) ⟨some1 h, (Stp.trans (Stp.up hst59 rfl) (Stp.trans (Stp.up hst106 rfl) (Stp.trans (Stp.up hst115 rfl) (Stp.trans (Stp.up hst143 rfl) (Stp.up hst148 rfl))))), hf151, hb149⟩ (.cons rfl (.cons rfl (.cons rfl .nil)))
            · rintro ⟨c43, c46, nv47, O48, v44⟩ wd49 ⟨rfl, hst50, hf45, hb42⟩
              replace h := hk52
              try dsimp only at h hst50 hf45 hb42
              refine (show At _ _ _ [(0, .pointer (some ⟨b0, 0, none⟩)), (1, vu a1), (2, vi nv47)] _ from ?_)
              exact At.round (c43, c46, nv47, O48, v44) j38 (Nat.lt_succ_self _) ⟨next1 h hn40, (Stp.trans (Stp.up hst26 rfl) (Stp.up hst50 rfl)), hf45, hb42⟩ (.cons rfl (.cons rfl (.cons rfl .nil)))
          · refine WC.condF' rfl hc41 ?_
            refine WC.exit ?_
            refine At.thenX ?_
            refine At.loopX ?_
            exact At.hitB (σ := (List UInt8 × Int × Own × Value)) (c19, c22, O24, v20) ⟨brk1 h hn40, (Stp.up hst26 rfl), hf21, hb18⟩ .nil
        · rintro ⟨c28, c31, O32, v29⟩ wd33 ⟨rfl, hst34, hf30, hb27⟩
          replace h := flowK_go hk37
          try dsimp only at h hst34 hf30 hb27
          refine (show At _ _ _ [] _ from ?_)
          refine At.inBlockHit ?_
          refine At.then ?_
          refine WC.seq ?_
          refine WC.region ?_
          refine WL.y (Y.assign rfl) rfl ?_
          refine WL.nil ?_
          refine At.then ?_
          refine WC.ret ?_
          obtain ⟨rfl, rfl⟩ := tup2 h
          have hs152 : Stp [3, 4] (Lg.OB b0 3 (Lg.OV v0_0 4 (Lg.O0 (fun _ => False)))) w O32 wd33 := (Stp.up hst34 rfl)
          exact At.res (.inl rfl) rfl (.tmp rfl .nil) ⟨v29, rfl, (Stp.modL hs152 (sB sV1) rfl rfl), (OwnSl.outG hf30 hs152 (lowB (lowV low0 rfl rfl) rfl rfl) (fun k hk => by unfold Lg.OB Lg.OV Lg.O0 at hk; (repeat' split at hk); all_goals first | assumption | exact absurd hk (by decide))), hb27.blk⟩

theorem c_bytes_Clone {A : Nat → Prop} {a0 : List UInt8} {v0 : Value} {w : World} (hs0 : Sl Rep.b w A v0 a0) {r0 : List UInt8} (h : bytes_Clone a0 = some r0) : Rets Try.prog 47 [v0] w (fun v w' => ∃ (u0 : Value), v = u0 ∧ Ext w w' ∧ RowF Rep.b 5 w w' u0 r0) := by
  unfold bytes_Clone at h
  refine Rets.enter Try.func47 rfl rfl ?_
  refine (show WC _ _ _ _ [(0, v0)] _ from ?_)
  refine WC.seq (WC.region (WL.y (Y.assign rfl) rfl (WL.nil (At.then ?_))))
  refine WC.seq (WC.seq (WC.region ?_))
  refine WL.y (Y.move rfl) rfl ?_
  rcases hs0.nilOr with ⟨rfl, rfl⟩ | ⟨q, n, c, rfl⟩
  · refine WL.y (Y.slnil (p := none) (n := 0) (c := 0) ty30.u rfl rfl) rfl (WL.nil (At.then ?_))
    refine WC.condT rfl (WC.seq (WC.region (WL.y (Y.assign rfl) rfl (WL.nil (At.then (WC.ret (At.thenR ?_)))))))
    have : r0 = [] := by simpa [app] using h.symm
    subst this
    exact At.res (.inl rfl) rfl (.tmp rfl .nil) ⟨_, rfl, Ext.refl w, RowF.nil⟩
  · refine WL.y (Y.slnil (p := some _) ty30.u rfl rfl) rfl (WL.nil (At.then ?_))
    refine WC.condF rfl (WC.skip (At.then ?_))
    refine WC.seq (WC.region ?_)
    have hs := hs0
    refine WL.buildSlice (O := Lg.O0 A) (R := Rep.b) (vals := []) 11 [] (xs := []) (by decide) ty30 ty5 (by decide) (by decide) (Fits.evalp rfl) (by kernel_rfl) rfl rfl rfl ?_
    intro v O1 w1 hst1 ho1
    refine WL.y (Y.move rfl) rfl ?_
    have hs1 := (Sl.start hs).mono (imm_st hst1 rfl rfl)
    refine WL.append (by decide) ty30 ty5 rfl (by decide) rfl rfl ho1 hs1.src h rfl ?_
    intro v2 O2 w2 hst2 ho2
    refine WL.y (Y.assign rfl) rfl (WL.nil (At.then (WC.ret ?_)))
    have hs9 : Stp [11] (Lg.O0 A) w O2 w2 := (Stp.trans (Stp.up hst1 rfl) hst2)
    exact At.res (.inl rfl) rfl (.tmp rfl .nil) ⟨_, rfl, Stp.ext hs9 rfl rfl, OwnSl.outF ho2 hs9 low0 rfl⟩

theorem c_bitio_Writer_Bytes {A : Nat → Prop} {v0_0 : Value} {a0 : bitio_Writer} {b0 : Nat} {w : World} (hs0_0 : Sl Rep.b w A v0_0 a0.b) (hb0 : w.heap[b0]? = some (.cells (List.toArray [v0_0, vi a0.n]) 73 (0, 0))) (hm0 : A b0) {r0 : List UInt8} (h : bitio_Writer_Bytes a0 = some r0) : Rets Try.prog 14 [.pointer (some ⟨b0, 0, none⟩)] w (fun v w' => ∃ (u0 : Value), v = u0 ∧ Ext w w' ∧ RowF Rep.b 5 w w' u0 r0) := by
  unfold bitio_Writer_Bytes at h
  refine Rets.enter Try.func14 rfl rfl ?_
  have hf11 : Sl Rep.b w (imm (Lg.O0 A)) v0_0 a0.b := (Sl.start hs0_0)
  have hb12 : Blk 0 (Lg.O0 A) w b0 73 [v0_0, vi a0.n] := ⟨(if_pos hm0), hb0⟩
  refine (show WC _ _ _ _ [(0, .pointer (some ⟨b0, 0, none⟩))] _ from ?_)
  refine WC.seq ?_
  refine WC.region ?_
  refine WL.y (Y.assign rfl) rfl ?_
  refine WL.nil ?_
  refine At.then ?_
  refine WC.seq ?_
  refine WC.region ?_
  refine WL.y (Y.move rfl) rfl ?_
  refine WL.y (Y.nilCheck rfl) rfl ?_
  refine WL.y (Y.fieldAddr fo73_0 rfl) rfl ?_
  refine WL.y (Y.loadSc ty30 rfl rfl (hb12.cell 0 _ rfl)) rfl ?_
  obtain ⟨r13, hp14, h⟩ := bnd h
  refine WL.call (vals := [v0_0]) kok47 rfl rfl (c_bytes_Clone (A := fun _ => True) (Sl.all hf11) hp14) ?_
  rintro vr19 wd18 ⟨_, rfl, hm17, f16⟩
  obtain ⟨O20, hold21, hnew22, hst23⟩ := adoptE (Lg.O0 A) (fun k => if Value.ownBlock vr19 = some k then 11 else 1) hm17
  have hf24 : OwnSl 11 Rep.b 5 O20 wd18 vr19 r13 := RowF.adopt 11 Flat.b f16 hnew22 (fun k hk => if_pos hk)
  refine WL.y (Y.assign rfl) rfl ?_
  refine WL.nil ?_
  refine At.then ?_
  refine WC.ret ?_
  obtain rfl := some1 h
  have hs25 : Stp [] (Lg.O0 A) w O20 wd18 := (Stp.up hst23 rfl)
  exact At.res (.inl rfl) rfl (.tmp rfl .nil) ⟨vr19, rfl, (Stp.ext hs25 rfl rfl), (OwnSl.outF hf24 hs25 low0 rfl)⟩

theorem c_bitio_NewReader {A : Nat → Prop} {a0 : List UInt8} {v0 : Value} {a1 : Int} {w : World} (hs0 : Sl Rep.b w A v0 a0) {r0 : Option bitio_Reader} {r1 : Int} (h : bitio_NewReader a0 a1 = some (r0, r1)) : Rets Try.prog 15 [v0, vi a1] w (fun v w' => ∃ (u0 : Value), v = .tuple (List.toArray [u0, vi r1]) ∧ Ext w w' ∧ OptP u0 r0 fun d => ∃ (p0 : Nat) (u0_0 : Value), u0 = .pointer (some ⟨p0, 0, none⟩) ∧ (w'.heap[p0]? = some (.cells (List.toArray [u0_0, vi d.n, vi d.at_]) 77 (0, 0)) ∧ w.heap.size ≤ p0) ∧ Sl Rep.b w' (fun k => w.heap.size ≤ k ∧ k ≠ p0) u0_0 d.b) := by
  unfold bitio_NewReader at h
  refine Rets.enter Try.func15 rfl rfl ?_
  have hf11 : Sl Rep.b w (imm (Lg.O0 A)) v0 a0 := (Sl.start hs0)
  refine (show WC _ _ _ _ [(0, v0), (1, vi a1)] _ from ?_)
  refine WC.seq ?_
  refine WC.region ?_
  refine WL.y (Y.assign rfl) rfl ?_
  refine WL.y (Y.assign rfl) rfl ?_
  refine WL.nil ?_
  refine At.then ?_
  refine WC.seq ?_
  refine WC.block ?_
  refine WC.seq ?_
  refine WC.region ?_
  refine WL.y (Y.move rfl) rfl ?_
  refine WL.y (Y.lss_i rfl rfl) rfl ?_
  obtain ⟨t12, ht12, h⟩ := lt1 h
  refine WL.yE (Y.assign rfl) (congrArg Value.bool ht12.symm) rfl ?_
  refine WL.nil ?_
  refine At.then ?_
  rcases cnd h with ⟨hc13, h⟩ | ⟨hc13, h⟩
  · refine WC.condT' rfl hc13 ?_
    refine WC.seq ?_
    refine WC.region ?_
    refine WL.y (Y.assign rfl) rfl ?_
    refine WL.y (Y.assign rfl) rfl ?_
    refine WL.nil ?_
    refine At.then ?_
    refine WC.ret ?_
    refine At.inBlockR ?_
    refine At.thenR ?_
    obtain ⟨rfl, rfl⟩ := tup2 h
    have hs14 : Stp [] (Lg.O0 A) w (Lg.O0 A) w := (Stp.refl _ _ _)
    exact At.res (.inl rfl) rfl (.tmp rfl (.tmp rfl .nil)) ⟨.pointer none, rfl, (Stp.ext hs14 rfl rfl), rfl⟩
  · refine WC.condF' rfl hc13 ?_
    refine WC.seq ?_
    refine WC.region ?_
    refine WL.y (Y.move rfl) rfl ?_
    refine WL.y (Y.len ty30 rfl hf11) rfl ?_
    refine WL.y (Y.move rfl) rfl ?_
    refine WL.y (Y.quo_i (by decide) rfl rfl) rfl ?_
    refine WL.y (Y.lss_i rfl rfl) rfl ?_
    refine WL.y (Y.move rfl) rfl ?_
    refine WL.cut 11 (σ := Unit) (fun _ w' => w = w') (fun _ => [(0, v0), (1, vi a1), (26, .bool ((decide ((a0.length : Int) < w64 (a1.tdiv 8))) || ((decide ((a0.length : Int) = w64 (a1.tdiv 8))) && (decide (0 < a1.tmod 8)))))]) ?_ ?_
    · refine WL.part 15 rfl (fun hE15 => ?_) (fun hE15 => ?_)
      · refine WL.gS rfl rfl rfl rfl ?_
        refine WL.gS rfl rfl rfl rfl ?_
        refine WL.gS rfl rfl rfl rfl ?_
        refine WL.gS rfl rfl rfl rfl ?_
        refine WL.gS rfl rfl rfl rfl ?_
        refine WL.gS rfl rfl rfl rfl ?_
        refine WL.gS rfl rfl rfl rfl ?_
        refine WL.gS rfl rfl rfl rfl ?_
        refine WL.gS rfl rfl rfl rfl ?_
        refine WL.gS rfl rfl rfl rfl ?_
        refine WL.y (Y.pick (b := true) rfl rfl) rfl ?_
        refine WL.ren (v' := .bool ((decide ((a0.length : Int) < w64 (a1.tdiv 8))) || ((decide ((a0.length : Int) = w64 (a1.tdiv 8))) && (decide (0 < a1.tmod 8))))) 26 rfl (congrArg Value.bool (orT hE15)) ?_
        exact WL.nil (At.join () rfl (.cons rfl (.cons rfl (.cons rfl .nil))))
      · refine WL.ung rfl rfl ?_
        refine WL.y (Y.move rfl) rfl ?_
        refine WL.ung rfl rfl ?_
        refine WL.y (Y.len ty30 rfl hf11) rfl ?_
        refine WL.ung rfl rfl ?_
        refine WL.y (Y.move rfl) rfl ?_
        refine WL.ung rfl rfl ?_
        refine WL.y (Y.quo_i (by decide) rfl rfl) rfl ?_
        refine WL.ung rfl rfl ?_
        refine WL.y (Y.eql_i rfl rfl) rfl ?_
        refine WL.ung rfl rfl ?_
        refine WL.y (Y.move rfl) rfl ?_
        refine WL.cut 4 (σ := Unit) (fun _ w' => w = w') (fun _ => [(0, v0), (1, vi a1), (15, .bool false), (25, .bool ((decide ((a0.length : Int) = w64 (a1.tdiv 8))) && (decide (0 < a1.tmod 8))))]) ?_ ?_
        · refine WL.part 21 rfl (fun hE16 => ?_) (fun hE16 => ?_)
          · refine WL.ung rfl rfl ?_
            refine WL.y (Y.move rfl) rfl ?_
            refine WL.ung rfl rfl ?_
            refine WL.y (Y.rem_i (by decide) rfl rfl) rfl ?_
            refine WL.ung rfl rfl ?_
            refine WL.y (Y.gtr_i rfl rfl) rfl ?_
            refine WL.ung rfl rfl ?_
            refine WL.y (Y.pick (b := true) rfl rfl) rfl ?_
            refine WL.ren (v' := .bool ((decide ((a0.length : Int) = w64 (a1.tdiv 8))) && (decide (0 < a1.tmod 8)))) 25 rfl (congrArg Value.bool (andT hE16)) ?_
            exact WL.nil (At.join () rfl (.cons rfl (.cons rfl (.cons rfl (.cons rfl .nil)))))
          · refine WL.gS rfl rfl rfl rfl ?_
            refine WL.gS rfl rfl rfl rfl ?_
            refine WL.gS rfl rfl rfl rfl ?_
            refine WL.ung rfl rfl ?_
            refine WL.y (Y.pick (b := false) rfl rfl) rfl ?_
            refine WL.ren (v' := .bool ((decide ((a0.length : Int) = w64 (a1.tdiv 8))) && (decide (0 < a1.tmod 8)))) 25 rfl (congrArg Value.bool (andF hE16)) ?_
            exact WL.nil (At.join () rfl (.cons rfl (.cons rfl (.cons rfl (.cons rfl .nil)))))
        · rintro _ _ rfl
          refine (show WL _ _ _ _ _ [(0, v0), (1, vi a1), (15, .bool false), (25, .bool ((decide ((a0.length : Int) = w64 (a1.tdiv 8))) && (decide (0 < a1.tmod 8))))] _ from ?_)
          refine WL.y (Y.pick (b := false) rfl rfl) rfl ?_
          refine WL.ren (v' := .bool ((decide ((a0.length : Int) < w64 (a1.tdiv 8))) || ((decide ((a0.length : Int) = w64 (a1.tdiv 8))) && (decide (0 < a1.tmod 8))))) 26 rfl (congrArg Value.bool (orF hE15)) ?_
          exact WL.nil (At.join () rfl (.cons rfl (.cons rfl (.cons rfl .nil))))
    · rintro _ _ rfl
      refine (show WL _ _ _ _ _ [(0, v0), (1, vi a1), (26, .bool ((decide ((a0.length : Int) < w64 (a1.tdiv 8))) || ((decide ((a0.length : Int) = w64 (a1.tdiv 8))) && (decide (0 < a1.tmod 8)))))] _ from ?_)
      obtain ⟨t17, ht17, h⟩ := lt1 h
      refine WL.yE (Y.assign rfl) (congrArg Value.bool ht17.symm) rfl ?_
      refine WL.nil ?_
      refine At.then ?_
      rcases cnd h with ⟨hc18, h⟩ | ⟨hc18, h⟩
      · refine WC.condT' rfl hc18 ?_
        refine WC.seq ?_
        refine WC.region ?_
        refine WL.y (Y.assign rfl) rfl ?_
        refine WL.y (Y.assign rfl) rfl ?_
        refine WL.nil ?_
        refine At.then ?_
        refine WC.ret ?_
        refine At.inBlockR ?_
        refine At.thenR ?_
        obtain ⟨rfl, rfl⟩ := tup2 h
        have hs19 : Stp [] (Lg.O0 A) w (Lg.O0 A) w := (Stp.refl _ _ _)
        exact At.res (.inl rfl) rfl (.tmp rfl (.tmp rfl .nil)) ⟨.pointer none, rfl, (Stp.ext hs19 rfl rfl), rfl⟩
      · refine WC.condF' rfl hc18 ?_
        refine WC.seq ?_
        refine WC.region ?_
        refine WL.y (Y.move rfl) rfl ?_
        refine WL.y (Y.len ty30 rfl hf11) rfl ?_
        refine WL.y (Y.move rfl) rfl ?_
        refine WL.y (Y.add_i rfl rfl) rfl ?_
        refine WL.y (Y.quo_i (by decide) rfl rfl) rfl ?_
        refine WL.y (Y.gtr_i rfl rfl) rfl ?_
        obtain ⟨t20, ht20, h⟩ := lt1 h
        refine WL.yE (Y.assign rfl) (congrArg Value.bool ht20.symm) rfl ?_
        refine WL.nil ?_
        refine At.then ?_
        rcases cnd h with ⟨hc21, h⟩ | ⟨hc21, h⟩
        · refine WC.condT' rfl hc21 ?_
          refine WC.seq ?_
          refine WC.region ?_
          refine WL.y (Y.assign rfl) rfl ?_
          refine WL.y (Y.assign rfl) rfl ?_
          refine WL.nil ?_
          refine At.then ?_
          refine WC.ret ?_
          refine At.inBlockR ?_
          refine At.thenR ?_
          obtain ⟨rfl, rfl⟩ := tup2 h
          have hs22 : Stp [] (Lg.O0 A) w (Lg.O0 A) w := (Stp.refl _ _ _)
          exact At.res (.inl rfl) rfl (.tmp rfl (.tmp rfl .nil)) ⟨.pointer none, rfl, (Stp.ext hs22 rfl rfl), rfl⟩
        · refine WC.condF' rfl hc21 ?_
          refine WC.seq ?_
          refine WC.region ?_
          refine WL.y (Y.move rfl) rfl ?_
          refine WL.y (Y.rem_i (by decide) rfl rfl) rfl ?_
          refine WL.y (Y.gtr_i rfl rfl) rfl ?_
          refine WL.y (Y.move rfl) rfl ?_
          obtain ⟨p24, h, hk25⟩ := bnd h
          refine WL.cut 11 (σ := Bool) (fun x w' => x = p24 ∧ w = w') (fun x => [(0, v0), (1, vi a1), (49, .bool x)]) ?_ ?_
          · rcases cnd h with ⟨hE26, h⟩ | ⟨hE26, h⟩
            · refine WL.ren 38 rfl (congrArg Value.bool hE26) ?_
              refine WL.ung rfl rfl ?_
              refine WL.y (Y.move rfl) rfl ?_
              refine WL.ung rfl rfl ?_
              refine WL.y (Y.move rfl) rfl ?_
              refine WL.ung rfl rfl ?_
              refine WL.y (Y.quo_i (by decide) rfl rfl) rfl ?_
              refine WL.ung rfl rfl ?_
              obtain ⟨e27, he27, h⟩ := bnd h
              obtain ⟨b28, off36, cap35, cs34, hv29, hi30, hl31, hc32, hok33, hA37⟩ := Sl.at2 hf11 he27
              obtain rfl := hok33
              replace hc32 : CellsAt _ _ _ [vb e27] := hc32
              have hca38 := CAt.imm hc32 hA37
              refine WL.y (Y.indexAddr ty30 ty5 rfl hv29 rfl hi30 hl31) rfl ?_
              refine WL.ung rfl rfl ?_
              refine WL.y (Y.loadSc ty5 rfl rfl hca38.at_) rfl ?_
              refine WL.ung rfl rfl ?_
              refine WL.y (Y.move rfl) rfl ?_
              refine WL.ung rfl rfl ?_
              refine WL.y (Y.rem_i (by decide) rfl rfl) rfl ?_
              refine WL.ung rfl rfl ?_
              refine WL.y (Y.conv_iu ty3.u ty74.u rfl) rfl ?_
              refine WL.ung rfl rfl ?_
              refine WL.y (Y.shl_bu rfl rfl) rfl ?_
              refine WL.ung rfl rfl ?_
              refine WL.y (Y.neq_b (b := 0) rfl rfl) rfl ?_
              refine WL.y (Y.pick (b := true) rfl rfl) rfl ?_
              exact WL.nil (At.join (σ := Bool) (!decide (shlB e27 ((toU64 (a1.tmod 8)).toNat) = 0)) ⟨some1 h, rfl⟩ (.cons rfl (.cons rfl (.cons rfl .nil))))
            · refine WL.ren 38 rfl (congrArg Value.bool hE26) ?_
              refine WL.gS rfl rfl rfl rfl ?_
              refine WL.gS rfl rfl rfl rfl ?_
              refine WL.gS rfl rfl rfl rfl ?_
              refine WL.gS rfl rfl rfl rfl ?_
              refine WL.gS rfl rfl rfl rfl ?_
              refine WL.gS rfl rfl rfl rfl ?_
              refine WL.gS rfl rfl rfl rfl ?_
              refine WL.gS rfl rfl rfl rfl ?_
              refine WL.gS rfl rfl rfl rfl ?_
              refine WL.gS rfl rfl rfl rfl ?_
              refine WL.y (Y.pick (b := false) rfl rfl) rfl ?_
              exact WL.nil (At.join (σ := Bool) false ⟨some1 h, rfl⟩ (.cons rfl (.cons rfl (.cons rfl .nil))))
          · rintro x23 _ ⟨rfl, rfl⟩
            replace h := hk25
            try dsimp only at h
            refine (show WL _ _ _ _ _ [(0, v0), (1, vi a1), (49, .bool x23)] _ from ?_)
            refine WL.y (Y.assign rfl) rfl ?_
            refine WL.nil ?_
            refine At.then ?_
            rcases cnd h with ⟨hc39, h⟩ | ⟨hc39, h⟩
            · refine WC.condT' rfl hc39 ?_
              refine WC.seq ?_
              refine WC.region ?_
              refine WL.y (Y.assign rfl) rfl ?_
              refine WL.y (Y.assign rfl) rfl ?_
              refine WL.nil ?_
              refine At.then ?_
              refine WC.ret ?_
              refine At.inBlockR ?_
              refine At.thenR ?_
              obtain ⟨rfl, rfl⟩ := tup2 h
              have hs40 : Stp [] (Lg.O0 A) w (Lg.O0 A) w := (Stp.refl _ _ _)
              exact At.res (.inl rfl) rfl (.tmp rfl (.tmp rfl .nil)) ⟨.pointer none, rfl, (Stp.ext hs40 rfl rfl), rfl⟩
            · refine WC.condF' rfl hc39 ?_
              refine WC.skip ?_
              refine At.inBlock ?_
              refine At.then ?_
              refine WC.seq ?_
              refine WC.region ?_
              refine WL.y (Y.move rfl) rfl ?_
              obtain ⟨r41, hp42, h⟩ := bnd h
              refine WL.call (vals := [v0]) kok47 rfl rfl (c_bytes_Clone (A := fun _ => True) (Sl.all hf11) hp42) ?_
              rintro vr47 wd46 ⟨_, rfl, hm45, f44⟩
              obtain ⟨O48, hold49, hnew50, hst51⟩ := adoptE (Lg.O0 A) (fun k => if Value.ownBlock vr47 = some k then 11 else 1) hm45
              have hf52 : OwnSl 11 Rep.b 5 O48 wd46 vr47 r41 := RowF.adopt 11 Flat.b f44 hnew50 (fun k hk => if_pos hk)
              refine WL.y (Y.move rfl) rfl ?_
              have hh56 := h
              obtain ⟨p53, m54, c55, rfl⟩ := hf52.shape
              have h := hh56
              refine WL.y (Y.build (vals := [(0, (.slice p53 m54 c55)), (1, vi a1)]) (cells := [(.slice p53 m54 c55), vi a1, vi 0]) (Fits.evalp rfl) (by kernel_rfl)) rfl ?_
              refine WL.box (O := O48) 12 [(.slice p53 m54 c55), vi a1, vi 0] rfl rfl rfl ?_
              intro p58 O59 wd60 hst61 hb57
              refine WL.y (Y.assign rfl) rfl ?_
              refine WL.y (Y.assign rfl) rfl ?_
              refine WL.nil ?_
              refine At.then ?_
              refine WC.ret ?_
              obtain ⟨rfl, rfl⟩ := tup2 h
              have hf62 := hf52.st hst61 rfl rfl rfl
              obtain ⟨O63, hst64, hf65⟩ := OwnSl.giveF rfl Flat.b hf62
              have hs66 : Stp [11] (Lg.O0 A) w O63 wd60 := (Stp.trans (Stp.up hst51 rfl) (Stp.trans (Stp.up hst61 rfl) (Stp.up hst64 rfl)))
              have hf67 := hb57.st hst64 rfl
              exact At.res (.inl rfl) rfl (.tmp rfl (.tmp rfl .nil)) ⟨.pointer (some ⟨p58, 0, none⟩), rfl, (Stp.ext hs66 rfl rfl), ⟨p58, (.slice p53 m54 c55), rfl, (Blk.outF hf67 hs66 low0 rfl), (Sl.outFN hf65 hs66 low0 hf67.lab rfl)⟩⟩

theorem c_bitio_Writer_Len {A : Nat → Prop} {v0_0 : Value} {a0 : bitio_Writer} {b0 : Nat} {w : World} (hs0_0 : Sl Rep.b w A v0_0 a0.b) (hb0 : w.heap[b0]? = some (.cells (List.toArray [v0_0, vi a0.n]) 73 (0, 0))) (hm0 : A b0) {r0 : Int} (h : bitio_Writer_Len a0 = some r0) : Rets Try.prog 16 [.pointer (some ⟨b0, 0, none⟩)] w (fun v w' => v = vi r0 ∧ Ext w w') := by
  unfold bitio_Writer_Len at h
  refine Rets.enter Try.func16 rfl rfl ?_
  have hf11 : Sl Rep.b w (imm (Lg.O0 A)) v0_0 a0.b := (Sl.start hs0_0)
  have hb12 : Blk 0 (Lg.O0 A) w b0 73 [v0_0, vi a0.n] := ⟨(if_pos hm0), hb0⟩
  refine (show WC _ _ _ _ [(0, .pointer (some ⟨b0, 0, none⟩))] _ from ?_)
  refine WC.seq ?_
  refine WC.region ?_
  refine WL.y (Y.assign rfl) rfl ?_
  refine WL.nil ?_
  refine At.then ?_
  refine WC.seq ?_
  refine WC.region ?_
  refine WL.y (Y.move rfl) rfl ?_
  refine WL.y (Y.nilCheck rfl) rfl ?_
  refine WL.y (Y.fieldAddr fo73_1 rfl) rfl ?_
  refine WL.y (Y.loadSc ty3 rfl rfl (hb12.cell 1 _ rfl)) rfl ?_
  refine WL.y (Y.assign rfl) rfl ?_
  refine WL.nil ?_
  refine At.then ?_
  refine WC.ret ?_
  obtain rfl := some1 h
  have hs13 : Stp [] (Lg.O0 A) w (Lg.O0 A) w := (Stp.refl _ _ _)
  exact At.res (.inl rfl) rfl (.tmp rfl .nil) ⟨rfl, (Stp.ext hs13 rfl rfl)⟩

theorem c_bitio_Reader_Left {A : Nat → Prop} {v0_0 : Value} {a0 : bitio_Reader} {b0 : Nat} {w : World} (hs0_0 : Sl Rep.b w A v0_0 a0.b) (hb0 : w.heap[b0]? = some (.cells (List.toArray [v0_0, vi a0.n, vi a0.at_]) 77 (0, 0))) (hm0 : A b0) {r0 : Int} (h : bitio_Reader_Left a0 = some r0) : Rets Try.prog 18 [.pointer (some ⟨b0, 0, none⟩)] w (fun v w' => v = vi r0 ∧ Ext w w') := by
  unfold bitio_Reader_Left at h
  refine Rets.enter Try.func18 rfl rfl ?_
  have hf11 : Sl Rep.b w (imm (Lg.O0 A)) v0_0 a0.b := (Sl.start hs0_0)
  have hb12 : Blk 0 (Lg.O0 A) w b0 77 [v0_0, vi a0.n, vi a0.at_] := ⟨(if_pos hm0), hb0⟩
  refine (show WC _ _ _ _ [(0, .pointer (some ⟨b0, 0, none⟩))] _ from ?_)
  refine WC.seq ?_
  refine WC.region ?_
  refine WL.y (Y.assign rfl) rfl ?_
  refine WL.nil ?_
  refine At.then ?_
  refine WC.seq ?_
  refine WC.draw 9 (Lg.O0 A) fmix (by kernel_rfl) ?_
  intro wd13 hst14
  refine WS.y (Y.move rfl) rfl ?_
  refine WS.y (Y.nilCheck rfl) rfl ?_
  refine WS.y (Y.fieldAddr fo77_1 rfl) rfl ?_
  have hf15 := hb12.st hst14 rfl
  refine WS.y (Y.loadSc ty3 rfl rfl (hf15.cell 1 _ rfl)) rfl ?_
  refine WS.y (Y.move rfl) rfl ?_
  refine WS.y (Y.nilCheck rfl) rfl ?_
  refine WS.y (Y.fieldAddr fo77_2 rfl) rfl ?_
  refine WS.y (Y.loadSc ty3 rfl rfl (hf15.cell 2 _ rfl)) rfl ?_
  refine WS.y (Y.sub_i rfl rfl) rfl ?_
  refine WS.tail ?_
  obtain ⟨t16, ht16, h⟩ := lt1 h
  refine WL.yE (Y.assign rfl) (congrArg vi ht16.symm) rfl ?_
  refine WL.nil ?_
  refine At.then ?_
  refine WC.ret ?_
  obtain rfl := some1 h
  have hs17 : Stp [] (Lg.O0 A) w (Lg.O0 A) wd13 := (Stp.up hst14 rfl)
  exact At.res (.inl rfl) rfl (.tmp rfl .nil) ⟨rfl, (Stp.ext hs17 rfl rfl)⟩

theorem c_bitio_Reader_Look {A : Nat → Prop} {v0_0 : Value} {a0 : bitio_Reader} {b0 : Nat} {a1 : Int} {w : World} (hs0_0 : Sl Rep.b w A v0_0 a0.b) (hb0 : w.heap[b0]? = some (.cells (List.toArray [v0_0, vi a0.n, vi a0.at_]) 77 (0, 0))) (hm0 : A b0) {r0 : UInt64} {r1 : Bool} (h : bitio_Reader_Look a0 a1 = some (r0, r1)) : Rets Try.prog 23 [.pointer (some ⟨b0, 0, none⟩), vi a1] w (fun v w' => v = .tuple (List.toArray [vu r0, .bool r1]) ∧ Ext w w') := by
  unfold bitio_Reader_Look at h
  refine Rets.enter Try.func23 rfl rfl ?_
  have hf11 : Sl Rep.b w (imm (Lg.O0 A)) v0_0 a0.b := (Sl.start hs0_0)
  have hb12 : Blk 0 (Lg.O0 A) w b0 77 [v0_0, vi a0.n, vi a0.at_] := ⟨(if_pos hm0), hb0⟩
  refine (show WC _ _ _ _ [(0, .pointer (some ⟨b0, 0, none⟩)), (1, vi a1)] _ from ?_)
  refine WC.seq ?_
  refine WC.region ?_
  refine WL.y (Y.assign (v := vu 0) rfl) rfl ?_
  refine WL.y (Y.assign rfl) rfl ?_
  refine WL.nil ?_
  refine At.then ?_
  refine WC.seq ?_
  refine WC.seq ?_
  refine WC.region ?_
  refine WL.y (Y.move rfl) rfl ?_
  refine WL.y (Y.lss_i rfl rfl) rfl ?_
  refine WL.y (Y.move rfl) rfl ?_
  refine WL.cut 3 (σ := Unit) (fun _ w' => w = w') (fun _ => [(0, .pointer (some ⟨b0, 0, none⟩)), (1, vi a1), (16, .bool ((decide (a1 < 0)) || (decide (64 < a1))))]) ?_ ?_
  · refine WL.part 13 rfl (fun hE13 => ?_) (fun hE13 => ?_)
    · refine WL.gS rfl rfl rfl rfl ?_
      refine WL.gS rfl rfl rfl rfl ?_
      refine WL.y (Y.pick (b := true) rfl rfl) rfl ?_
      refine WL.ren (v' := .bool ((decide (a1 < 0)) || (decide (64 < a1)))) 16 rfl (congrArg Value.bool (orT hE13)) ?_
      exact WL.nil (At.join () rfl (.cons rfl (.cons rfl (.cons rfl .nil))))
    · refine WL.ung rfl rfl ?_
      refine WL.y (Y.move rfl) rfl ?_
      refine WL.ung rfl rfl ?_
      refine WL.y (Y.gtr_i rfl rfl) rfl ?_
      refine WL.y (Y.pick (b := false) rfl rfl) rfl ?_
      refine WL.ren (v' := .bool ((decide (a1 < 0)) || (decide (64 < a1)))) 16 rfl (congrArg Value.bool (orF hE13)) ?_
      exact WL.nil (At.join () rfl (.cons rfl (.cons rfl (.cons rfl .nil))))
  · rintro _ _ rfl
    refine (show WL _ _ _ _ _ [(0, .pointer (some ⟨b0, 0, none⟩)), (1, vi a1), (16, .bool ((decide (a1 < 0)) || (decide (64 < a1))))] _ from ?_)
    refine WL.y (Y.move rfl) rfl ?_
    obtain ⟨p18, h, hk19⟩ := bnd h
    refine WL.cut 5 (σ := (Bool × Own)) (fun x w' => x.1 = p18 ∧ Stp [] (Lg.O0 A) w x.2 w') (fun x => [(0, .pointer (some ⟨b0, 0, none⟩)), (1, vi a1), (22, .bool x.1)]) ?_ ?_
    · rcases cnd h with ⟨hE20, h⟩ | ⟨hE20, h⟩
      · refine WL.ren 17 rfl (congrArg Value.bool hE20) ?_
        refine WL.gS rfl rfl rfl rfl ?_
        refine WL.gS rfl rfl rfl rfl ?_
        refine WL.gS rfl rfl rfl rfl ?_
        refine WL.gS rfl rfl rfl rfl ?_
        refine WL.y (Y.pick (b := true) rfl rfl) rfl ?_
        exact WL.nil (At.join (σ := (Bool × Own)) (true, (Lg.O0 A)) ⟨some1 h, (Stp.refl _ _ _)⟩ (.cons rfl (.cons rfl (.cons rfl .nil))))
      · refine WL.ren 17 rfl (congrArg Value.bool hE20) ?_
        refine WL.ung rfl rfl ?_
        refine WL.y (Y.move rfl) rfl ?_
        refine WL.ung rfl rfl ?_
        refine WL.y (Y.move rfl) rfl ?_
        refine WL.ung rfl rfl ?_
        obtain ⟨r21, hp22, h⟩ := bnd h
        refine WL.call (vals := [.pointer (some ⟨b0, 0, none⟩)]) kok18 rfl rfl (c_bitio_Reader_Left (A := fun _ => True) (a0 := a0) (Sl.all hf11) hb12.blk trivial hp22) ?_
        rintro vr25 wd24 ⟨rfl, hm23⟩
        obtain ⟨O26, hold27, hnew28, hst29⟩ := adoptE (Lg.O0 A) (fun k => 1) hm23
        refine WL.ung rfl rfl ?_
        refine WL.y (Y.gtr_i rfl rfl) rfl ?_
        refine WL.y (Y.pick (b := false) rfl rfl) rfl ?_
        exact WL.nil (At.join (σ := (Bool × Own)) (decide (r21 < a1), O26) ⟨some1 h, (Stp.up hst29 rfl)⟩ (.cons rfl (.cons rfl (.cons rfl .nil))))
    · rintro ⟨x14, O15⟩ wd16 ⟨rfl, hst17⟩
      replace h := hk19
      try dsimp only at h hst17
      refine (show WL _ _ _ _ _ [(0, .pointer (some ⟨b0, 0, none⟩)), (1, vi a1), (22, .bool x14)] _ from ?_)
      refine WL.nil ?_
      refine At.then ?_
      rcases cnd h with ⟨hc30, h⟩ | ⟨hc30, h⟩
      · refine WC.condT' rfl hc30 ?_
        refine WC.seq ?_
        refine WC.region ?_
        refine WL.y (Y.assign (v := vu 0) rfl) rfl ?_
        refine WL.y (Y.assign rfl) rfl ?_
        refine WL.nil ?_
        refine At.then ?_
        refine WC.ret ?_
        refine At.thenR ?_
        obtain ⟨rfl, rfl⟩ := tup2 h
        have hs31 : Stp [] (Lg.O0 A) w O15 wd16 := (Stp.up hst17 rfl)
        exact At.res (.inl rfl) rfl (.tmp rfl (.tmp rfl .nil)) ⟨rfl, (Stp.ext hs31 rfl rfl)⟩
      · refine WC.condF' rfl hc30 ?_
        refine WC.skip ?_
        refine At.then ?_
        refine WC.seq ?_
        refine WC.region ?_
        refine WL.y (Y.assign (v := vu 0) rfl) rfl ?_
        refine WL.nil ?_
        refine At.then ?_
        refine WC.seq ?_
        refine WC.seq ?_
        refine WC.region ?_
        refine WL.y (Y.move rfl) rfl ?_
        refine WL.y (Y.nilCheck rfl) rfl ?_
        refine WL.y (Y.fieldAddr fo77_2 rfl) rfl ?_
        have hf32 := hb12.st hst17 rfl
        refine WL.y (Y.loadSc ty3 rfl rfl (hf32.cell 2 _ rfl)) rfl ?_
        refine WL.y (Y.assign rfl) rfl ?_
        refine WL.nil ?_
        refine At.then ?_
        refine WC.block ?_
        obtain ⟨p37, h, hk39⟩ := flow1 h
        obtain ⟨k38, h⟩ := loop_some h
        refine WC.joinB 0 (σ := UInt64) (fun x w' => p37 = .go x ∧ wd16 = w') (fun x => [(6, vu x)]) ?_ ?_
        · refine WC.loop (σ := (Int × UInt64 × Int)) (fun x k w' => loopN k (bitio_Reader_Look_lp1 a0) (x.1, x.2.1, x.2.2) = some p37 ∧ wd16 = w') (fun x => [(0, .pointer (some ⟨b0, 0, none⟩)), (1, vi x.1), (6, vu x.2.1), (7, vi x.2.2)]) (a1, 0, a0.at_) k38 (.cons rfl (.cons rfl (.cons rfl (.cons rfl .nil)))) ⟨h, rfl⟩ ?_
          rintro ⟨nv33, v34, at35⟩ k38 _ ⟨h, rfl⟩
          obtain ⟨j40, q41, rfl, h, hn42⟩ := rnd1 h
          unfold bitio_Reader_Look_lp1 at h
          try dsimp only at h
          refine (show WC _ _ _ _ [(0, .pointer (some ⟨b0, 0, none⟩)), (1, vi nv33), (6, vu v34), (7, vi at35)] _ from ?_)
          refine WC.seq ?_
          refine WC.seq ?_
          refine WC.region ?_
          refine WL.y (Y.move rfl) rfl ?_
          refine WL.y (Y.gtr_i rfl rfl) rfl ?_
          refine WL.nil ?_
          refine At.then ?_
          rcases cnd h with ⟨hc43, h⟩ | ⟨hc43, h⟩
          · refine WC.condT' rfl hc43 ?_
            refine WC.skip ?_
            refine At.then ?_
            refine WC.block ?_
            refine WC.seq ?_
            refine WC.region ?_
            refine WL.y (Y.move rfl) rfl ?_
            refine WL.y (Y.rem_i (by decide) rfl rfl) rfl ?_
            refine WL.y (Y.sub_i rfl rfl) rfl ?_
            obtain ⟨free44, hfree44, h⟩ := lt1 h
            refine WL.yE (Y.assign rfl) (congrArg vi hfree44.symm) rfl ?_
            refine WL.nil ?_
            refine At.then ?_
            refine WC.seq ?_
            refine WC.region ?_
            refine WL.y (Y.move rfl) rfl ?_
            refine WL.y (Y.move rfl) rfl ?_
            refine WL.y (Y.min_i rfl rfl) rfl ?_
            obtain ⟨k45, hk45, h⟩ := lt1 h
            refine WL.yE (Y.assign rfl) (congrArg vi hk45.symm) rfl ?_
            refine WL.nil ?_
            refine At.then ?_
            refine WC.seq ?_
            refine WC.region ?_
            refine WL.y (Y.move rfl) rfl ?_
            refine WL.y (Y.nilCheck rfl) rfl ?_
            refine WL.y (Y.fieldAddr fo77_0 rfl) rfl ?_
            refine WL.y (Y.loadSc ty30 rfl rfl (hf32.cell 0 _ rfl)) rfl ?_
            refine WL.y (Y.move rfl) rfl ?_
            refine WL.y (Y.quo_i (by decide) rfl rfl) rfl ?_
            obtain ⟨e46, he46, h⟩ := bnd h
            have hf55 := hf11.mono (imm_st hst17 rfl rfl)
            obtain ⟨b47, off56, cap54, cs53, hv48, hi49, hl50, hc51, hok52, hA57⟩ := Sl.at2 hf55 he46
            obtain rfl := hok52
            replace hc51 : CellsAt _ _ _ [vb e46] := hc51
            have hca58 := CAt.imm hc51 hA57
            refine WL.y (Y.indexAddr ty30 ty5 rfl hv48 rfl hi49 hl50) rfl ?_
            refine WL.y (Y.loadSc ty5 rfl rfl hca58.at_) rfl ?_
            refine WL.y (Y.move rfl) rfl ?_
            refine WL.y (Y.move rfl) rfl ?_
            refine WL.y (Y.sub_i rfl rfl) rfl ?_
            refine WL.y (Y.conv_iu ty3.u ty74.u rfl) rfl ?_
            refine WL.y (Y.shr_bu rfl rfl) rfl ?_
            refine WL.y (Y.move rfl) rfl ?_
            refine WL.y (Y.conv_iu ty3.u ty74.u rfl) rfl ?_
            refine WL.y (Y.shl_bu (a := 1) rfl rfl) rfl ?_
            refine WL.y (Y.sub_b (b := 1) rfl rfl) rfl ?_
            refine WL.y (Y.and_b rfl rfl) rfl ?_
            obtain ⟨piece59, hpiece59, h⟩ := lt1 h
            refine WL.yE (Y.assign rfl) (congrArg vb hpiece59.symm) rfl ?_
            refine WL.nil ?_
            refine At.then ?_
            refine WC.seq ?_
            refine WC.region ?_
            refine WL.y (Y.move rfl) rfl ?_
            refine WL.y (Y.move rfl) rfl ?_
            refine WL.y (Y.conv_iu ty3.u ty74.u rfl) rfl ?_
            refine WL.y (Y.shl_uu rfl rfl) rfl ?_
            refine WL.y (Y.move rfl) rfl ?_
            refine WL.y (Y.conv_bu ty5.u ty29.u rfl) rfl ?_
            refine WL.y (Y.or_u rfl rfl) rfl ?_
            obtain ⟨v60, hv60, h⟩ := lt1 h
            refine WL.yE (Y.assign rfl) (congrArg vu hv60.symm) rfl ?_
            refine WL.nil ?_
            refine At.then ?_
            refine WC.seq ?_
            refine WC.region ?_
            refine WL.y (Y.move rfl) rfl ?_
            refine WL.y (Y.move rfl) rfl ?_
            refine WL.y (Y.add_i rfl rfl) rfl ?_
            obtain ⟨at61, hat61, h⟩ := lt1 h
            refine WL.yE (Y.assign rfl) (congrArg vi hat61.symm) rfl ?_
            refine WL.nil ?_
            refine At.then ?_
            refine WC.region ?_
            refine WL.y (Y.move rfl) rfl ?_
            refine WL.y (Y.move rfl) rfl ?_
            refine WL.y (Y.sub_i rfl rfl) rfl ?_
            obtain ⟨nv62, hnv62, h⟩ := lt1 h
            refine WL.yE (Y.assign rfl) (congrArg vi hnv62.symm) rfl ?_
            refine WL.nil ?_
            refine At.inBlock ?_
            exact At.round (nv62, v60, at61) j40 (Nat.lt_succ_self _) ⟨next1 h hn42, rfl⟩ (.cons rfl (.cons rfl (.cons rfl (.cons rfl .nil))))
          · refine WC.condF' rfl hc43 ?_
            refine WC.exit ?_
            refine At.thenX ?_
            refine At.loopX ?_
            exact At.hitB (σ := UInt64) v34 ⟨brk1 h hn42, rfl⟩ (.cons rfl .nil)
        · rintro v36 _ ⟨rfl, rfl⟩
          replace h := flowK_go hk39
          try dsimp only at h
          refine (show At _ _ _ [(6, vu v36)] _ from ?_)
          refine At.inBlockHit ?_
          refine At.then ?_
          refine WC.seq ?_
          refine WC.region ?_
          refine WL.y (Y.move rfl) rfl ?_
          refine WL.y (Y.assign rfl) rfl ?_
          refine WL.y (Y.assign rfl) rfl ?_
          refine WL.nil ?_
          refine At.then ?_
          refine WC.ret ?_
          obtain ⟨rfl, rfl⟩ := tup2 h
          have hs63 : Stp [] (Lg.O0 A) w O15 wd16 := (Stp.up hst17 rfl)
          exact At.res (.inl rfl) rfl (.tmp rfl (.tmp rfl .nil)) ⟨rfl, (Stp.ext hs63 rfl rfl)⟩

theorem c_bitio_Reader_Take {A : Nat → Prop} {v0_0 : Value} {a0 : bitio_Reader} {b0 : Nat} {a1 : Int} {w : World} (hs0_0 : Sl Rep.b w A v0_0 a0.b) (hb0 : w.heap[b0]? = some (.cells (List.toArray [v0_0, vi a0.n, vi a0.at_]) 77 (0, 0))) (hA : ∀ k, A k → k ≠ b0) {r0 : UInt64} {r1 : Bool} {q0 : bitio_Reader} (h : bitio_Reader_Take a0 a1 = some (r0, r1, q0)) : Rets Try.prog 17 [.pointer (some ⟨b0, 0, none⟩), vi a1] w (fun v w' => ∃ (z0_0 : Value), v = .tuple (List.toArray [vu r0, .bool r1]) ∧ Mod (fun k => k = b0) w w' ∧ Sl Rep.b w' (fun k => A k ∨ w.heap.size ≤ k) z0_0 q0.b ∧ w'.heap[b0]? = some (.cells (List.toArray [z0_0, vi q0.n, vi q0.at_]) 77 (0, 0))) := by
  unfold bitio_Reader_Take at h
  refine Rets.enter Try.func17 rfl rfl ?_
  have hf11 : Sl Rep.b w (imm (Lg.OB b0 3 (Lg.O0 A))) v0_0 a0.b := (Sl.OB (Sl.start hs0_0) (fun k hk => (hA k (O0_A k hk))))
  have hb12 : Blk 3 (Lg.OB b0 3 (Lg.O0 A)) w b0 77 [v0_0, vi a0.n, vi a0.at_] := ⟨(if_pos rfl), hb0⟩
  refine (show WC _ _ _ _ [(0, .pointer (some ⟨b0, 0, none⟩)), (1, vi a1)] _ from ?_)
  refine WC.seq ?_
  refine WC.region ?_
  refine WL.y (Y.assign (v := vu 0) rfl) rfl ?_
  refine WL.y (Y.assign rfl) rfl ?_
  refine WL.nil ?_
  refine At.then ?_
  refine WC.seq ?_
  refine WC.region ?_
  refine WL.y (Y.move rfl) rfl ?_
  refine WL.y (Y.move rfl) rfl ?_
  obtain ⟨⟨r13, r14⟩, hp15, h⟩ := bnd h
  refine WL.call (vals := [.pointer (some ⟨b0, 0, none⟩), vi a1]) kok23 rfl rfl (c_bitio_Reader_Look (A := fun _ => True) (a0 := a0) (Sl.all hf11) hb12.blk trivial hp15) ?_
  rintro vr18 wd17 ⟨rfl, hm16⟩
  obtain ⟨O19, hold20, hnew21, hst22⟩ := adoptE (Lg.OB b0 3 (Lg.O0 A)) (fun k => 1) hm16
  refine WL.y (Y.move rfl) rfl ?_
  refine WL.y (Y.extract rfl rfl) rfl ?_
  refine WL.y (Y.extract rfl rfl) rfl ?_
  refine WL.y (Y.assign rfl) rfl ?_
  refine WL.y (Y.assign rfl) rfl ?_
  refine WL.nil ?_
  refine At.then ?_
  refine WC.seq ?_
  refine WC.seq ?_
  refine WC.region ?_
  refine WL.y (Y.move rfl) rfl ?_
  refine WL.nil ?_
  refine At.then ?_
  rcases cnd h with ⟨hc23, h⟩ | ⟨hc23, h⟩
  · refine WC.condT' rfl hc23 ?_
    refine WC.region ?_
    refine WL.y (Y.move rfl) rfl ?_
    refine WL.y (Y.nilCheck rfl) rfl ?_
    refine WL.y (Y.fieldAddr fo77_2 rfl) rfl ?_
    have hf24 := hb12.st hst22 rfl
    refine WL.y (Y.loadSc ty3 rfl rfl (hf24.cell 2 _ rfl)) rfl ?_
    refine WL.y (Y.move rfl) rfl ?_
    refine WL.y (Y.add_i rfl rfl) rfl ?_
    refine WL.y (Y.nilCheck rfl) rfl ?_
    refine WL.y (Y.fieldAddr fo77_2 rfl) rfl ?_
    obtain ⟨t25, ht25, h⟩ := lt1 h
    refine WL.ren 20 rfl (congrArg vi ht25.symm) ?_
    refine WL.store (v := vi t25) (cells' := [v0_0, vi a0.n, vi t25]) ty3 rfl rfl hf24 rfl (Nat.le_of_ble_eq_true rfl) rfl rfl ?_
    intro wd26 hst27 hb28
    refine WL.nil ?_
    refine At.then ?_
    refine WC.seq ?_
    refine WC.region ?_
    refine WL.y (Y.move rfl) rfl ?_
    refine WL.y (Y.move rfl) rfl ?_
    refine WL.y (Y.assign rfl) rfl ?_
    refine WL.y (Y.assign rfl) rfl ?_
    refine WL.nil ?_
    refine At.then ?_
    refine WC.ret ?_
    obtain ⟨rfl, rfl, rfl⟩ := tup3 h
    have hs29 : Stp [3] (Lg.OB b0 3 (Lg.O0 A)) w O19 wd26 := (Stp.trans (Stp.up hst22 rfl) (Stp.up hst27 rfl))
    have hf30 := hf11.mono (imm_st hst22 rfl rfl)
    have hf31 := hf30.mono (imm_st hst27 rfl rfl)
    exact At.res (.inl rfl) rfl (.tmp rfl (.tmp rfl .nil)) ⟨v0_0, rfl, (Stp.modL hs29 sB1 rfl rfl), (Sl.outI hf31 hs29 (lowB low0 rfl rfl) (aB O0_A rfl)), hb28.blk⟩
  · refine WC.condF' rfl hc23 ?_
    refine WC.skip ?_
    refine At.then ?_
    refine WC.seq ?_
    refine WC.region ?_
    refine WL.y (Y.move rfl) rfl ?_
    refine WL.y (Y.move rfl) rfl ?_
    refine WL.y (Y.assign rfl) rfl ?_
    refine WL.y (Y.assign rfl) rfl ?_
    refine WL.nil ?_
    refine At.then ?_
    refine WC.ret ?_
    obtain ⟨rfl, rfl, rfl⟩ := tup3 h
    have hs32 : Stp [] (Lg.OB b0 3 (Lg.O0 A)) w O19 wd17 := (Stp.up hst22 rfl)
    have hf33 := hb12.st hst22 rfl
    have hf34 := hf11.mono (imm_st hst22 rfl rfl)
    exact At.res (.inl rfl) rfl (.tmp rfl (.tmp rfl .nil)) ⟨v0_0, rfl, (Stp.modL hs32 sB1 rfl rfl), (Sl.outI hf34 hs32 (lowB low0 rfl rfl) (aB O0_A rfl)), hf33.blk⟩

theorem c_law01_awake {w : World} {r0 : Bool} (h : law01_awake = some r0) : Rets Try.prog 11 [] w (fun v w' => v = .bool r0 ∧ Ext w w') := by
  unfold law01_awake at h
  refine Rets.enter Try.func11 rfl rfl ?_
  refine (show WC _ _ _ _ [] _ from ?_)
  refine WC.seq ?_
  refine WC.region ?_
  refine WL.y (Y.assign rfl) rfl ?_
  refine WL.nil ?_
  refine At.then ?_
  refine WC.seq ?_
  refine WC.region ?_
  obtain ⟨r11, hp12, h⟩ := bnd h
  refine WL.call (vals := []) kok12 rfl rfl (c_bitio_NewWriter hp12) ?_
  rintro vr19 wd18 ⟨p13, u14, rfl, hm17, f15, f16⟩
  obtain ⟨O20, hold21, hnew22, hst23⟩ := adoptE (Lg.O0 (fun _ => False)) (fun k => if k = p13 then 11 else if Value.ownBlock u14 = some k then 12 else 1) hm17
  have hf25 : OwnSl 12 Rep.b 5 O20 wd18 u14 r11.b := RowF.adopt 12 Flat.b f16.1 hnew22 (fun k hk => (if_neg (fun (e : k = p13) => f16.2 (e ▸ hk))).trans (if_pos hk))
  have hb24 : Blk 11 O20 wd18 p13 73 [u14, vi r11.n] := Blk.new f15 hnew22 (if_pos rfl)
  refine WL.y (Y.assign rfl) rfl ?_
  refine WL.nil ?_
  refine At.then ?_
  refine WC.seq ?_
  refine WC.seq ?_
  refine WC.region ?_
  refine WL.y (Y.move rfl) rfl ?_
  refine WL.y (Y.eql_nil (r := false) ty25.u rfl rfl rfl) rfl ?_
  refine WL.y (Y.move rfl) rfl ?_
  refine WL.ung rfl rfl ?_
  refine WL.y (Y.move rfl) rfl ?_
  refine WL.ung rfl rfl ?_
  obtain ⟨⟨r26, r27⟩, hp28, h⟩ := bnd h
  refine WL.call (vals := [.pointer (some ⟨p13, 0, none⟩), vu 5, vi 3]) kok13 rfl rfl (c_bitio_Writer_Put (a0 := r11) hf25.row hb24.blk (ne_lab hf25 hb24.lab rfl) hp28) ?_
  rintro vr34 wd33 ⟨z29, rfl, hm32, f30, f31⟩
  obtain ⟨O35, hold36, hnew37, hst38⟩ := adopt O20 (fun k => if Value.ownBlock z29 = some k then 12 else 1) [11, 12] hm32 (memOr (memB hb24.lab rfl) (memV hf25.labs rfl))
  have ho39 : OwnSl 12 Rep.b 5 O35 wd33 z29 r27.b := RowG.adopt Flat.b hf25.labs f30 hold36 hnew37 (fun k hk => if_pos hk)
  have hb40 : Blk 11 O35 wd33 p13 73 [z29, vi r27.n] := Blk.adopt hb24 hold36 f31
  refine WL.ung rfl rfl ?_
  refine WL.y (Y.not rfl) rfl ?_
  refine WL.y (Y.pick (b := false) rfl rfl) rfl ?_
  refine WL.y (Y.move rfl) rfl ?_
  obtain ⟨p50, h, hk51⟩ := bnd h
  refine WL.cut 4 (σ := (List UInt8 × Int × Bool × Own × Value)) (fun x w' => (x.1, x.2.1, x.2.2.1) = p50 ∧ Stp [11, 12] O35 wd33 x.2.2.2.1 w' ∧ OwnSl 1002 Rep.b 5 x.2.2.2.1 w' x.2.2.2.2 x.1 ∧ Blk 11 x.2.2.2.1 w' p13 73 [x.2.2.2.2, vi x.2.1]) (fun x => [(1, .pointer (some ⟨p13, 0, none⟩)), (20, .bool x.2.2.1)]) ?_ ?_
  · rcases cnd h with ⟨hE52, h⟩ | ⟨hE52, h⟩
    · refine WL.ren 16 rfl (congrArg Value.bool hE52) ?_
      refine WL.gS rfl rfl rfl rfl ?_
      refine WL.gS rfl rfl rfl rfl ?_
      refine WL.gS rfl rfl rfl rfl ?_
      refine WL.y (Y.pick (b := true) rfl rfl) rfl ?_
      obtain ⟨O53, hst54, ho55⟩ := OwnSl.rlb 1002 rfl ho39
      have hf56 := hb40.st hst54 rfl
      exact WL.nil (At.join (σ := (List UInt8 × Int × Bool × Own × Value)) (r27.b, r27.n, true, O53, z29) ⟨some1 h, (Stp.up hst54 rfl), ho55, hf56⟩ (.cons rfl (.cons rfl .nil)))
    · refine WL.ren 16 rfl (congrArg Value.bool hE52) ?_
      refine WL.ung rfl rfl ?_
      refine WL.y (Y.move rfl) rfl ?_
      refine WL.ung rfl rfl ?_
      obtain ⟨⟨r57, r58⟩, hp59, h⟩ := bnd h
      refine WL.call (vals := [.pointer (some ⟨p13, 0, none⟩), vu 1, vi 2]) kok13 rfl rfl (c_bitio_Writer_Put (a0 := r27) ho39.row hb40.blk (ne_lab ho39 hb40.lab rfl) hp59) ?_
      rintro vr65 wd64 ⟨z60, rfl, hm63, f61, f62⟩
      obtain ⟨O66, hold67, hnew68, hst69⟩ := adopt O35 (fun k => if Value.ownBlock z60 = some k then 12 else 1) [11, 12] hm63 (memOr (memB hb40.lab rfl) (memV ho39.labs rfl))
      have ho70 : OwnSl 12 Rep.b 5 O66 wd64 z60 r58.b := RowG.adopt Flat.b ho39.labs f61 hold67 hnew68 (fun k hk => if_pos hk)
      have hb71 : Blk 11 O66 wd64 p13 73 [z60, vi r58.n] := Blk.adopt hb40 hold67 f62
      refine WL.ung rfl rfl ?_
      refine WL.y (Y.not rfl) rfl ?_
      refine WL.y (Y.pick (b := false) rfl rfl) rfl ?_
      obtain ⟨O72, hst73, ho74⟩ := OwnSl.rlb 1002 rfl ho70
      have hf75 := hb71.st hst73 rfl
      exact WL.nil (At.join (σ := (List UInt8 × Int × Bool × Own × Value)) (r58.b, r58.n, (!r57), O72, z60) ⟨some1 h, (Stp.trans (Stp.up hst69 rfl) (Stp.up hst73 rfl)), ho74, hf75⟩ (.cons rfl (.cons rfl .nil)))
  · rintro ⟨c42, c45, x46, O47, v43⟩ wd48 ⟨rfl, hst49, hf44, hb41⟩
    replace h := hk51
    try dsimp only at h hst49 hf44 hb41
    refine (show WL _ _ _ _ _ [(1, .pointer (some ⟨p13, 0, none⟩)), (20, .bool x46)] _ from ?_)
    refine WL.y (Y.move rfl) rfl ?_
    obtain ⟨p80, h, hk81⟩ := bnd h
    refine WL.cut 4 (σ := (Bool × Own)) (fun x w' => x.1 = p80 ∧ Stp [] O47 wd48 x.2 w') (fun x => [(1, .pointer (some ⟨p13, 0, none⟩)), (25, .bool x.1)]) ?_ ?_
    · rcases cnd h with ⟨hE82, h⟩ | ⟨hE82, h⟩
      · refine WL.ren 21 rfl (congrArg Value.bool hE82) ?_
        refine WL.gS rfl rfl rfl rfl ?_
        refine WL.gS rfl rfl rfl rfl ?_
        refine WL.gS rfl rfl rfl rfl ?_
        refine WL.y (Y.pick (b := true) rfl rfl) rfl ?_
        exact WL.nil (At.join (σ := (Bool × Own)) (true, O47) ⟨some1 h, (Stp.refl _ _ _)⟩ (.cons rfl (.cons rfl .nil)))
      · refine WL.ren 21 rfl (congrArg Value.bool hE82) ?_
        refine WL.ung rfl rfl ?_
        refine WL.y (Y.move rfl) rfl ?_
        refine WL.ung rfl rfl ?_
        obtain ⟨r83, hp84, h⟩ := bnd h
        refine WL.call (vals := [.pointer (some ⟨p13, 0, none⟩)]) kok16 rfl rfl (c_bitio_Writer_Len (A := fun _ => True) (a0 := (bitio_Writer.mk c42 c45)) (hf44.src.sl) hb41.blk trivial hp84) ?_
        rintro vr87 wd86 ⟨rfl, hm85⟩
        obtain ⟨O88, hold89, hnew90, hst91⟩ := adoptE O47 (fun k => 1) hm85
        refine WL.ung rfl rfl ?_
        refine WL.y (Y.neq_i rfl rfl) rfl ?_
        refine WL.y (Y.pick (b := false) rfl rfl) rfl ?_
        exact WL.nil (At.join (σ := (Bool × Own)) ((!decide (r83 = 5)), O88) ⟨some1 h, (Stp.up hst91 rfl)⟩ (.cons rfl (.cons rfl .nil)))
    · rintro ⟨x76, O77⟩ wd78 ⟨rfl, hst79⟩
      replace h := hk81
      try dsimp only at h hst79
      refine (show WL _ _ _ _ _ [(1, .pointer (some ⟨p13, 0, none⟩)), (25, .bool x76)] _ from ?_)
      refine WL.nil ?_
      refine At.then ?_
      rcases cnd h with ⟨hc92, h⟩ | ⟨hc92, h⟩
      · refine WC.condT' rfl hc92 ?_
        refine WC.seq ?_
        refine WC.region ?_
        refine WL.y (Y.assign rfl) rfl ?_
        refine WL.nil ?_
        refine At.then ?_
        refine WC.ret ?_
        refine At.thenR ?_
        obtain rfl := some1 h
        have hs93 : Stp [11, 12] (Lg.O0 (fun _ => False)) w O77 wd78 := (Stp.trans (Stp.up hst23 rfl) (Stp.trans (Stp.up hst38 rfl) (Stp.trans (Stp.up hst49 rfl) (Stp.up hst79 rfl))))
        exact At.res (.inl rfl) rfl (.tmp rfl .nil) ⟨rfl, (Stp.ext hs93 rfl rfl)⟩
      · refine WC.condF' rfl hc92 ?_
        refine WC.skip ?_
        refine At.then ?_
        refine WC.seq ?_
        refine WC.region ?_
        refine WL.buildSlice (O := O77) (R := Rep.b) (vals := [(0, vb 168)]) 13 [vb 168] (xs := [168]) (by decide) ty30 ty5 (by decide) (by decide) (Fits.evalp rfl) (by kernel_rfl) rfl ⟨[vb 168], [], rfl, rfl, rfl⟩ rfl ?_
        intro v94 O96 wd97 hst98 ho95
        obtain ⟨⟨r99, r100⟩, hp101, h⟩ := bnd h
        refine WL.call (vals := [v94, vi 5]) kok15 rfl rfl (c_bitio_NewReader (A := fun _ => True) (ho95.src.sl) hp101) ?_
        rintro vr106 wd105 ⟨u102, rfl, hm104, f103⟩
        obtain ⟨O107, hold108, hnew109, hst110⟩ := adoptE O96 (labP u102 14) hm104
        refine WL.y (Y.move rfl) rfl ?_
        refine WL.y (Y.extract rfl rfl) rfl ?_
        refine WL.y (Y.extract rfl rfl) rfl ?_
        refine WL.y (Y.assign rfl) rfl ?_
        refine WL.y (Y.assign rfl) rfl ?_
        refine WL.nil ?_
        refine At.then ?_
        refine WC.seq ?_
        refine WC.seq ?_
        refine WC.region ?_
        refine WL.y (Y.move rfl) rfl ?_
        refine WL.y (Y.eql_opt ty32.u rfl rfl f103 (fun d hd => by obtain ⟨_, _, e, _⟩ := hd; exact ⟨_, e⟩)) rfl ?_
        refine WL.y (Y.move rfl) rfl ?_
        refine WL.cut 3 (σ := Unit) (fun _ w' => wd105 = w') (fun _ => [(1, .pointer (some ⟨p13, 0, none⟩)), (2, u102), (36, .bool (r99.isNone || (!decide (r100 = 0))))]) ?_ ?_
        · refine WL.part 33 rfl (fun hE111 => ?_) (fun hE111 => ?_)
          · refine WL.gS rfl rfl rfl rfl ?_
            refine WL.gS rfl rfl rfl rfl ?_
            refine WL.y (Y.pick (b := true) rfl rfl) rfl ?_
            refine WL.ren (v' := .bool (r99.isNone || (!decide (r100 = 0)))) 36 rfl (congrArg Value.bool (orT hE111)) ?_
            exact WL.nil (At.join () rfl (.cons rfl (.cons rfl (.cons rfl .nil))))
          · refine WL.ung rfl rfl ?_
            refine WL.y (Y.move rfl) rfl ?_
            refine WL.ung rfl rfl ?_
            refine WL.y (Y.neq_i rfl rfl) rfl ?_
            refine WL.y (Y.pick (b := false) rfl rfl) rfl ?_
            refine WL.ren (v' := .bool (r99.isNone || (!decide (r100 = 0)))) 36 rfl (congrArg Value.bool (orF hE111)) ?_
            exact WL.nil (At.join () rfl (.cons rfl (.cons rfl (.cons rfl .nil))))
        · rintro _ _ rfl
          refine (show WL _ _ _ _ _ [(1, .pointer (some ⟨p13, 0, none⟩)), (2, u102), (36, .bool (r99.isNone || (!decide (r100 = 0))))] _ from ?_)
          refine WL.y (Y.move rfl) rfl ?_
          obtain ⟨p116, h, hk117⟩ := bnd h
          refine WL.cut 5 (σ := (Bool × Own)) (fun x w' => x.1 = p116 ∧ Stp [] O107 wd105 x.2 w') (fun x => [(2, u102), (42, .bool x.1)]) ?_ ?_
          · rcases cnd h with ⟨hE118, h⟩ | ⟨hE118, h⟩
            · refine WL.ren 37 rfl (congrArg Value.bool hE118) ?_
              refine WL.gS rfl rfl rfl rfl ?_
              refine WL.gS rfl rfl rfl rfl ?_
              refine WL.gS rfl rfl rfl rfl ?_
              refine WL.gS rfl rfl rfl rfl ?_
              refine WL.y (Y.pick (b := true) rfl rfl) rfl ?_
              exact WL.nil (At.join (σ := (Bool × Own)) (true, O107) ⟨some1 h, (Stp.refl _ _ _)⟩ (.cons rfl (.cons rfl .nil)))
            · refine WL.ren 37 rfl (congrArg Value.bool hE118) ?_
              refine WL.ung rfl rfl ?_
              refine WL.y (Y.move rfl) rfl ?_
              refine WL.ung rfl rfl ?_
              have hf119 := hb41.st hst79 rfl
              have hf120 := hf119.st hst98 rfl
              have hf121 := hf120.st hst110 rfl
              have hf122 := hf44.st hst79 rfl rfl rfl
              have hf123 := hf122.st hst98 rfl rfl rfl
              have hf124 := hf123.st hst110 rfl rfl rfl
              obtain ⟨r125, hp126, h⟩ := bnd h
              refine WL.call (vals := [.pointer (some ⟨p13, 0, none⟩)]) kok14 rfl rfl (c_bitio_Writer_Bytes (A := fun _ => True) (a0 := (bitio_Writer.mk c42 c45)) (hf124.src.sl) hf121.blk trivial hp126) ?_
              rintro vr131 wd130 ⟨_, rfl, hm129, f128⟩
              obtain ⟨O132, hold133, hnew134, hst135⟩ := adoptE O107 (fun k => if Value.ownBlock vr131 = some k then 15 else 1) hm129
              have hf136 : OwnSl 15 Rep.b 5 O132 wd130 vr131 r125 := RowF.adopt 15 Flat.b f128 hnew134 (fun k hk => if_pos hk)
              refine WL.ung rfl rfl ?_
              refine WL.y (Y.b2s ty30 ty5 ty9 rfl hf136.src.sl) rfl ?_
              refine WL.ung rfl rfl ?_
              refine WL.y (Y.neq_s (b := [168]) rfl rfl) rfl ?_
              refine WL.y (Y.pick (b := false) rfl rfl) rfl ?_
              exact WL.nil (At.join (σ := (Bool × Own)) ((!decide (r125 = [168])), O132) ⟨some1 h, (Stp.up hst135 rfl)⟩ (.cons rfl (.cons rfl .nil)))
          · rintro ⟨x112, O113⟩ wd114 ⟨rfl, hst115⟩
            replace h := hk117
            try dsimp only at h hst115
            refine (show WL _ _ _ _ _ [(2, u102), (42, .bool x112)] _ from ?_)
            refine WL.nil ?_
            refine At.then ?_
            rcases cnd h with ⟨hc137, h⟩ | ⟨hc137, h⟩
            · refine WC.condT' rfl hc137 ?_
              refine WC.seq ?_
              refine WC.region ?_
              refine WL.y (Y.assign rfl) rfl ?_
              refine WL.nil ?_
              refine At.then ?_
              refine WC.ret ?_
              refine At.thenR ?_
              obtain rfl := some1 h
              have hs138 : Stp [11, 12] (Lg.O0 (fun _ => False)) w O113 wd114 := (Stp.trans (Stp.up hst23 rfl) (Stp.trans (Stp.up hst38 rfl) (Stp.trans (Stp.up hst49 rfl) (Stp.trans (Stp.up hst79 rfl) (Stp.trans (Stp.up hst98 rfl) (Stp.trans (Stp.up hst110 rfl) (Stp.up hst115 rfl)))))))
              exact At.res (.inl rfl) rfl (.tmp rfl .nil) ⟨rfl, (Stp.ext hs138 rfl rfl)⟩
            · refine WC.condF' rfl hc137 ?_
              refine WC.skip ?_
              refine At.then ?_
              refine WC.seq ?_
              refine WC.region ?_
              refine WL.y (Y.move rfl) rfl ?_
              obtain ⟨d139, hd139, h⟩ := bnd h
              obtain ⟨p140, v141, rfl, fb143, f142⟩ := OptP.some f103 hd139
              have hf144 : Sl Rep.b wd105 (frs O107) v141 d139.b := Sl.adoptF f142 (fun k hk => ⟨hk.1, labP_ne hk.2⟩) hnew109
              have hb145 : Blk 14 O107 wd105 p140 77 [v141, vi d139.n, vi d139.at_] := Blk.new fb143 hnew109 (labP_at p140 14)
              have hf146 := hb145.st hst115 rfl
              have hf147 := hf144.mono (frs_st hst115 rfl)
              obtain ⟨⟨r148, r149, r150⟩, hp151, h⟩ := bnd h
              refine WL.call (vals := [.pointer (some ⟨p140, 0, none⟩), vi 3]) kok17 rfl rfl (c_bitio_Reader_Take (A := imm O113) (a0 := d139) (Sl.mono hf147 frs_imm) hf146.blk (fun k hk => imm_ne hf146.lab rfl k hk) hp151) ?_
              rintro vr157 wd156 ⟨z152, rfl, hm155, f153, f154⟩
              obtain ⟨O158, hold159, hnew160, hst161⟩ := adopt O113 (fun k => 1) [14] hm155 (memB hf146.lab rfl)
              have hf162 : Sl Rep.b wd156 (imm O158) z152 r150.b := Sl.adoptI (O := O113) f153 (fun _ hk => hk) (fun _ _ => Nat.le_refl _) hold159 hnew160
              have hb163 : Blk 14 O158 wd156 p140 77 [z152, vi r150.n, vi r150.at_] := Blk.adopt hf146 hold159 f154
              refine WL.y (Y.move rfl) rfl ?_
              refine WL.y (Y.extract rfl rfl) rfl ?_
              refine WL.y (Y.extract rfl rfl) rfl ?_
              refine WL.y (Y.assign rfl) rfl ?_
              refine WL.y (Y.assign rfl) rfl ?_
              refine WL.nil ?_
              refine At.then ?_
              refine WC.seq ?_
              refine WC.region ?_
              refine WL.y (Y.move rfl) rfl ?_
              obtain ⟨⟨r164, r165, r166⟩, hp167, h⟩ := bnd h
              refine WL.call (vals := [.pointer (some ⟨p140, 0, none⟩), vi 3]) kok17 rfl rfl (c_bitio_Reader_Take (A := imm O158) (a0 := r150) hf162 hb163.blk (fun k hk => imm_ne hb163.lab rfl k hk) hp167) ?_
              rintro vr173 wd172 ⟨z168, rfl, hm171, f169, f170⟩
              obtain ⟨O174, hold175, hnew176, hst177⟩ := adopt O158 (fun k => 1) [14] hm171 (memB hb163.lab rfl)
              have hf178 : Sl Rep.b wd172 (imm O174) z168 r166.b := Sl.adoptI (O := O158) f169 (fun _ hk => hk) (fun _ _ => Nat.le_refl _) hold175 hnew176
              have hb179 : Blk 14 O174 wd172 p140 77 [z168, vi r166.n, vi r166.at_] := Blk.adopt hb163 hold175 f170
              refine WL.y (Y.move rfl) rfl ?_
              refine WL.y (Y.extract rfl rfl) rfl ?_
              refine WL.y (Y.extract rfl rfl) rfl ?_
              refine WL.y (Y.assign rfl) rfl ?_
              refine WL.y (Y.assign rfl) rfl ?_
              refine WL.nil ?_
              refine At.then ?_
              refine WC.seq ?_
              refine WC.region ?_
              refine WL.y (Y.move rfl) rfl ?_
              refine WL.y (Y.eql_u (b := 5) rfl rfl) rfl ?_
              refine WL.y (Y.move rfl) rfl ?_
              refine WL.cut 2 (σ := Unit) (fun _ w' => wd172 = w') (fun _ => [(2, .pointer (some ⟨p140, 0, none⟩)), (7, .bool r165), (57, .bool ((decide (r148 = 5)) && r149))]) ?_ ?_
              · refine WL.part 55 rfl (fun hE180 => ?_) (fun hE180 => ?_)
                · refine WL.ung rfl rfl ?_
                  refine WL.y (Y.move rfl) rfl ?_
                  refine WL.y (Y.pick (b := true) rfl rfl) rfl ?_
                  refine WL.ren (v' := .bool ((decide (r148 = 5)) && r149)) 57 rfl (congrArg Value.bool (andT hE180)) ?_
                  exact WL.nil (At.join () rfl (.cons rfl (.cons rfl (.cons rfl .nil))))
                · refine WL.gS rfl rfl rfl rfl ?_
                  refine WL.y (Y.pick (b := false) rfl rfl) rfl ?_
                  refine WL.ren (v' := .bool ((decide (r148 = 5)) && r149)) 57 rfl (congrArg Value.bool (andF hE180)) ?_
                  exact WL.nil (At.join () rfl (.cons rfl (.cons rfl (.cons rfl .nil))))
              · rintro _ _ rfl
                refine (show WL _ _ _ _ _ [(2, .pointer (some ⟨p140, 0, none⟩)), (7, .bool r165), (57, .bool ((decide (r148 = 5)) && r149))] _ from ?_)
                refine WL.y (Y.move rfl) rfl ?_
                refine WL.cut 3 (σ := Unit) (fun _ w' => wd172 = w') (fun _ => [(2, .pointer (some ⟨p140, 0, none⟩)), (61, .bool (((decide (r148 = 5)) && r149) && (!r165)))]) ?_ ?_
                · refine WL.part 58 rfl (fun hE181 => ?_) (fun hE181 => ?_)
                  · refine WL.ung rfl rfl ?_
                    refine WL.y (Y.move rfl) rfl ?_
                    refine WL.ung rfl rfl ?_
                    refine WL.y (Y.not rfl) rfl ?_
                    refine WL.y (Y.pick (b := true) rfl rfl) rfl ?_
                    refine WL.ren (v' := .bool (((decide (r148 = 5)) && r149) && (!r165))) 61 rfl (congrArg Value.bool (andT hE181)) ?_
                    exact WL.nil (At.join () rfl (.cons rfl (.cons rfl .nil)))
                  · refine WL.gS rfl rfl rfl rfl ?_
                    refine WL.gS rfl rfl rfl rfl ?_
                    refine WL.y (Y.pick (b := false) rfl rfl) rfl ?_
                    refine WL.ren (v' := .bool (((decide (r148 = 5)) && r149) && (!r165))) 61 rfl (congrArg Value.bool (andF hE181)) ?_
                    exact WL.nil (At.join () rfl (.cons rfl (.cons rfl .nil)))
                · rintro _ _ rfl
                  refine (show WL _ _ _ _ _ [(2, .pointer (some ⟨p140, 0, none⟩)), (61, .bool (((decide (r148 = 5)) && r149) && (!r165)))] _ from ?_)
                  refine WL.y (Y.move rfl) rfl ?_
                  obtain ⟨p186, h, hk187⟩ := bnd h
                  refine WL.cut 4 (σ := (Bool × Own)) (fun x w' => x.1 = p186 ∧ Stp [] O174 wd172 x.2 w') (fun x => [(66, .bool x.1)]) ?_ ?_
                  · rcases cnd h with ⟨hE188, h⟩ | ⟨hE188, h⟩
                    · refine WL.ren 62 rfl (congrArg Value.bool hE188) ?_
                      refine WL.ung rfl rfl ?_
                      refine WL.y (Y.move rfl) rfl ?_
                      refine WL.ung rfl rfl ?_
                      obtain ⟨r189, hp190, h⟩ := bnd h
                      refine WL.call (vals := [.pointer (some ⟨p140, 0, none⟩)]) kok18 rfl rfl (c_bitio_Reader_Left (A := fun _ => True) (a0 := r166) (Sl.all hf178) hb179.blk trivial hp190) ?_
                      rintro vr193 wd192 ⟨rfl, hm191⟩
                      obtain ⟨O194, hold195, hnew196, hst197⟩ := adoptE O174 (fun k => 1) hm191
                      refine WL.ung rfl rfl ?_
                      refine WL.y (Y.eql_i rfl rfl) rfl ?_
                      refine WL.y (Y.pick (b := true) rfl rfl) rfl ?_
                      exact WL.nil (At.join (σ := (Bool × Own)) (decide (r189 = 2), O194) ⟨some1 h, (Stp.up hst197 rfl)⟩ (.cons rfl .nil))
                    · refine WL.ren 62 rfl (congrArg Value.bool hE188) ?_
                      refine WL.gS rfl rfl rfl rfl ?_
                      refine WL.gS rfl rfl rfl rfl ?_
                      refine WL.gS rfl rfl rfl rfl ?_
                      refine WL.y (Y.pick (b := false) rfl rfl) rfl ?_
                      exact WL.nil (At.join (σ := (Bool × Own)) (false, O174) ⟨some1 h, (Stp.refl _ _ _)⟩ (.cons rfl .nil))
                  · rintro ⟨x182, O183⟩ wd184 ⟨rfl, hst185⟩
                    replace h := hk187
                    try dsimp only at h hst185
                    refine (show WL _ _ _ _ _ [(66, .bool x182)] _ from ?_)
                    refine WL.y (Y.assign rfl) rfl ?_
                    refine WL.nil ?_
                    refine At.then ?_
                    refine WC.ret ?_
                    obtain rfl := some1 h
                    have hs198 : Stp [11, 12, 14] (Lg.O0 (fun _ => False)) w O183 wd184 := (Stp.trans (Stp.up hst23 rfl) (Stp.trans (Stp.up hst38 rfl) (Stp.trans (Stp.up hst49 rfl) (Stp.trans (Stp.up hst79 rfl) (Stp.trans (Stp.up hst98 rfl) (Stp.trans (Stp.up hst110 rfl) (Stp.trans (Stp.up hst115 rfl) (Stp.trans (Stp.up hst161 rfl) (Stp.trans (Stp.up hst177 rfl) (Stp.up hst185 rfl))))))))))
                    exact At.res (.inl rfl) rfl (.tmp rfl .nil) ⟨rfl, (Stp.ext hs198 rfl rfl)⟩

theorem c_ref01_Bits {A : Nat → Prop} {a0 : List UInt8} {v0 : Value} {w : World} (hs0 : Sl Rep.b w A v0 a0) {r0 : List Int} (h : ref01_Bits a0 = some r0) : Rets Try.prog 21 [v0] w (fun v w' => ∃ (u0 : Value), v = u0 ∧ Ext w w' ∧ RowF Rep.i 3 w w' u0 r0) := by
  unfold ref01_Bits at h
  refine Rets.enter Try.func21 rfl rfl ?_
  have hf11 : Sl Rep.b w (imm (Lg.O0 A)) v0 a0 := (Sl.start hs0)
  refine (show WC _ _ _ _ [(0, v0)] _ from ?_)
  refine WC.seq ?_
  refine WC.region ?_
  refine WL.y (Y.assign rfl) rfl ?_
  refine WL.nil ?_
  refine At.then ?_
  refine WC.seq ?_
  refine WC.region ?_
  refine WL.y (Y.assign rfl) rfl ?_
  refine WL.nil ?_
  refine At.then ?_
  refine WC.seq ?_
  refine WC.seq ?_
  refine WC.region ?_
  refine WL.y (Y.assign rfl) rfl ?_
  refine WL.nil ?_
  refine At.then ?_
  refine WC.block ?_
  obtain ⟨p25, h, hk27⟩ := flow1 h
  obtain ⟨k26, h⟩ := loop_some h
  refine WC.joinB 0 (σ := (List Int × Own × Value)) (fun x w' => p25 = .go x.1 ∧ Stp [12, 1001, 1002, 1004, 1006] (Lg.O0 A) w x.2.1 w' ∧ OwnSl 1010 Rep.i 3 x.2.1 w' x.2.2 x.1) (fun x => [(3, x.2.2)]) ?_ ?_
  · refine WC.loop (σ := (List Int × Int × Own × Value)) (fun x k w' => loopN k (ref01_Bits_lp1 a0) (x.1, x.2.1) = some p25 ∧ Stp [12, 1001, 1002, 1004, 1006] (Lg.O0 A) w x.2.2.1 w' ∧ OwnSl 1006 Rep.i 3 x.2.2.1 w' x.2.2.2 x.1) (fun x => [(0, v0), (3, x.2.2.2), (4, vi x.2.1)]) ([], 0, (Lg.O0 A), .slice none 0 0) k26 (.cons rfl (.cons rfl (.cons rfl .nil))) ⟨h, (Stp.refl _ _ _), (OwnSl.nil 1006 Rep.i 3)⟩ ?_
    rintro ⟨out12, i15, O16, v13⟩ k26 wd17 ⟨h, hst18, hf14⟩
    obtain ⟨j28, q29, rfl, h, hn30⟩ := rnd1 h
    unfold ref01_Bits_lp1 at h
    try dsimp only at h hst18 hf14
    refine (show WC _ _ _ _ [(0, v0), (3, v13), (4, vi i15)] _ from ?_)
    refine WC.seq ?_
    refine WC.seq ?_
    refine WC.region ?_
    refine WL.y (Y.move rfl) rfl ?_
    refine WL.y (Y.move rfl) rfl ?_
    have hf31 := hf11.mono (imm_st hst18 rfl rfl)
    refine WL.y (Y.len ty30 rfl hf31) rfl ?_
    refine WL.y (Y.lss_i rfl rfl) rfl ?_
    refine WL.nil ?_
    refine At.then ?_
    rcases cnd h with ⟨hc32, h⟩ | ⟨hc32, h⟩
    · refine WC.condT' rfl hc32 ?_
      refine WC.skip ?_
      refine At.then ?_
      refine WC.seq ?_
      refine WC.block ?_
      refine WC.seq ?_
      refine WC.region ?_
      refine WL.y (Y.move rfl) rfl ?_
      refine WL.y (Y.move rfl) rfl ?_
      obtain ⟨e33, he33, h⟩ := bnd h
      obtain ⟨b34, off42, cap41, cs40, hv35, hi36, hl37, hc38, hok39, hA43⟩ := Sl.at2 hf31 he33
      obtain rfl := hok39
      replace hc38 : CellsAt _ _ _ [vb e33] := hc38
      have hca44 := CAt.imm hc38 hA43
      refine WL.y (Y.indexAddr ty30 ty5 rfl hv35 rfl hi36 hl37) rfl ?_
      refine WL.y (Y.loadSc ty5 rfl rfl hca44.at_) rfl ?_
      refine WL.y (Y.conv_bi ty5.u ty3.u rfl) rfl ?_
      obtain ⟨x45, hx45, h⟩ := lt1 h
      refine WL.yE (Y.assign rfl) (congrArg vi hx45.symm) rfl ?_
      refine WL.nil ?_
      refine At.then ?_
      refine WC.seq ?_
      refine WC.region ?_
      refine WL.y (Y.assign rfl) rfl ?_
      refine WL.nil ?_
      refine At.then ?_
      obtain ⟨p52, h, hk53⟩ := bnd h
      refine WC.join (σ := (List Int × Own × Value)) (fun x w' => x.1 = p52 ∧ Stp [1001, 1002, 1006] O16 wd17 x.2.1 w' ∧ OwnSl 1004 Rep.i 3 x.2.1 w' x.2.2 x.1) (fun x => [(0, v0), (3, x.2.2), (4, vi i15)]) ?_ ?_
      · refine WC.block ?_
        obtain ⟨p67, h, hk69⟩ := flow1 h
        obtain ⟨k68, h⟩ := loop_some h
        refine WC.joinB 2 (σ := (List Int × Own × Value)) (fun x w' => p67 = .go x.1 ∧ Stp [1001, 1006] O16 wd17 x.2.1 w' ∧ OwnSl 1002 Rep.i 3 x.2.1 w' x.2.2 x.1) (fun x => [(0, v0), (3, x.2.2), (4, vi i15)]) ?_ ?_
        · obtain ⟨O70, hst71, ho72⟩ := OwnSl.rlb 1001 rfl hf14
          refine WC.loop (σ := (List Int × Int × Own × Value)) (fun x k w' => loopN k (ref01_Bits_lp2 x45) (x.1, x.2.1) = some p67 ∧ Stp [1001, 1006] O16 wd17 x.2.2.1 w' ∧ OwnSl 1001 Rep.i 3 x.2.2.1 w' x.2.2.2 x.1) (fun x => [(0, v0), (3, x.2.2.2), (4, vi i15), (5, vi x45), (6, vi x.2.1)]) (out12, 128, O70, v13) k68 (.cons rfl (.cons rfl (.cons rfl (.cons rfl (.cons rfl .nil))))) ⟨h, (Stp.up hst71 rfl), ho72⟩ ?_
          rintro ⟨out54, k57, O58, v55⟩ k68 wd59 ⟨h, hst60, hf56⟩
          obtain ⟨j73, q74, rfl, h, hn75⟩ := rnd1 h
          unfold ref01_Bits_lp2 at h
          try dsimp only at h hst60 hf56
          refine (show WC _ _ _ _ [(0, v0), (3, v55), (4, vi i15), (5, vi x45), (6, vi k57)] _ from ?_)
          refine WC.seq ?_
          refine WC.seq ?_
          refine WC.region ?_
          refine WL.y (Y.move rfl) rfl ?_
          refine WL.y (Y.gtr_i rfl rfl) rfl ?_
          refine WL.nil ?_
          refine At.then ?_
          rcases cnd h with ⟨hc76, h⟩ | ⟨hc76, h⟩
          · refine WC.condT' rfl hc76 ?_
            refine WC.skip ?_
            refine At.then ?_
            refine WC.seq ?_
            refine WC.block ?_
            refine WC.region ?_
            refine WL.y (Y.move rfl) rfl ?_
            refine WL.y (Y.move rfl) rfl ?_
            refine WL.y (Y.move rfl) rfl ?_
            obtain ⟨hc77, h⟩ := chk1 h
            refine WL.y (Y.quo_i (ne_of_chk hc77) rfl rfl) rfl ?_
            refine WL.y (Y.rem_i (by decide) rfl rfl) rfl ?_
            refine WL.buildSlice (O := O58) (R := Rep.i) (vals := [(0, vi ((w64 (x45.tdiv k57)).tmod 2))]) 11 [vi ((w64 (x45.tdiv k57)).tmod 2)] (xs := [(w64 (x45.tdiv k57)).tmod 2]) (by decide) ty23 ty3 (by decide) (by decide) (Fits.evalp rfl) (by kernel_rfl) rfl ⟨[vi ((w64 (x45.tdiv k57)).tmod 2)], [], rfl, rfl, rfl⟩ rfl ?_
            intro v78 O80 wd81 hst82 ho79
            obtain ⟨xs83, hxs83, h⟩ := bnd h
            have hf84 := hf56.st hst82 rfl rfl rfl
            refine WL.append (by decide) ty23 ty3 rfl (by decide) rfl rfl hf84 ho79.src hxs83 rfl ?_
            intro v88 O85 wd86 hst87 ho89
            refine WL.y (Y.assign rfl) rfl ?_
            refine WL.nil ?_
            refine At.inBlock ?_
            refine At.then ?_
            refine WC.region ?_
            refine WL.y (Y.move rfl) rfl ?_
            refine WL.y (Y.quo_i (by decide) rfl rfl) rfl ?_
            obtain ⟨k90, hk90, h⟩ := lt1 h
            refine WL.yE (Y.assign rfl) (congrArg vi hk90.symm) rfl ?_
            refine WL.nil ?_
            exact At.round (xs83, k90, O85, v88) j73 (Nat.lt_succ_self _) ⟨next1 h hn75, (Stp.trans (Stp.up hst60 rfl) (Stp.trans (Stp.up hst82 rfl) (Stp.up hst87 rfl))), ho89⟩ (.cons rfl (.cons rfl (.cons rfl (.cons rfl (.cons rfl .nil)))))
          · refine WC.condF' rfl hc76 ?_
            refine WC.exit ?_
            refine At.thenX ?_
            refine At.loopX ?_
            obtain ⟨O91, hst92, ho93⟩ := OwnSl.rlb 1002 rfl hf56
            exact At.hitB (σ := (List Int × Own × Value)) (out54, O91, v55) ⟨brk1 h hn75, (Stp.trans (Stp.up hst60 rfl) (Stp.up hst92 rfl)), ho93⟩ (.cons rfl (.cons rfl (.cons rfl .nil)))
        · rintro ⟨out61, O64, v62⟩ wd65 ⟨rfl, hst66, hf63⟩
          replace h := flowK_go hk69
          try dsimp only at h hst66 hf63
          refine (show At _ _ _ [(0, v0), (3, v62), (4, vi i15)] _ from ?_)
          refine At.inBlockHit ?_
          obtain ⟨O94, hst95, ho96⟩ := OwnSl.rlb 1004 rfl hf63
          exact At.join (σ := (List Int × Own × Value)) (out61, O94, v62) ⟨some1 h, (Stp.trans (Stp.up hst66 rfl) (Stp.up hst95 rfl)), ho96⟩ (.cons rfl (.cons rfl (.cons rfl .nil)))
      · rintro ⟨out46, O49, v47⟩ wd50 ⟨rfl, hst51, hf48⟩
        replace h := hk53
        try dsimp only at h hst51 hf48
        refine (show At _ _ _ [(0, v0), (3, v47), (4, vi i15)] _ from ?_)
        refine At.inBlock ?_
        refine At.then ?_
        refine WC.region ?_
        refine WL.y (Y.move rfl) rfl ?_
        refine WL.y (Y.add_i rfl rfl) rfl ?_
        obtain ⟨i97, hi97, h⟩ := lt1 h
        refine WL.yE (Y.assign rfl) (congrArg vi hi97.symm) rfl ?_
        refine WL.nil ?_
        obtain ⟨O98, hst99, ho100⟩ := OwnSl.rlb 1006 rfl hf48
        exact At.round (out46, i97, O98, v47) j28 (Nat.lt_succ_self _) ⟨next1 h hn30, (Stp.trans (Stp.up hst18 rfl) (Stp.trans (Stp.up hst51 rfl) (Stp.up hst99 rfl))), ho100⟩ (.cons rfl (.cons rfl (.cons rfl .nil)))
    · refine WC.condF' rfl hc32 ?_
      refine WC.exit ?_
      refine At.thenX ?_
      refine At.loopX ?_
      obtain ⟨O101, hst102, ho103⟩ := OwnSl.rlb 1010 rfl hf14
      exact At.hitB (σ := (List Int × Own × Value)) (out12, O101, v13) ⟨brk1 h hn30, (Stp.trans (Stp.up hst18 rfl) (Stp.up hst102 rfl)), ho103⟩ (.cons rfl .nil)
  · rintro ⟨out19, O22, v20⟩ wd23 ⟨rfl, hst24, hf21⟩
    replace h := flowK_go hk27
    try dsimp only at h hst24 hf21
    refine (show At _ _ _ [(3, v20)] _ from ?_)
    refine At.inBlockHit ?_
    refine At.then ?_
    refine WC.seq ?_
    refine WC.region ?_
    refine WL.y (Y.move rfl) rfl ?_
    refine WL.y (Y.assign rfl) rfl ?_
    refine WL.nil ?_
    refine At.then ?_
    refine WC.ret ?_
    obtain rfl := some1 h
    have hs104 : Stp [12, 1001, 1002, 1004, 1006] (Lg.O0 A) w O22 wd23 := (Stp.up hst24 rfl)
    exact At.res (.inl rfl) rfl (.tmp rfl .nil) ⟨v20, rfl, (Stp.ext hs104 rfl rfl), (OwnSl.outF hf21 hs104 low0 rfl)⟩

theorem c_law01_some {A : Nat → Prop} {a0 : List law01_Put} {v0 : Value} {w : World} (hs0 : Sl rep_law01_Put w A v0 a0) {r0 : Bool} (h : law01_some a0 = some r0) : Rets Try.prog 25 [v0] w (fun v w' => v = .bool r0 ∧ Ext w w') := by
  unfold law01_some at h
  refine Rets.enter Try.func25 rfl rfl ?_
  have hf11 : Sl rep_law01_Put w (imm (Lg.O0 A)) v0 a0 := (Sl.start hs0)
  refine (show WC _ _ _ _ [(0, v0)] _ from ?_)
  refine WC.seq ?_
  refine WC.region ?_
  refine WL.y (Y.assign rfl) rfl ?_
  refine WL.nil ?_
  refine At.then ?_
  refine WC.seq ?_
  refine WC.seq ?_
  refine WC.region ?_
  refine WL.y (Y.move rfl) rfl ?_
  refine WL.y (Y.len ty46 rfl hf11) rfl ?_
  refine WL.y (Y.gtr_i rfl rfl) rfl ?_
  refine WL.nil ?_
  refine At.then ?_
  rcases cnd h with ⟨hc12, h⟩ | ⟨hc12, h⟩
  · refine WC.condT' rfl hc12 ?_
    refine WC.seq ?_
    refine WC.region ?_
    refine WL.y (Y.assign rfl) rfl ?_
    refine WL.nil ?_
    refine At.then ?_
    refine WC.ret ?_
    refine At.thenR ?_
    obtain rfl := some1 h
    have hs13 : Stp [] (Lg.O0 A) w (Lg.O0 A) w := (Stp.refl _ _ _)
    exact At.res (.inl rfl) rfl (.tmp rfl .nil) ⟨rfl, (Stp.ext hs13 rfl rfl)⟩
  · refine WC.condF' rfl hc12 ?_
    refine WC.skip ?_
    refine At.then ?_
    refine WC.seq ?_
    refine WC.seq ?_
    refine WC.region ?_
    refine WL.y (Y.assign rfl) rfl ?_
    refine WL.nil ?_
    refine At.then ?_
    refine WC.block ?_
    obtain ⟨p15, h, hk17⟩ := flow1 h
    obtain ⟨k16, h⟩ := loop_some h
    refine WC.joinB 0 (σ := Unit) (fun x w' => p15 = .go () ∧ w = w') (fun x => []) ?_ ?_
    · refine WC.loop (σ := Int) (fun x k w' => loopN k (law01_some_lp1 a0) x = some p15 ∧ w = w') (fun x => [(0, v0), (3, vi x)]) 0 k16 (.cons rfl (.cons rfl .nil)) ⟨h, rfl⟩ ?_
      rintro i14 k16 _ ⟨h, rfl⟩
      obtain ⟨j18, q19, rfl, h, hn20⟩ := rnd1 h
      unfold law01_some_lp1 at h
      try dsimp only at h
      refine (show WC _ _ _ _ [(0, v0), (3, vi i14)] _ from ?_)
      refine WC.seq ?_
      refine WC.seq ?_
      refine WC.region ?_
      refine WL.y (Y.move rfl) rfl ?_
      refine WL.y (Y.move rfl) rfl ?_
      refine WL.y (Y.len ty46 rfl hf11) rfl ?_
      refine WL.y (Y.lss_i rfl rfl) rfl ?_
      refine WL.nil ?_
      refine At.then ?_
      rcases cnd h with ⟨hc21, h⟩ | ⟨hc21, h⟩
      · refine WC.condT' rfl hc21 ?_
        refine WC.skip ?_
        refine At.then ?_
        refine WC.seq ?_
        refine WC.block ?_
        refine WC.seq ?_
        refine WC.region ?_
        refine WL.y (Y.move rfl) rfl ?_
        refine WL.y (Y.move rfl) rfl ?_
        obtain ⟨e22, he22, h⟩ := bnd h
        obtain ⟨b23, off33, cap30, cs29, hv24, hi25, hl26, hc27, hok28, hA34⟩ := Sl.at2 hf11 he22
        obtain ⟨_, _, rfl, rfl, ⟨_, _, rfl, rfl, ⟨_, _, rfl, rfl, ⟨v31, rfl, hf32⟩⟩⟩⟩ := hok28
        replace hc27 : CellsAt _ _ _ [vi e22.Kind, vu e22.V, vi e22.N, v31] := hc27
        have hca35 := CAt.imm hc27 hA34
        refine WL.y (Y.indexAddr ty46 ty49 rfl hv24 rfl hi25 hl26) rfl ?_
        refine WL.y (Y.fieldAddr fo49_3 rfl) rfl ?_
        refine WL.y (Y.loadSc ty30 rfl rfl (hca35.at_.sub 3 [v31] rfl)) rfl ?_
        refine WL.y (Y.len ty30 rfl hf32) rfl ?_
        refine WL.y (Y.gtr_i rfl rfl) rfl ?_
        refine WL.nil ?_
        refine At.then ?_
        rcases cnd h with ⟨hc36, h⟩ | ⟨hc36, h⟩
        · refine WC.condT' rfl hc36 ?_
          refine WC.seq ?_
          refine WC.region ?_
          refine WL.y (Y.assign rfl) rfl ?_
          refine WL.nil ?_
          refine At.then ?_
          refine WC.ret ?_
          refine At.inBlockR ?_
          refine At.thenR ?_
          refine At.loopR ?_
          have h := outr1 h hn20 hk17
          refine At.joinBR ?_
          refine At.inBlockR ?_
          refine At.thenR ?_
          obtain rfl := some1 h
          have hs37 : Stp [] (Lg.O0 A) w (Lg.O0 A) w := (Stp.refl _ _ _)
          exact At.res (.inl rfl) rfl (.tmp rfl .nil) ⟨rfl, (Stp.ext hs37 rfl rfl)⟩
        · refine WC.condF' rfl hc36 ?_
          refine WC.skip ?_
          refine At.inBlock ?_
          refine At.then ?_
          refine WC.region ?_
          refine WL.y (Y.move rfl) rfl ?_
          refine WL.y (Y.add_i rfl rfl) rfl ?_
          obtain ⟨i38, hi38, h⟩ := lt1 h
          refine WL.yE (Y.assign rfl) (congrArg vi hi38.symm) rfl ?_
          refine WL.nil ?_
          exact At.round i38 j18 (Nat.lt_succ_self _) ⟨next1 h hn20, rfl⟩ (.cons rfl (.cons rfl .nil))
      · refine WC.condF' rfl hc21 ?_
        refine WC.exit ?_
        refine At.thenX ?_
        refine At.loopX ?_
        exact At.hitB (σ := Unit) () ⟨brk1 h hn20, rfl⟩ .nil
    · rintro _ _ ⟨rfl, rfl⟩
      replace h := flowK_go hk17
      refine (show At _ _ _ [] _ from ?_)
      refine At.inBlockHit ?_
      refine At.then ?_
      refine WC.seq ?_
      refine WC.region ?_
      refine WL.y (Y.assign rfl) rfl ?_
      refine WL.nil ?_
      refine At.then ?_
      refine WC.ret ?_
      obtain rfl := some1 h
      have hs39 : Stp [] (Lg.O0 A) w (Lg.O0 A) w := (Stp.refl _ _ _)
      exact At.res (.inl rfl) rfl (.tmp rfl .nil) ⟨rfl, (Stp.ext hs39 rfl rfl)⟩

theorem c_ref01_Row {a0 : UInt64} {a1 : Int} {w : World} {r0 : List Int} {r1 : Bool} (h : ref01_Row a0 a1 = some (r0, r1)) : Rets Try.prog 26 [vu a0, vi a1] w (fun v w' => ∃ (u0 : Value), v = .tuple (List.toArray [u0, .bool r1]) ∧ Ext w w' ∧ RowF Rep.i 3 w w' u0 r0) := by
  unfold ref01_Row at h
  refine Rets.enter Try.func26 rfl rfl ?_
  refine (show WC _ _ _ _ [(0, vu a0), (1, vi a1)] _ from ?_)
  refine WC.seq ?_
  refine WC.region ?_
  refine WL.y (Y.assign rfl) rfl ?_
  refine WL.y (Y.assign rfl) rfl ?_
  refine WL.nil ?_
  refine At.then ?_
  refine WC.seq ?_
  refine WC.seq ?_
  refine WC.region ?_
  refine WL.y (Y.move rfl) rfl ?_
  refine WL.y (Y.lss_i rfl rfl) rfl ?_
  refine WL.y (Y.move rfl) rfl ?_
  refine WL.cut 3 (σ := Unit) (fun _ w' => w = w') (fun _ => [(0, vu a0), (1, vi a1), (13, .bool ((decide (a1 < 0)) || (decide (64 < a1))))]) ?_ ?_
  · refine WL.part 10 rfl (fun hE11 => ?_) (fun hE11 => ?_)
    · refine WL.gS rfl rfl rfl rfl ?_
      refine WL.gS rfl rfl rfl rfl ?_
      refine WL.y (Y.pick (b := true) rfl rfl) rfl ?_
      refine WL.ren (v' := .bool ((decide (a1 < 0)) || (decide (64 < a1)))) 13 rfl (congrArg Value.bool (orT hE11)) ?_
      exact WL.nil (At.join () rfl (.cons rfl (.cons rfl (.cons rfl .nil))))
    · refine WL.ung rfl rfl ?_
      refine WL.y (Y.move rfl) rfl ?_
      refine WL.ung rfl rfl ?_
      refine WL.y (Y.gtr_i rfl rfl) rfl ?_
      refine WL.y (Y.pick (b := false) rfl rfl) rfl ?_
      refine WL.ren (v' := .bool ((decide (a1 < 0)) || (decide (64 < a1)))) 13 rfl (congrArg Value.bool (orF hE11)) ?_
      exact WL.nil (At.join () rfl (.cons rfl (.cons rfl (.cons rfl .nil))))
  · rintro _ _ rfl
    refine (show WL _ _ _ _ _ [(0, vu a0), (1, vi a1), (13, .bool ((decide (a1 < 0)) || (decide (64 < a1))))] _ from ?_)
    refine WL.nil ?_
    refine At.then ?_
    rcases cnd h with ⟨hc12, h⟩ | ⟨hc12, h⟩
    · refine WC.condT' rfl hc12 ?_
      refine WC.seq ?_
      refine WC.region ?_
      refine WL.y (Y.assign rfl) rfl ?_
      refine WL.y (Y.assign rfl) rfl ?_
      refine WL.nil ?_
      refine At.then ?_
      refine WC.ret ?_
      refine At.thenR ?_
      obtain ⟨rfl, rfl⟩ := tup2 h
      have hs13 : Stp [] (Lg.O0 (fun _ => False)) w (Lg.O0 (fun _ => False)) w := (Stp.refl _ _ _)
      exact At.res (.inl rfl) rfl (.tmp rfl (.tmp rfl .nil)) ⟨.slice none 0 0, rfl, (Stp.ext hs13 rfl rfl), RowF.nil⟩
    · refine WC.condF' rfl hc12 ?_
      refine WC.skip ?_
      refine At.then ?_
      refine WC.seq ?_
      refine WC.region ?_
      refine WL.y (Y.assign rfl) rfl ?_
      refine WL.nil ?_
      refine At.then ?_
      refine WC.seq ?_
      refine WC.seq ?_
      refine WC.region ?_
      refine WL.y (Y.assign rfl) rfl ?_
      refine WL.nil ?_
      refine At.then ?_
      refine WC.block ?_
      obtain ⟨p29, h, hk31⟩ := flow1 h
      obtain ⟨k30, h⟩ := loop_some h
      refine WC.joinB 0 (σ := (UInt64 × List Int × Own × Value)) (fun x w' => p29 = .go (x.1, x.2.1) ∧ Stp [11, 1001] (Lg.O0 (fun _ => False)) w x.2.2.1 w' ∧ OwnSl 1002 Rep.i 3 x.2.2.1 w' x.2.2.2 x.2.1) (fun x => [(0, vu x.1), (6, x.2.2.2)]) ?_ ?_
      · refine WC.loop (σ := (UInt64 × List Int × Int × Own × Value)) (fun x k w' => loopN k (ref01_Row_lp1 a1) (x.1, x.2.1, x.2.2.1) = some p29 ∧ Stp [11] (Lg.O0 (fun _ => False)) w x.2.2.2.1 w' ∧ OwnSl 1001 Rep.i 3 x.2.2.2.1 w' x.2.2.2.2 x.2.1) (fun x => [(0, vu x.1), (1, vi a1), (6, x.2.2.2.2), (7, vi x.2.2.1)]) (a0, [], 0, (Lg.O0 (fun _ => False)), .slice none 0 0) k30 (.cons rfl (.cons rfl (.cons rfl (.cons rfl .nil)))) ⟨h, (Stp.refl _ _ _), (OwnSl.nil 1001 Rep.i 3)⟩ ?_
        rintro ⟨v14, out15, i18, O19, v16⟩ k30 wd20 ⟨h, hst21, hf17⟩
        obtain ⟨j32, q33, rfl, h, hn34⟩ := rnd1 h
        unfold ref01_Row_lp1 at h
        try dsimp only at h hst21 hf17
        refine (show WC _ _ _ _ [(0, vu v14), (1, vi a1), (6, v16), (7, vi i18)] _ from ?_)
        refine WC.seq ?_
        refine WC.seq ?_
        refine WC.region ?_
        refine WL.y (Y.move rfl) rfl ?_
        refine WL.y (Y.move rfl) rfl ?_
        refine WL.y (Y.lss_i rfl rfl) rfl ?_
        refine WL.nil ?_
        refine At.then ?_
        rcases cnd h with ⟨hc35, h⟩ | ⟨hc35, h⟩
        · refine WC.condT' rfl hc35 ?_
          refine WC.skip ?_
          refine At.then ?_
          refine WC.seq ?_
          refine WC.block ?_
          refine WC.seq ?_
          refine WC.region ?_
          refine WL.y (Y.move rfl) rfl ?_
          refine WL.y (Y.rem_u (b := 2) (by decide) rfl rfl) rfl ?_
          refine WL.y (Y.conv_ui ty29.u ty3.u rfl) rfl ?_
          refine WL.buildSlice (O := O19) (R := Rep.i) (vals := [(0, vi (w64 ((v14 % 2).toNat : Int)))]) 11 [vi (w64 ((v14 % 2).toNat : Int))] (xs := [w64 ((v14 % 2).toNat : Int)]) (by decide) ty23 ty3 (by decide) (by decide) (Fits.evalp rfl) (by kernel_rfl) rfl ⟨[vi (w64 ((v14 % 2).toNat : Int))], [], rfl, rfl, rfl⟩ rfl ?_
          intro v36 O38 wd39 hst40 ho37
          refine WL.y (Y.move rfl) rfl ?_
          obtain ⟨xs41, hxs41, h⟩ := bnd h
          have hf42 := hf17.st hst40 rfl rfl rfl
          refine WL.append (by decide) ty23 ty3 rfl (by decide) rfl rfl ho37 hf42.src hxs41 rfl ?_
          intro v46 O43 wd44 hst45 ho47
          refine WL.y (Y.assign rfl) rfl ?_
          refine WL.nil ?_
          refine At.then ?_
          refine WC.region ?_
          refine WL.y (Y.move rfl) rfl ?_
          refine WL.y (Y.quo_u (b := 2) (by decide) rfl rfl) rfl ?_
          obtain ⟨v48, hv48, h⟩ := lt1 h
          refine WL.yE (Y.assign rfl) (congrArg vu hv48.symm) rfl ?_
          refine WL.nil ?_
          refine At.inBlock ?_
          refine At.then ?_
          refine WC.region ?_
          refine WL.y (Y.move rfl) rfl ?_
          refine WL.y (Y.add_i rfl rfl) rfl ?_
          obtain ⟨i49, hi49, h⟩ := lt1 h
          refine WL.yE (Y.assign rfl) (congrArg vi hi49.symm) rfl ?_
          refine WL.nil ?_
          obtain ⟨O50, hst51, ho52⟩ := OwnSl.rlb 1001 rfl ho47
          exact At.round (v48, xs41, i49, O50, v46) j32 (Nat.lt_succ_self _) ⟨next1 h hn34, (Stp.trans (Stp.up hst21 rfl) (Stp.trans (Stp.up hst40 rfl) (Stp.trans (Stp.up hst45 rfl) (Stp.up hst51 rfl)))), ho52⟩ (.cons rfl (.cons rfl (.cons rfl (.cons rfl .nil))))
        · refine WC.condF' rfl hc35 ?_
          refine WC.exit ?_
          refine At.thenX ?_
          refine At.loopX ?_
          obtain ⟨O53, hst54, ho55⟩ := OwnSl.rlb 1002 rfl hf17
          exact At.hitB (σ := (UInt64 × List Int × Own × Value)) (v14, out15, O53, v16) ⟨brk1 h hn34, (Stp.trans (Stp.up hst21 rfl) (Stp.up hst54 rfl)), ho55⟩ (.cons rfl (.cons rfl .nil))
      · rintro ⟨v22, out23, O26, v24⟩ wd27 ⟨rfl, hst28, hf25⟩
        replace h := flowK_go hk31
        try dsimp only at h hst28 hf25
        refine (show At _ _ _ [(0, vu v22), (6, v24)] _ from ?_)
        refine At.inBlockHit ?_
        refine At.then ?_
        refine WC.seq ?_
        refine WC.region ?_
        refine WL.y (Y.move rfl) rfl ?_
        refine WL.y (Y.move rfl) rfl ?_
        refine WL.y (Y.eql_u (b := 0) rfl rfl) rfl ?_
        refine WL.y (Y.assign rfl) rfl ?_
        obtain ⟨t56, ht56, h⟩ := lt1 h
        refine WL.yE (Y.assign rfl) (congrArg Value.bool ht56.symm) rfl ?_
        refine WL.nil ?_
        refine At.then ?_
        refine WC.ret ?_
        obtain ⟨rfl, rfl⟩ := tup2 h
        have hs57 : Stp [11, 1001] (Lg.O0 (fun _ => False)) w O26 wd27 := (Stp.up hst28 rfl)
        exact At.res (.inl rfl) rfl (.tmp rfl (.tmp rfl .nil)) ⟨v24, rfl, (Stp.ext hs57 rfl rfl), (OwnSl.outF hf25 hs57 low0 rfl)⟩

theorem c_bitio_Writer_PutBits {A : Nat → Prop} {v0_0 : Value} {a0 : bitio_Writer} {b0 : Nat} {a1 : List UInt8} {v1 : Value} {a2 : Int} {w : World} (hs0_0 : Row Rep.b 5 w v0_0 a0.b) (hb0 : w.heap[b0]? = some (.cells (List.toArray [v0_0, vi a0.n]) 73 (0, 0))) (hs1 : Sl Rep.b w A v1 a1) (hne0_1 : Value.ownBlock v0_0 ≠ some b0) (hA : ∀ k, A k → k ≠ b0 ∧ Value.ownBlock v0_0 ≠ some k) {r0 : Bool} {q0 : bitio_Writer} (h : bitio_Writer_PutBits a0 a1 a2 = some (r0, q0)) : Rets Try.prog 27 [.pointer (some ⟨b0, 0, none⟩), v1, vi a2] w (fun v w' => ∃ (z0_0 : Value), v = .bool r0 ∧ Mod (fun k => k = b0 ∨ Value.ownBlock v0_0 = some k) w w' ∧ RowG Rep.b 5 w w' v0_0 z0_0 q0.b ∧ w'.heap[b0]? = some (.cells (List.toArray [z0_0, vi q0.n]) 73 (0, 0))) := by
  unfold bitio_Writer_PutBits at h
  refine Rets.enter Try.func27 rfl rfl ?_
  have ho11 : OwnSl 4 Rep.b 5 (Lg.OB b0 3 (Lg.OV v0_0 4 (Lg.O0 A))) w v0_0 a0.b := Row.start Flat.b hs0_0 (fun k hk => ((if_neg (fun (e : k = b0) => hne0_1 (e ▸ hk))).trans (if_pos hk)))
  have hb12 : Blk 3 (Lg.OB b0 3 (Lg.OV v0_0 4 (Lg.O0 A))) w b0 73 [v0_0, vi a0.n] := ⟨(if_pos rfl), hb0⟩
  have hf13 : Sl Rep.b w (imm (Lg.OB b0 3 (Lg.OV v0_0 4 (Lg.O0 A)))) v1 a1 := (Sl.OB (Sl.OV (Sl.start hs1) (fun k hk => (hA k (O0_A k hk)).2)) (fun k hk => (hA k ((aV O0_A rfl) k hk)).1))
  refine (show WC _ _ _ _ [(0, .pointer (some ⟨b0, 0, none⟩)), (1, v1), (2, vi a2)] _ from ?_)
  refine WC.seq ?_
  refine WC.region ?_
  refine WL.y (Y.assign rfl) rfl ?_
  refine WL.nil ?_
  refine At.then ?_
  refine WC.seq ?_
  refine WC.seq ?_
  refine WC.region ?_
  refine WL.y (Y.move rfl) rfl ?_
  refine WL.y (Y.lss_i rfl rfl) rfl ?_
  refine WL.y (Y.move rfl) rfl ?_
  refine WL.cut 6 (σ := Unit) (fun _ w' => w = w') (fun _ => [(0, .pointer (some ⟨b0, 0, none⟩)), (1, v1), (2, vi a2), (17, .bool ((decide (a2 < 0)) || (decide (w64 (8 * (a1.length : Int)) < a2))))]) ?_ ?_
  · refine WL.part 11 rfl (fun hE14 => ?_) (fun hE14 => ?_)
    · refine WL.gS rfl rfl rfl rfl ?_
      refine WL.gS rfl rfl rfl rfl ?_
      refine WL.gS rfl rfl rfl rfl ?_
      refine WL.gS rfl rfl rfl rfl ?_
      refine WL.gS rfl rfl rfl rfl ?_
      refine WL.y (Y.pick (b := true) rfl rfl) rfl ?_
      refine WL.ren (v' := .bool ((decide (a2 < 0)) || (decide (w64 (8 * (a1.length : Int)) < a2)))) 17 rfl (congrArg Value.bool (orT hE14)) ?_
      exact WL.nil (At.join () rfl (.cons rfl (.cons rfl (.cons rfl (.cons rfl .nil)))))
    · refine WL.ung rfl rfl ?_
      refine WL.y (Y.move rfl) rfl ?_
      refine WL.ung rfl rfl ?_
      refine WL.y (Y.move rfl) rfl ?_
      refine WL.ung rfl rfl ?_
      refine WL.y (Y.len ty30 rfl hf13) rfl ?_
      refine WL.ung rfl rfl ?_
      refine WL.y (Y.mul_i rfl rfl) rfl ?_
      refine WL.ung rfl rfl ?_
      refine WL.y (Y.gtr_i rfl rfl) rfl ?_
      refine WL.y (Y.pick (b := false) rfl rfl) rfl ?_
      refine WL.ren (v' := .bool ((decide (a2 < 0)) || (decide (w64 (8 * (a1.length : Int)) < a2)))) 17 rfl (congrArg Value.bool (orF hE14)) ?_
      exact WL.nil (At.join () rfl (.cons rfl (.cons rfl (.cons rfl (.cons rfl .nil)))))
  · rintro _ _ rfl
    refine (show WL _ _ _ _ _ [(0, .pointer (some ⟨b0, 0, none⟩)), (1, v1), (2, vi a2), (17, .bool ((decide (a2 < 0)) || (decide (w64 (8 * (a1.length : Int)) < a2))))] _ from ?_)
    refine WL.nil ?_
    refine At.then ?_
    rcases cnd h with ⟨hc15, h⟩ | ⟨hc15, h⟩
    · refine WC.condT' rfl hc15 ?_
      refine WC.seq ?_
      refine WC.region ?_
      refine WL.y (Y.assign rfl) rfl ?_
      refine WL.nil ?_
      refine At.then ?_
      refine WC.ret ?_
      refine At.thenR ?_
      obtain ⟨rfl, rfl⟩ := tup2 h
      have hs16 : Stp [] (Lg.OB b0 3 (Lg.OV v0_0 4 (Lg.O0 A))) w (Lg.OB b0 3 (Lg.OV v0_0 4 (Lg.O0 A))) w := (Stp.refl _ _ _)
      exact At.res (.inl rfl) rfl (.tmp rfl .nil) ⟨v0_0, rfl, (Stp.modL hs16 (sB sV1) rfl rfl), (OwnSl.outG ho11 hs16 (lowB (lowV low0 rfl rfl) rfl rfl) (fun k hk => by unfold Lg.OB Lg.OV Lg.O0 at hk; (repeat' split at hk); all_goals first | assumption | exact absurd hk (by decide))), hb12.blk⟩
    · refine WC.condF' rfl hc15 ?_
      refine WC.skip ?_
      refine At.then ?_
      refine WC.seq ?_
      refine WC.seq ?_
      refine WC.region ?_
      refine WL.y (Y.assign rfl) rfl ?_
      refine WL.nil ?_
      refine At.then ?_
      refine WC.block ?_
      obtain ⟨p35, h, hk37⟩ := flow1 h
      obtain ⟨k36, h⟩ := loop_some h
      refine WC.joinB 0 (σ := (List UInt8 × Int × Own × Value)) (fun x w' => p35 = .go (x.1, x.2.1) ∧ Stp [3, 4] (Lg.OB b0 3 (Lg.OV v0_0 4 (Lg.O0 A))) w x.2.2.1 w' ∧ OwnSl 4 Rep.b 5 x.2.2.1 w' x.2.2.2 x.1 ∧ Blk 3 x.2.2.1 w' b0 73 [x.2.2.2, vi x.2.1]) (fun x => []) ?_ ?_
      · refine WC.loop (σ := (List UInt8 × Int × Int × Int × Own × Value)) (fun x k w' => loopN k (bitio_Writer_PutBits_lp1 a1) (x.1, x.2.1, x.2.2.1, x.2.2.2.1) = some p35 ∧ Stp [3, 4] (Lg.OB b0 3 (Lg.OV v0_0 4 (Lg.O0 A))) w x.2.2.2.2.1 w' ∧ OwnSl 4 Rep.b 5 x.2.2.2.2.1 w' x.2.2.2.2.2 x.1 ∧ Blk 3 x.2.2.2.2.1 w' b0 73 [x.2.2.2.2.2, vi x.2.1]) (fun x => [(0, .pointer (some ⟨b0, 0, none⟩)), (1, v1), (2, vi x.2.2.1), (7, vi x.2.2.2.1)]) (a0.b, a0.n, a2, 0, (Lg.OB b0 3 (Lg.OV v0_0 4 (Lg.O0 A))), v0_0) k36 (.cons rfl (.cons rfl (.cons rfl (.cons rfl .nil)))) ⟨h, (Stp.refl _ _ _), ho11, hb12⟩ ?_
        rintro ⟨c18, c21, nv22, i23, O24, v19⟩ k36 wd25 ⟨h, hst26, hf20, hb17⟩
        obtain ⟨j38, q39, rfl, h, hn40⟩ := rnd1 h
        unfold bitio_Writer_PutBits_lp1 at h
        try dsimp only at h hst26 hf20 hb17
        refine (show WC _ _ _ _ [(0, .pointer (some ⟨b0, 0, none⟩)), (1, v1), (2, vi nv22), (7, vi i23)] _ from ?_)
        refine WC.seq ?_
        refine WC.seq ?_
        refine WC.region ?_
        refine WL.y (Y.move rfl) rfl ?_
        refine WL.y (Y.gtr_i rfl rfl) rfl ?_
        refine WL.nil ?_
        refine At.then ?_
        rcases cnd h with ⟨hc41, h⟩ | ⟨hc41, h⟩
        · refine WC.condT' rfl hc41 ?_
          refine WC.skip ?_
          refine At.then ?_
          refine WC.seq ?_
          refine WC.block ?_
          refine WC.seq ?_
          refine WC.region ?_
          refine WL.y (Y.move rfl) rfl ?_
          refine WL.y (Y.min_i rfl rfl) rfl ?_
          obtain ⟨k42, hk42, h⟩ := lt1 h
          refine WL.yE (Y.assign rfl) (congrArg vi hk42.symm) rfl ?_
          refine WL.nil ?_
          refine At.then ?_
          refine WC.seq ?_
          refine WC.region ?_
          refine WL.y (Y.move rfl) rfl ?_
          refine WL.y (Y.move rfl) rfl ?_
          refine WL.y (Y.move rfl) rfl ?_
          obtain ⟨e43, he43, h⟩ := bnd h
          have hf52 := hf13.mono (imm_st hst26 rfl rfl)
          obtain ⟨b44, off53, cap51, cs50, hv45, hi46, hl47, hc48, hok49, hA54⟩ := Sl.at2 hf52 he43
          obtain rfl := hok49
          replace hc48 : CellsAt _ _ _ [vb e43] := hc48
          have hca55 := CAt.imm hc48 hA54
          refine WL.y (Y.indexAddr ty30 ty5 rfl hv45 rfl hi46 hl47) rfl ?_
          refine WL.y (Y.loadSc ty5 rfl rfl hca55.at_) rfl ?_
          refine WL.y (Y.move rfl) rfl ?_
          refine WL.y (Y.sub_i rfl rfl) rfl ?_
          refine WL.y (Y.conv_iu ty3.u ty74.u rfl) rfl ?_
          refine WL.y (Y.shr_bu rfl rfl) rfl ?_
          refine WL.y (Y.conv_bu ty5.u ty29.u rfl) rfl ?_
          refine WL.y (Y.move rfl) rfl ?_
          obtain ⟨⟨r56, r57⟩, hp58, h⟩ := bnd h
          refine WL.call (vals := [.pointer (some ⟨b0, 0, none⟩), vu ((shrB e43 ((toU64 (w64 (8 - k42))).toNat)).toUInt64), vi k42]) kok13 rfl rfl (c_bitio_Writer_Put (a0 := (bitio_Writer.mk c18 c21)) hf20.row hb17.blk (ne_lab hf20 hb17.lab rfl) hp58) ?_
          rintro vr64 wd63 ⟨z59, rfl, hm62, f60, f61⟩
          obtain ⟨O65, hold66, hnew67, hst68⟩ := adopt O24 (fun k => if Value.ownBlock z59 = some k then 4 else 1) [3, 4] hm62 (memOr (memB hb17.lab rfl) (memV hf20.labs rfl))
          have ho69 : OwnSl 4 Rep.b 5 O65 wd63 z59 r57.b := RowG.adopt Flat.b hf20.labs f60 hold66 hnew67 (fun k hk => if_pos hk)
          have hb70 : Blk 3 O65 wd63 b0 73 [z59, vi r57.n] := Blk.adopt hb17 hold66 f61
          refine WL.nil ?_
          refine At.then ?_
          refine WC.region ?_
          refine WL.y (Y.move rfl) rfl ?_
          refine WL.y (Y.move rfl) rfl ?_
          refine WL.y (Y.sub_i rfl rfl) rfl ?_
          obtain ⟨nv71, hnv71, h⟩ := lt1 h
          refine WL.yE (Y.assign rfl) (congrArg vi hnv71.symm) rfl ?_
          refine WL.nil ?_
          refine At.inBlock ?_
          refine At.then ?_
          refine WC.region ?_
          refine WL.y (Y.move rfl) rfl ?_
          refine WL.y (Y.add_i rfl rfl) rfl ?_
          obtain ⟨i72, hi72, h⟩ := lt1 h
          refine WL.yE (Y.assign rfl) (congrArg vi hi72.symm) rfl ?_
          refine WL.nil ?_
          exact At.round (r57.b, r57.n, nv71, i72, O65, z59) j38 (Nat.lt_succ_self _) ⟨next1 h hn40, (Stp.trans (Stp.up hst26 rfl) (Stp.up hst68 rfl)), ho69, hb70⟩ (.cons rfl (.cons rfl (.cons rfl (.cons rfl .nil))))
        · refine WC.condF' rfl hc41 ?_
          refine WC.exit ?_
          refine At.thenX ?_
          refine At.loopX ?_
          exact At.hitB (σ := (List UInt8 × Int × Own × Value)) (c18, c21, O24, v19) ⟨brk1 h hn40, (Stp.up hst26 rfl), hf20, hb17⟩ .nil
      · rintro ⟨c28, c31, O32, v29⟩ wd33 ⟨rfl, hst34, hf30, hb27⟩
        replace h := flowK_go hk37
        try dsimp only at h hst34 hf30 hb27
        refine (show At _ _ _ [] _ from ?_)
        refine At.inBlockHit ?_
        refine At.then ?_
        refine WC.seq ?_
        refine WC.region ?_
        refine WL.y (Y.assign rfl) rfl ?_
        refine WL.nil ?_
        refine At.then ?_
        refine WC.ret ?_
        obtain ⟨rfl, rfl⟩ := tup2 h
        have hs73 : Stp [3, 4] (Lg.OB b0 3 (Lg.OV v0_0 4 (Lg.O0 A))) w O32 wd33 := (Stp.up hst34 rfl)
        exact At.res (.inl rfl) rfl (.tmp rfl .nil) ⟨v29, rfl, (Stp.modL hs73 (sB sV1) rfl rfl), (OwnSl.outG hf30 hs73 (lowB (lowV low0 rfl rfl) rfl rfl) (fun k hk => by unfold Lg.OB Lg.OV Lg.O0 at hk; (repeat' split at hk); all_goals first | assumption | exact absurd hk (by decide))), hb27.blk⟩

theorem c_bitio_Writer_Cut {v0_0 : Value} {a0 : bitio_Writer} {b0 : Nat} {a1 : Int} {w : World} (hs0_0 : Row Rep.b 5 w v0_0 a0.b) (hb0 : w.heap[b0]? = some (.cells (List.toArray [v0_0, vi a0.n]) 73 (0, 0))) (hne0_1 : Value.ownBlock v0_0 ≠ some b0) {r0 : Bool} {q0 : bitio_Writer} (h : bitio_Writer_Cut a0 a1 = some (r0, q0)) : Rets Try.prog 28 [.pointer (some ⟨b0, 0, none⟩), vi a1] w (fun v w' => ∃ (z0_0 : Value), v = .bool r0 ∧ Mod (fun k => k = b0 ∨ Value.ownBlock v0_0 = some k) w w' ∧ RowG Rep.b 5 w w' v0_0 z0_0 q0.b ∧ w'.heap[b0]? = some (.cells (List.toArray [z0_0, vi q0.n]) 73 (0, 0))) := by
  unfold bitio_Writer_Cut at h
  refine Rets.enter Try.func28 rfl rfl ?_
  have ho11 : OwnSl 4 Rep.b 5 (Lg.OB b0 3 (Lg.OV v0_0 4 (Lg.O0 (fun _ => False)))) w v0_0 a0.b := Row.start Flat.b hs0_0 (fun k hk => ((if_neg (fun (e : k = b0) => hne0_1 (e ▸ hk))).trans (if_pos hk)))
  have hb12 : Blk 3 (Lg.OB b0 3 (Lg.OV v0_0 4 (Lg.O0 (fun _ => False)))) w b0 73 [v0_0, vi a0.n] := ⟨(if_pos rfl), hb0⟩
  refine (show WC _ _ _ _ [(0, .pointer (some ⟨b0, 0, none⟩)), (1, vi a1)] _ from ?_)
  refine WC.seq ?_
  refine WC.region ?_
  refine WL.y (Y.assign rfl) rfl ?_
  refine WL.nil ?_
  refine At.then ?_
  refine WC.seq ?_
  refine WC.seq ?_
  refine WC.region ?_
  refine WL.y (Y.move rfl) rfl ?_
  refine WL.y (Y.lss_i rfl rfl) rfl ?_
  refine WL.y (Y.move rfl) rfl ?_
  refine WL.cut 7 (σ := Unit) (fun _ w' => w = w') (fun _ => [(0, .pointer (some ⟨b0, 0, none⟩)), (1, vi a1), (15, .bool ((decide (a1 < 0)) || (decide (a0.n < a1))))]) ?_ ?_
  · refine WL.part 8 rfl (fun hE13 => ?_) (fun hE13 => ?_)
    · refine WL.gS rfl rfl rfl rfl ?_
      refine WL.gS rfl rfl rfl rfl ?_
      refine WL.gS rfl rfl rfl rfl ?_
      refine WL.gS rfl rfl rfl rfl ?_
      refine WL.gS rfl rfl rfl rfl ?_
      refine WL.gS rfl rfl rfl rfl ?_
      refine WL.y (Y.pick (b := true) rfl rfl) rfl ?_
      refine WL.ren (v' := .bool ((decide (a1 < 0)) || (decide (a0.n < a1)))) 15 rfl (congrArg Value.bool (orT hE13)) ?_
      exact WL.nil (At.join () rfl (.cons rfl (.cons rfl (.cons rfl .nil))))
    · refine WL.ung rfl rfl ?_
      refine WL.y (Y.move rfl) rfl ?_
      refine WL.ung rfl rfl ?_
      refine WL.y (Y.move rfl) rfl ?_
      refine WL.ung rfl rfl ?_
      refine WL.y (Y.nilCheck rfl) rfl ?_
      refine WL.ung rfl rfl ?_
      refine WL.y (Y.fieldAddr fo73_1 rfl) rfl ?_
      refine WL.ung rfl rfl ?_
      refine WL.y (Y.loadSc ty3 rfl rfl (hb12.cell 1 _ rfl)) rfl ?_
      refine WL.ung rfl rfl ?_
      refine WL.y (Y.gtr_i rfl rfl) rfl ?_
      refine WL.y (Y.pick (b := false) rfl rfl) rfl ?_
      refine WL.ren (v' := .bool ((decide (a1 < 0)) || (decide (a0.n < a1)))) 15 rfl (congrArg Value.bool (orF hE13)) ?_
      exact WL.nil (At.join () rfl (.cons rfl (.cons rfl (.cons rfl .nil))))
  · rintro _ _ rfl
    refine (show WL _ _ _ _ _ [(0, .pointer (some ⟨b0, 0, none⟩)), (1, vi a1), (15, .bool ((decide (a1 < 0)) || (decide (a0.n < a1))))] _ from ?_)
    refine WL.nil ?_
    refine At.then ?_
    rcases cnd h with ⟨hc14, h⟩ | ⟨hc14, h⟩
    · refine WC.condT' rfl hc14 ?_
      refine WC.seq ?_
      refine WC.region ?_
      refine WL.y (Y.assign rfl) rfl ?_
      refine WL.nil ?_
      refine At.then ?_
      refine WC.ret ?_
      refine At.thenR ?_
      obtain ⟨rfl, rfl⟩ := tup2 h
      have hs15 : Stp [] (Lg.OB b0 3 (Lg.OV v0_0 4 (Lg.O0 (fun _ => False)))) w (Lg.OB b0 3 (Lg.OV v0_0 4 (Lg.O0 (fun _ => False)))) w := (Stp.refl _ _ _)
      exact At.res (.inl rfl) rfl (.tmp rfl .nil) ⟨v0_0, rfl, (Stp.modL hs15 (sB sV1) rfl rfl), (OwnSl.outG ho11 hs15 (lowB (lowV low0 rfl rfl) rfl rfl) (fun k hk => by unfold Lg.OB Lg.OV Lg.O0 at hk; (repeat' split at hk); all_goals first | assumption | exact absurd hk (by decide))), hb12.blk⟩
    · refine WC.condF' rfl hc14 ?_
      refine WC.skip ?_
      refine At.then ?_
      refine WC.seq ?_
      refine WC.region ?_
      refine WL.y (Y.move rfl) rfl ?_
      refine WL.y (Y.move rfl) rfl ?_
      refine WL.y (Y.nilCheck rfl) rfl ?_
      refine WL.y (Y.fieldAddr fo73_0 rfl) rfl ?_
      refine WL.y (Y.loadSc ty30 rfl rfl (hb12.cell 0 _ rfl)) rfl ?_
      refine WL.y (Y.move rfl) rfl ?_
      refine WL.y (Y.add_i rfl rfl) rfl ?_
      refine WL.y (Y.quo_i (by decide) rfl rfl) rfl ?_
      obtain ⟨t16, ht16, h⟩ := bnd h
      refine WL.sliceOwn ty30 ty5 rfl rfl rfl ho11 ht16 rfl ?_
      intro v17 hf18
      refine WL.y (Y.nilCheck rfl) rfl ?_
      refine WL.y (Y.fieldAddr fo73_0 rfl) rfl ?_
      have hh22 := h
      obtain ⟨p19, m20, c21, rfl⟩ := hf18.shape
      have h := hh22
      refine WL.store (v := (.slice p19 m20 c21)) (cells' := [(.slice p19 m20 c21), vi a0.n]) ty30 rfl rfl hb12 rfl (Nat.le_of_ble_eq_true rfl) rfl rfl ?_
      intro wd23 hst24 hb25
      refine WL.nil ?_
      refine At.then ?_
      refine WC.seq ?_
      obtain ⟨p32, h, hk33⟩ := bnd h
      refine WC.join (σ := (List UInt8 × Own)) (fun x w' => x.1 = p32 ∧ Stp [4] (Lg.OB b0 3 (Lg.OV v0_0 4 (Lg.O0 (fun _ => False)))) wd23 x.2 w' ∧ OwnSl 4 Rep.b 5 x.2 w' (.slice p19 m20 c21) x.1) (fun x => [(0, .pointer (some ⟨b0, 0, none⟩)), (1, vi a1)]) ?_ ?_
      · refine WC.seq ?_
        refine WC.region ?_
        refine WL.y (Y.move rfl) rfl ?_
        refine WL.y (Y.rem_i (by decide) rfl rfl) rfl ?_
        obtain ⟨rest34, hrest34, h⟩ := lt1 h
        refine WL.yE (Y.assign rfl) (congrArg vi hrest34.symm) rfl ?_
        refine WL.nil ?_
        refine At.then ?_
        refine WC.seq ?_
        refine WC.region ?_
        refine WL.y (Y.move rfl) rfl ?_
        refine WL.y (Y.gtr_i rfl rfl) rfl ?_
        refine WL.nil ?_
        refine At.then ?_
        rcases cnd h with ⟨hc35, h⟩ | ⟨hc35, h⟩
        · refine WC.condT' rfl hc35 ?_
          refine WC.draw 18 (Lg.OB b0 3 (Lg.OV v0_0 4 (Lg.O0 (fun _ => False)))) fmix (by kernel_rfl) ?_
          intro wd36 hst37
          refine WS.y (Y.move rfl) rfl ?_
          refine WS.y (Y.nilCheck rfl) rfl ?_
          refine WS.y (Y.fieldAddr fo73_0 rfl) rfl ?_
          have hf38 := hb25.st hst37 rfl
          refine WS.y (Y.loadSc ty30 rfl rfl (hf38.cell 0 _ rfl)) rfl ?_
          refine WS.y (Y.move rfl) rfl ?_
          refine WS.y (Y.nilCheck rfl) rfl ?_
          refine WS.y (Y.fieldAddr fo73_0 rfl) rfl ?_
          refine WS.y (Y.loadSc ty30 rfl rfl (hf38.cell 0 _ rfl)) rfl ?_
          have hf39 := hf18.st hst24 rfl rfl rfl
          have hf40 := hf39.st hst37 rfl rfl rfl
          refine WS.y (Y.len ty30 rfl hf40.src.sl) rfl ?_
          refine WS.y (Y.sub_i rfl rfl) rfl ?_
          obtain ⟨e41, he41, h⟩ := bnd h
          obtain ⟨b42, cap49, cs48, hv43, hi44, hl45, hc46, hok47⟩ := OwnSl.at hf40 he41
          obtain rfl := hok47
          replace hc46 : CellsAt _ _ _ [vb e41] := hc46
          have hca50 := CAt.own hf40 hv43 hc46
          refine WS.y (Y.indexAddr ty30 ty5 rfl hv43 rfl hi44 hl45) rfl ?_
          refine WS.y (Y.loadSc ty5 rfl rfl hca50.at_) rfl ?_
          refine WS.y (Y.move rfl) rfl ?_
          refine WS.y (Y.sub_i rfl rfl) rfl ?_
          refine WS.y (Y.conv_iu ty3.u ty74.u rfl) rfl ?_
          refine WS.y (Y.shl_bu (a := 255) rfl rfl) rfl ?_
          refine WS.y (Y.and_b rfl rfl) rfl ?_
          obtain ⟨e51, he51, h⟩ := bnd h
          obtain ⟨b52, cap59, cs58, hv53, hi54, hl55, hc56, hok57⟩ := OwnSl.at hf40 he51
          obtain rfl := hok57
          replace hc56 : CellsAt _ _ _ [vb e51] := hc56
          have hca60 := CAt.own hf40 hv53 hc56
          refine WS.y (Y.indexAddr ty30 ty5 rfl hv53 rfl hi54 hl55) rfl ?_
          refine WS.tail ?_
          obtain ⟨t61, ht61, h⟩ := lt1 h
          refine WL.ren 47 rfl (congrArg vb ht61.symm) ?_
          obtain ⟨xs62, hxs62, h⟩ := bnd h
          refine WL.storeOwn (by decide) ty5 rfl rfl rfl hf40 hv53 hxs62 ?_
          intro wd63 hst64 ho65
          refine WL.nil ?_
          exact At.join (σ := (List UInt8 × Own)) (xs62, (Lg.OB b0 3 (Lg.OV v0_0 4 (Lg.O0 (fun _ => False))))) ⟨some1 h, (Stp.trans (Stp.up hst37 rfl) (Stp.up hst64 rfl)), ho65⟩ (.cons rfl (.cons rfl .nil))
        · refine WC.condF' rfl hc35 ?_
          refine WC.skip ?_
          have hf66 := hf18.st hst24 rfl rfl rfl
          exact At.join (σ := (List UInt8 × Own)) (t16, (Lg.OB b0 3 (Lg.OV v0_0 4 (Lg.O0 (fun _ => False))))) ⟨some1 h, (Stp.refl _ _ _), hf66⟩ (.cons rfl (.cons rfl .nil))
      · rintro ⟨c26, O29⟩ wd30 ⟨rfl, hst31, hf28⟩
        replace h := hk33
        try dsimp only at h hst31 hf28
        refine (show At _ _ _ [(0, .pointer (some ⟨b0, 0, none⟩)), (1, vi a1)] _ from ?_)
        refine At.then ?_
        refine WC.seq ?_
        refine WC.region ?_
        refine WL.y (Y.move rfl) rfl ?_
        refine WL.y (Y.move rfl) rfl ?_
        refine WL.y (Y.nilCheck rfl) rfl ?_
        refine WL.y (Y.fieldAddr fo73_1 rfl) rfl ?_
        have hf67 := hb25.st hst31 rfl
        refine WL.store (v := vi a1) (cells' := [(.slice p19 m20 c21), vi a1]) ty3 rfl rfl hf67 rfl (Nat.le_of_ble_eq_true rfl) rfl rfl ?_
        intro wd68 hst69 hb70
        refine WL.nil ?_
        refine At.then ?_
        refine WC.seq ?_
        refine WC.region ?_
        refine WL.y (Y.assign rfl) rfl ?_
        refine WL.nil ?_
        refine At.then ?_
        refine WC.ret ?_
        obtain ⟨rfl, rfl⟩ := tup2 h
        have hs71 : Stp [3, 4] (Lg.OB b0 3 (Lg.OV v0_0 4 (Lg.O0 (fun _ => False)))) w O29 wd68 := (Stp.trans (Stp.up hst24 rfl) (Stp.trans (Stp.up hst31 rfl) (Stp.up hst69 rfl)))
        have hf72 := hf28.st hst69 rfl rfl rfl
        exact At.res (.inl rfl) rfl (.tmp rfl .nil) ⟨(.slice p19 m20 c21), rfl, (Stp.modL hs71 (sB sV1) rfl rfl), (OwnSl.outG hf72 hs71 (lowB (lowV low0 rfl rfl) rfl rfl) (fun k hk => by unfold Lg.OB Lg.OV Lg.O0 at hk; (repeat' split at hk); all_goals first | assumption | exact absurd hk (by decide))), hb70.blk⟩

theorem c_ref01_Bytes {A : Nat → Prop} {a0 : List Int} {v0 : Value} {w : World} (hs0 : Sl Rep.i w A v0 a0) {r0 : List UInt8} (h : ref01_Bytes a0 = some r0) : Rets Try.prog 29 [v0] w (fun v w' => ∃ (u0 : Value), v = u0 ∧ Ext w w' ∧ RowF Rep.b 5 w w' u0 r0) := by
  unfold ref01_Bytes at h
  refine Rets.enter Try.func29 rfl rfl ?_
  have hf11 : Sl Rep.i w (imm (Lg.O0 A)) v0 a0 := (Sl.start hs0)
  refine (show WC _ _ _ _ [(0, v0)] _ from ?_)
  refine WC.seq ?_
  refine WC.region ?_
  refine WL.y (Y.assign rfl) rfl ?_
  refine WL.nil ?_
  refine At.then ?_
  refine WC.seq ?_
  refine WC.region ?_
  refine WL.y (Y.assign rfl) rfl ?_
  refine WL.nil ?_
  refine At.then ?_
  refine WC.seq ?_
  refine WC.seq ?_
  refine WC.region ?_
  refine WL.y (Y.assign rfl) rfl ?_
  refine WL.nil ?_
  refine At.then ?_
  refine WC.block ?_
  obtain ⟨p25, h, hk27⟩ := flow1 h
  obtain ⟨k26, h⟩ := loop_some h
  refine WC.joinB 0 (σ := (List UInt8 × Own × Value)) (fun x w' => p25 = .go x.1 ∧ Stp [12, 1001] (Lg.O0 A) w x.2.1 w' ∧ OwnSl 1002 Rep.b 5 x.2.1 w' x.2.2 x.1) (fun x => [(3, x.2.2)]) ?_ ?_
  · refine WC.loop (σ := (List UInt8 × Int × Own × Value)) (fun x k w' => loopN k (ref01_Bytes_lp1 a0) (x.1, x.2.1) = some p25 ∧ Stp [12, 1001] (Lg.O0 A) w x.2.2.1 w' ∧ OwnSl 1001 Rep.b 5 x.2.2.1 w' x.2.2.2 x.1) (fun x => [(0, v0), (3, x.2.2.2), (4, vi x.2.1)]) ([], 0, (Lg.O0 A), .slice none 0 0) k26 (.cons rfl (.cons rfl (.cons rfl .nil))) ⟨h, (Stp.refl _ _ _), (OwnSl.nil 1001 Rep.b 5)⟩ ?_
    rintro ⟨out12, i15, O16, v13⟩ k26 wd17 ⟨h, hst18, hf14⟩
    obtain ⟨j28, q29, rfl, h, hn30⟩ := rnd1 h
    unfold ref01_Bytes_lp1 at h
    try dsimp only at h hst18 hf14
    refine (show WC _ _ _ _ [(0, v0), (3, v13), (4, vi i15)] _ from ?_)
    refine WC.seq ?_
    refine WC.seq ?_
    refine WC.region ?_
    refine WL.y (Y.move rfl) rfl ?_
    refine WL.y (Y.move rfl) rfl ?_
    have hf31 := hf11.mono (imm_st hst18 rfl rfl)
    refine WL.y (Y.len ty23 rfl hf31) rfl ?_
    refine WL.y (Y.lss_i rfl rfl) rfl ?_
    refine WL.nil ?_
    refine At.then ?_
    rcases cnd h with ⟨hc32, h⟩ | ⟨hc32, h⟩
    · refine WC.condT' rfl hc32 ?_
      refine WC.skip ?_
      refine At.then ?_
      refine WC.seq ?_
      refine WC.block ?_
      refine WC.seq ?_
      refine WC.region ?_
      refine WL.y (Y.assign rfl) rfl ?_
      refine WL.nil ?_
      refine At.then ?_
      refine WC.seq ?_
      refine WC.seq ?_
      refine WC.region ?_
      refine WL.y (Y.assign rfl) rfl ?_
      refine WL.nil ?_
      refine At.then ?_
      obtain ⟨p34, h, hk35⟩ := bnd h
      refine WC.join (σ := Int) (fun x w' => x = p34 ∧ wd17 = w') (fun x => [(0, v0), (3, v13), (4, vi i15), (5, vi x)]) ?_ ?_
      · refine WC.block ?_
        obtain ⟨p39, h, hk41⟩ := flow1 h
        obtain ⟨k40, h⟩ := loop_some h
        refine WC.joinB 2 (σ := Int) (fun x w' => p39 = .go x ∧ wd17 = w') (fun x => [(0, v0), (3, v13), (4, vi i15), (5, vi x)]) ?_ ?_
        · refine WC.loop (σ := (Int × Int)) (fun x k w' => loopN k (ref01_Bytes_lp2 a0 i15) (x.1, x.2) = some p39 ∧ wd17 = w') (fun x => [(0, v0), (3, v13), (4, vi i15), (5, vi x.1), (6, vi x.2)]) (0, 0) k40 (.cons rfl (.cons rfl (.cons rfl (.cons rfl (.cons rfl .nil))))) ⟨h, rfl⟩ ?_
          rintro ⟨x36, k37⟩ k40 _ ⟨h, rfl⟩
          obtain ⟨j42, q43, rfl, h, hn44⟩ := rnd1 h
          unfold ref01_Bytes_lp2 at h
          try dsimp only at h
          refine (show WC _ _ _ _ [(0, v0), (3, v13), (4, vi i15), (5, vi x36), (6, vi k37)] _ from ?_)
          refine WC.seq ?_
          refine WC.seq ?_
          refine WC.region ?_
          refine WL.y (Y.move rfl) rfl ?_
          refine WL.y (Y.lss_i rfl rfl) rfl ?_
          refine WL.nil ?_
          refine At.then ?_
          rcases cnd h with ⟨hc45, h⟩ | ⟨hc45, h⟩
          · refine WC.condT' rfl hc45 ?_
            refine WC.skip ?_
            refine At.then ?_
            refine WC.seq ?_
            obtain ⟨p47, h, hk48⟩ := bnd h
            refine WC.join (σ := Int) (fun x w' => x = p47 ∧ wd17 = w') (fun x => [(0, v0), (3, v13), (4, vi i15), (5, vi x), (6, vi k37)]) ?_ ?_
            · refine WC.block ?_
              refine WC.seq ?_
              refine WC.region ?_
              refine WL.y (Y.move rfl) rfl ?_
              refine WL.y (Y.mul_i rfl rfl) rfl ?_
              obtain ⟨x49, hx49, h⟩ := lt1 h
              refine WL.yE (Y.assign rfl) (congrArg vi hx49.symm) rfl ?_
              refine WL.nil ?_
              refine At.then ?_
              refine WC.seq ?_
              refine WC.region ?_
              refine WL.y (Y.move rfl) rfl ?_
              refine WL.y (Y.move rfl) rfl ?_
              refine WL.y (Y.add_i rfl rfl) rfl ?_
              refine WL.y (Y.move rfl) rfl ?_
              refine WL.y (Y.len ty23 rfl hf31) rfl ?_
              refine WL.y (Y.lss_i rfl rfl) rfl ?_
              refine WL.nil ?_
              refine At.then ?_
              rcases cnd h with ⟨hc50, h⟩ | ⟨hc50, h⟩
              · refine WC.condT' rfl hc50 ?_
                refine WC.region ?_
                refine WL.y (Y.move rfl) rfl ?_
                refine WL.y (Y.move rfl) rfl ?_
                refine WL.y (Y.move rfl) rfl ?_
                refine WL.y (Y.move rfl) rfl ?_
                refine WL.y (Y.add_i rfl rfl) rfl ?_
                obtain ⟨e51, he51, h⟩ := bnd h
                obtain ⟨b52, off60, cap59, cs58, hv53, hi54, hl55, hc56, hok57, hA61⟩ := Sl.at2 hf31 he51
                obtain rfl := hok57
                replace hc56 : CellsAt _ _ _ [vi e51] := hc56
                have hca62 := CAt.imm hc56 hA61
                refine WL.y (Y.indexAddr ty23 ty3 rfl hv53 rfl hi54 hl55) rfl ?_
                refine WL.y (Y.loadSc ty3 rfl rfl hca62.at_) rfl ?_
                refine WL.y (Y.add_i rfl rfl) rfl ?_
                obtain ⟨x63, hx63, h⟩ := lt1 h
                refine WL.yE (Y.assign rfl) (congrArg vi hx63.symm) rfl ?_
                refine WL.nil ?_
                refine At.inBlock ?_
                exact At.join (σ := Int) x63 ⟨some1 h, rfl⟩ (.cons rfl (.cons rfl (.cons rfl (.cons rfl (.cons rfl .nil)))))
              · refine WC.condF' rfl hc50 ?_
                refine WC.skip ?_
                refine At.inBlock ?_
                exact At.join (σ := Int) x49 ⟨some1 h, rfl⟩ (.cons rfl (.cons rfl (.cons rfl (.cons rfl (.cons rfl .nil)))))
            · rintro x46 _ ⟨rfl, rfl⟩
              replace h := hk48
              try dsimp only at h
              refine (show At _ _ _ [(0, v0), (3, v13), (4, vi i15), (5, vi x46), (6, vi k37)] _ from ?_)
              refine At.then ?_
              refine WC.region ?_
              refine WL.y (Y.move rfl) rfl ?_
              refine WL.y (Y.add_i rfl rfl) rfl ?_
              obtain ⟨k64, hk64, h⟩ := lt1 h
              refine WL.yE (Y.assign rfl) (congrArg vi hk64.symm) rfl ?_
              refine WL.nil ?_
              exact At.round (x46, k64) j42 (Nat.lt_succ_self _) ⟨next1 h hn44, rfl⟩ (.cons rfl (.cons rfl (.cons rfl (.cons rfl (.cons rfl .nil)))))
          · refine WC.condF' rfl hc45 ?_
            refine WC.exit ?_
            refine At.thenX ?_
            refine At.loopX ?_
            exact At.hitB (σ := Int) x36 ⟨brk1 h hn44, rfl⟩ (.cons rfl (.cons rfl (.cons rfl (.cons rfl .nil))))
        · rintro x38 _ ⟨rfl, rfl⟩
          replace h := flowK_go hk41
          try dsimp only at h
          refine (show At _ _ _ [(0, v0), (3, v13), (4, vi i15), (5, vi x38)] _ from ?_)
          refine At.inBlockHit ?_
          exact At.join (σ := Int) x38 ⟨some1 h, rfl⟩ (.cons rfl (.cons rfl (.cons rfl (.cons rfl .nil))))
      · rintro x33 _ ⟨rfl, rfl⟩
        replace h := hk35
        try dsimp only at h
        refine (show At _ _ _ [(0, v0), (3, v13), (4, vi i15), (5, vi x33)] _ from ?_)
        refine At.then ?_
        refine WC.region ?_
        refine WL.y (Y.move rfl) rfl ?_
        refine WL.y (Y.move rfl) rfl ?_
        refine WL.y (Y.conv_ib ty3.u ty5.u rfl) rfl ?_
        refine WL.buildSlice (O := O16) (R := Rep.b) (vals := [(0, vb (toU8 x33))]) 11 [vb (toU8 x33)] (xs := [toU8 x33]) (by decide) ty30 ty5 (by decide) (by decide) (Fits.evalp rfl) (by kernel_rfl) rfl ⟨[vb (toU8 x33)], [], rfl, rfl, rfl⟩ rfl ?_
        intro v65 O67 wd68 hst69 ho66
        obtain ⟨xs70, hxs70, h⟩ := bnd h
        have hf71 := hf14.st hst69 rfl rfl rfl
        refine WL.append (by decide) ty30 ty5 rfl (by decide) rfl rfl hf71 ho66.src hxs70 rfl ?_
        intro v75 O72 wd73 hst74 ho76
        refine WL.y (Y.assign rfl) rfl ?_
        refine WL.nil ?_
        refine At.inBlock ?_
        refine At.then ?_
        refine WC.region ?_
        refine WL.y (Y.move rfl) rfl ?_
        refine WL.y (Y.add_i rfl rfl) rfl ?_
        obtain ⟨i77, hi77, h⟩ := lt1 h
        refine WL.yE (Y.assign rfl) (congrArg vi hi77.symm) rfl ?_
        refine WL.nil ?_
        exact At.round (xs70, i77, O72, v75) j28 (Nat.lt_succ_self _) ⟨next1 h hn30, (Stp.trans (Stp.up hst18 rfl) (Stp.trans (Stp.up hst69 rfl) (Stp.up hst74 rfl))), ho76⟩ (.cons rfl (.cons rfl (.cons rfl .nil)))
    · refine WC.condF' rfl hc32 ?_
      refine WC.exit ?_
      refine At.thenX ?_
      refine At.loopX ?_
      obtain ⟨O78, hst79, ho80⟩ := OwnSl.rlb 1002 rfl hf14
      exact At.hitB (σ := (List UInt8 × Own × Value)) (out12, O78, v13) ⟨brk1 h hn30, (Stp.trans (Stp.up hst18 rfl) (Stp.up hst79 rfl)), ho80⟩ (.cons rfl .nil)
  · rintro ⟨out19, O22, v20⟩ wd23 ⟨rfl, hst24, hf21⟩
    replace h := flowK_go hk27
    try dsimp only at h hst24 hf21
    refine (show At _ _ _ [(3, v20)] _ from ?_)
    refine At.inBlockHit ?_
    refine At.then ?_
    refine WC.seq ?_
    refine WC.region ?_
    refine WL.y (Y.move rfl) rfl ?_
    refine WL.y (Y.assign rfl) rfl ?_
    refine WL.nil ?_
    refine At.then ?_
    refine WC.ret ?_
    obtain rfl := some1 h
    have hs81 : Stp [12, 1001] (Lg.O0 A) w O22 wd23 := (Stp.up hst24 rfl)
    exact At.res (.inl rfl) rfl (.tmp rfl .nil) ⟨v20, rfl, (Stp.ext hs81 rfl rfl), (OwnSl.outF hf21 hs81 low0 rfl)⟩

theorem c_law01_BitsPut {A : Nat → Prop} {a0 : List law01_Put} {v0 : Value} {w : World} (hs0 : Sl rep_law01_Put w A v0 a0) {r0 : Bool} (h : law01_BitsPut a0 = some r0) : Rets Try.prog 6 [v0] w (fun v w' => v = .bool r0 ∧ Ext w w') := by
  unfold law01_BitsPut at h
  refine Rets.enter Try.func6 rfl rfl ?_
  have hf11 : Sl rep_law01_Put w (imm (Lg.O0 A)) v0 a0 := (Sl.start hs0)
  refine (show WC _ _ _ _ [(0, v0)] _ from ?_)
  refine WC.seq ?_
  refine WC.region ?_
  refine WL.y (Y.assign rfl) rfl ?_
  refine WL.nil ?_
  refine At.then ?_
  refine WC.seq ?_
  refine WC.seq ?_
  refine WC.region ?_
  obtain ⟨r12, hp13, h⟩ := bnd h
  refine WL.call (vals := []) kok11 rfl rfl (c_law01_awake hp13) ?_
  rintro vr16 wd15 ⟨rfl, hm14⟩
  obtain ⟨O17, hold18, hnew19, hst20⟩ := adoptE (Lg.O0 A) (fun k => 1) hm14
  refine WL.y (Y.not rfl) rfl ?_
  refine WL.nil ?_
  refine At.then ?_
  rcases cnd h with ⟨hc21, h⟩ | ⟨hc21, h⟩
  · refine WC.condT' rfl hc21 ?_
    refine WC.seq ?_
    refine WC.region ?_
    refine WL.y (Y.assign rfl) rfl ?_
    refine WL.nil ?_
    refine At.then ?_
    refine WC.ret ?_
    refine At.thenR ?_
    obtain rfl := some1 h
    have hs22 : Stp [] (Lg.O0 A) w O17 wd15 := (Stp.up hst20 rfl)
    exact At.res (.inl rfl) rfl (.tmp rfl .nil) ⟨rfl, (Stp.ext hs22 rfl rfl)⟩
  · refine WC.condF' rfl hc21 ?_
    refine WC.skip ?_
    refine At.then ?_
    refine WC.seq ?_
    refine WC.seq ?_
    refine WC.region ?_
    refine WL.y (Y.move rfl) rfl ?_
    have hf23 := hf11.mono (imm_st hst20 rfl rfl)
    obtain ⟨r24, hp25, h⟩ := bnd h
    refine WL.call (vals := [v0]) kok25 rfl rfl (c_law01_some (A := fun _ => True) (Sl.all hf23) hp25) ?_
    rintro vr28 wd27 ⟨rfl, hm26⟩
    obtain ⟨O29, hold30, hnew31, hst32⟩ := adoptE O17 (fun k => 1) hm26
    refine WL.y (Y.not rfl) rfl ?_
    refine WL.nil ?_
    refine At.then ?_
    rcases cnd h with ⟨hc33, h⟩ | ⟨hc33, h⟩
    · refine WC.condT' rfl hc33 ?_
      refine WC.seq ?_
      refine WC.region ?_
      refine WL.y (Y.assign rfl) rfl ?_
      refine WL.nil ?_
      refine At.then ?_
      refine WC.ret ?_
      refine At.thenR ?_
      obtain rfl := some1 h
      have hs34 : Stp [] (Lg.O0 A) w O29 wd27 := (Stp.trans (Stp.up hst20 rfl) (Stp.up hst32 rfl))
      exact At.res (.inl rfl) rfl (.tmp rfl .nil) ⟨rfl, (Stp.ext hs34 rfl rfl)⟩
    · refine WC.condF' rfl hc33 ?_
      refine WC.skip ?_
      refine At.then ?_
      refine WC.seq ?_
      refine WC.region ?_
      obtain ⟨r35, hp36, h⟩ := bnd h
      refine WL.call (vals := []) kok12 rfl rfl (c_bitio_NewWriter hp36) ?_
      rintro vr43 wd42 ⟨p37, u38, rfl, hm41, f39, f40⟩
      obtain ⟨O44, hold45, hnew46, hst47⟩ := adoptE O29 (fun k => if k = p37 then 11 else if Value.ownBlock u38 = some k then 12 else 1) hm41
      have hf49 : OwnSl 12 Rep.b 5 O44 wd42 u38 r35.b := RowF.adopt 12 Flat.b f40.1 hnew46 (fun k hk => (if_neg (fun (e : k = p37) => f40.2 (e ▸ hk))).trans (if_pos hk))
      have hb48 : Blk 11 O44 wd42 p37 73 [u38, vi r35.n] := Blk.new f39 hnew46 (if_pos rfl)
      refine WL.y (Y.assign rfl) rfl ?_
      refine WL.nil ?_
      refine At.then ?_
      refine WC.seq ?_
      refine WC.region ?_
      refine WL.y (Y.assign rfl) rfl ?_
      refine WL.nil ?_
      refine At.then ?_
      refine WC.seq ?_
      refine WC.seq ?_
      refine WC.region ?_
      refine WL.y (Y.assign rfl) rfl ?_
      refine WL.nil ?_
      refine At.then ?_
      refine WC.block ?_
      obtain ⟨p65, h, hk67⟩ := flow1 h
      obtain ⟨k66, h⟩ := loop_some h
      refine WC.joinB 0 (σ := Own) (fun x w' => p65 = .go () ∧ Stp [11, 12, 13, 15, 16, 17, 18, 1003, 1004, 1007, 1008] O44 wd42 x w') (fun x => []) ?_ ?_
      · obtain ⟨O68, hst69, ho70⟩ := OwnSl.rlb 1007 rfl hf49
        have hf71 := hb48.st hst69 rfl
        refine WC.loop (σ := (List UInt8 × Int × List Int × Int × Own × Value × Value)) (fun x k w' => loopN k (law01_BitsPut_lp1 a0) (x.1, x.2.1, x.2.2.1, x.2.2.2.1) = some p65 ∧ Stp [11, 12, 13, 15, 16, 17, 18, 1003, 1004, 1007, 1008] O44 wd42 x.2.2.2.2.1 w' ∧ OwnSl 1007 Rep.b 5 x.2.2.2.2.1 w' x.2.2.2.2.2.1 x.1 ∧ Blk 11 x.2.2.2.2.1 w' p37 73 [x.2.2.2.2.2.1, vi x.2.1] ∧ OwnSl 1008 Rep.i 3 x.2.2.2.2.1 w' x.2.2.2.2.2.2 x.2.2.1) (fun x => [(0, v0), (3, .pointer (some ⟨p37, 0, none⟩)), (4, x.2.2.2.2.2.2), (5, vi x.2.2.2.1)]) (r35.b, r35.n, [], 0, O68, u38, .slice none 0 0) k66 (.cons rfl (.cons rfl (.cons rfl (.cons rfl .nil)))) ⟨h, (Stp.up hst69 rfl), ho70, hf71, (OwnSl.nil 1008 Rep.i 3)⟩ ?_
        rintro ⟨c51, c54, all55, i58, O59, v52, v56⟩ k66 wd60 ⟨h, hst61, hf53, hb50, hf57⟩
        obtain ⟨j72, q73, rfl, h, hn74⟩ := rnd1 h
        unfold law01_BitsPut_lp1 at h
        try dsimp only at h hst61 hf53 hb50 hf57
        refine (show WC _ _ _ _ [(0, v0), (3, .pointer (some ⟨p37, 0, none⟩)), (4, v56), (5, vi i58)] _ from ?_)
        refine WC.seq ?_
        refine WC.seq ?_
        refine WC.region ?_
        refine WL.y (Y.move rfl) rfl ?_
        refine WL.y (Y.move rfl) rfl ?_
        have hf75 := hf23.mono (imm_st hst32 rfl rfl)
        have hf76 := hf75.mono (imm_st hst47 rfl rfl)
        have hf77 := hf76.mono (imm_st hst61 rfl rfl)
        refine WL.y (Y.len ty46 rfl hf77) rfl ?_
        refine WL.y (Y.lss_i rfl rfl) rfl ?_
        refine WL.nil ?_
        refine At.then ?_
        rcases cnd h with ⟨hc78, h⟩ | ⟨hc78, h⟩
        · refine WC.condT' rfl hc78 ?_
          refine WC.skip ?_
          refine At.then ?_
          refine WC.seq ?_
          refine WC.block ?_
          refine WC.seq ?_
          refine WC.region ?_
          refine WL.y (Y.move rfl) rfl ?_
          refine WL.y (Y.move rfl) rfl ?_
          obtain ⟨e79, he79, h⟩ := bnd h
          obtain ⟨b80, off90, cap87, cs86, hv81, hi82, hl83, hc84, hok85, hA91⟩ := Sl.at2 hf77 he79
          obtain ⟨_, _, rfl, rfl, ⟨_, _, rfl, rfl, ⟨_, _, rfl, rfl, ⟨v88, rfl, hf89⟩⟩⟩⟩ := hok85
          replace hc84 : CellsAt _ _ _ [vi e79.Kind, vu e79.V, vi e79.N, v88] := hc84
          have hca92 := CAt.imm hc84 hA91
          refine WL.y (Y.indexAddr ty46 ty49 rfl hv81 rfl hi82 hl83) rfl ?_
          refine WL.y (Y.loadAg ty49 rfl rfl hca92.at_ rfl) rfl ?_
          refine WL.alloc (O := O59) 13 [vi 0, vu 0, vi 0, .slice none 0 0] ty49 rfl rfl ?_
          intro p94 O95 wd96 hst97 hb93
          have hf98 := hf89.mono (imm_st hst97 rfl rfl)
          have hh102 := h
          obtain ⟨p99, m100, c101, rfl⟩ := hf98.shape
          have h := hh102
          refine WL.store (v := .agg [vi e79.Kind, vu e79.V, vi e79.N, (.slice p99 m100 c101)].toArray) (cells' := [vi e79.Kind, vu e79.V, vi e79.N, (.slice p99 m100 c101)]) ty49 rfl rfl hb93 rfl (Nat.le_of_ble_eq_true rfl) rfl rfl ?_
          intro wd103 hst104 hb105
          refine WL.nil ?_
          refine At.then ?_
          refine WC.seq ?_
          refine WC.seq ?_
          refine WC.region ?_
          refine WL.y (Y.fieldAddr fo49_0 rfl) rfl ?_
          refine WL.y (Y.loadSc ty3 rfl rfl (hb105.cell 0 _ rfl)) rfl ?_
          refine WL.nil ?_
          refine At.then ?_
          obtain ⟨p117, h, hk118⟩ := flow1 h
          refine WC.join (σ := (List UInt8 × Int × List Int × Own × Value × Value)) (fun x w' => p117 = .go (x.1, x.2.1, x.2.2.1) ∧ Stp [11, 15, 16, 1007, 1008] O95 wd103 x.2.2.2.1 w' ∧ OwnSl 1003 Rep.b 5 x.2.2.2.1 w' x.2.2.2.2.1 x.1 ∧ Blk 11 x.2.2.2.1 w' p37 73 [x.2.2.2.2.1, vi x.2.1] ∧ OwnSl 1004 Rep.i 3 x.2.2.2.1 w' x.2.2.2.2.2 x.2.2.1) (fun x => [(0, v0), (3, .pointer (some ⟨p37, 0, none⟩)), (4, x.2.2.2.2.2), (5, vi i58)]) ?_ ?_
          · refine WC.block ?_
            refine WC.seq ?_
            refine WC.region ?_
            refine WL.y (Y.eql_i rfl rfl) rfl ?_
            obtain ⟨t119, ht119, h⟩ := lt1 h
            refine WL.yE (Y.assign rfl) (congrArg Value.bool ht119.symm) rfl ?_
            refine WL.nil ?_
            refine At.then ?_
            rcases cnd h with ⟨hc120, h⟩ | ⟨hc120, h⟩
            · refine WC.condT' rfl hc120 ?_
              refine WC.seq ?_
              refine WC.region ?_
              refine WL.y (Y.fieldAddr fo49_1 rfl) rfl ?_
              refine WL.y (Y.loadSc ty29 rfl rfl (hb105.cell 1 _ rfl)) rfl ?_
              refine WL.y (Y.fieldAddr fo49_2 rfl) rfl ?_
              refine WL.y (Y.loadSc ty3 rfl rfl (hb105.cell 2 _ rfl)) rfl ?_
              obtain ⟨⟨r121, r122⟩, hp123, h⟩ := bnd h
              refine WL.call (vals := [vu e79.V, vi e79.N]) kok26 rfl rfl (c_ref01_Row hp123) ?_
              rintro vr128 wd127 ⟨u124, rfl, hm126, f125⟩
              obtain ⟨O129, hold130, hnew131, hst132⟩ := adoptE O95 (fun k => if Value.ownBlock u124 = some k then 14 else 1) hm126
              have hf133 : OwnSl 14 Rep.i 3 O129 wd127 u124 r121 := RowF.adopt 14 Flat.i f125 hnew131 (fun k hk => if_pos hk)
              refine WL.y (Y.move rfl) rfl ?_
              refine WL.y (Y.extract rfl rfl) rfl ?_
              refine WL.y (Y.extract rfl rfl) rfl ?_
              refine WL.y (Y.assign rfl) rfl ?_
              refine WL.y (Y.assign rfl) rfl ?_
              refine WL.nil ?_
              refine At.then ?_
              refine WC.seq ?_
              refine WC.seq ?_
              refine WC.region ?_
              refine WL.y (Y.move rfl) rfl ?_
              refine WL.y (Y.fieldAddr fo49_1 rfl) rfl ?_
              have hf134 := hb105.st hst132 rfl
              refine WL.y (Y.loadSc ty29 rfl rfl (hf134.cell 1 _ rfl)) rfl ?_
              refine WL.y (Y.fieldAddr fo49_2 rfl) rfl ?_
              refine WL.y (Y.loadSc ty3 rfl rfl (hf134.cell 2 _ rfl)) rfl ?_
              have hf135 := hf53.st hst97 rfl rfl rfl
              have hf136 := hf135.st hst104 rfl rfl rfl
              have hf137 := hf136.st hst132 rfl rfl rfl
              have hf138 := hb50.st hst97 rfl
              have hf139 := hf138.st hst104 rfl
              have hf140 := hf139.st hst132 rfl
              obtain ⟨⟨r141, r142⟩, hp143, h⟩ := bnd h
              refine WL.call (vals := [.pointer (some ⟨p37, 0, none⟩), vu e79.V, vi e79.N]) kok13 rfl rfl (c_bitio_Writer_Put (a0 := (bitio_Writer.mk c51 c54)) hf137.row hf140.blk (ne_lab hf137 hf140.lab rfl) hp143) ?_
              rintro vr149 wd148 ⟨z144, rfl, hm147, f145, f146⟩
              obtain ⟨O150, hold151, hnew152, hst153⟩ := adopt O129 (fun k => if Value.ownBlock z144 = some k then 1007 else 1) [11, 1007] hm147 (memOr (memB hf140.lab rfl) (memV hf137.labs rfl))
              have ho154 : OwnSl 1007 Rep.b 5 O150 wd148 z144 r142.b := RowG.adopt Flat.b hf137.labs f145 hold151 hnew152 (fun k hk => if_pos hk)
              have hb155 : Blk 11 O150 wd148 p37 73 [z144, vi r142.n] := Blk.adopt hf140 hold151 f146
              refine WL.y (Y.move rfl) rfl ?_
              refine WL.y (Y.neqB rfl rfl ty4.u) rfl ?_
              refine WL.nil ?_
              refine At.then ?_
              rcases cnd h with ⟨hc156, h⟩ | ⟨hc156, h⟩
              · refine WC.condT' rfl hc156 ?_
                refine WC.seq ?_
                refine WC.region ?_
                refine WL.y (Y.assign rfl) rfl ?_
                refine WL.nil ?_
                refine At.then ?_
                refine WC.ret ?_
                refine At.thenR ?_
                refine At.inBlockR ?_
                have h := outs1 h hk118
                refine At.joinR ?_
                refine At.thenR ?_
                refine At.inBlockR ?_
                refine At.thenR ?_
                refine At.loopR ?_
                have h := outr1 h hn74 hk67
                refine At.joinBR ?_
                refine At.inBlockR ?_
                refine At.thenR ?_
                obtain rfl := some1 h
                have hs157 : Stp [11, 12, 13, 15, 16, 17, 18, 1003, 1004, 1007, 1008] (Lg.O0 A) w O150 wd148 := (Stp.trans (Stp.up hst20 rfl) (Stp.trans (Stp.up hst32 rfl) (Stp.trans (Stp.up hst47 rfl) (Stp.trans (Stp.up hst61 rfl) (Stp.trans (Stp.up hst97 rfl) (Stp.trans (Stp.up hst104 rfl) (Stp.trans (Stp.up hst132 rfl) (Stp.up hst153 rfl))))))))
                exact At.res (.inl rfl) rfl (.tmp rfl .nil) ⟨rfl, (Stp.ext hs157 rfl rfl)⟩
              · refine WC.condF' rfl hc156 ?_
                refine WC.skip ?_
                refine At.then ?_
                refine WC.seq ?_
                refine WC.region ?_
                refine WL.y (Y.move rfl) rfl ?_
                refine WL.nil ?_
                refine At.then ?_
                rcases cnd h with ⟨hc158, h⟩ | ⟨hc158, h⟩
                · refine WC.condT' rfl hc158 ?_
                  refine WC.region ?_
                  refine WL.y (Y.move rfl) rfl ?_
                  refine WL.y (Y.move rfl) rfl ?_
                  obtain ⟨xs159, hxs159, h⟩ := bnd h
                  have hf160 := hf133.st hst153 rfl rfl rfl
                  have hf161 := hf57.st hst97 rfl rfl rfl
                  have hf162 := hf161.st hst104 rfl rfl rfl
                  have hf163 := hf162.st hst132 rfl rfl rfl
                  have hf164 := hf163.st hst153 rfl rfl rfl
                  refine WL.append (by decide) ty23 ty3 rfl (by decide) rfl rfl hf164 hf160.src hxs159 rfl ?_
                  intro v168 O165 wd166 hst167 ho169
                  refine WL.y (Y.assign rfl) rfl ?_
                  refine WL.nil ?_
                  refine At.inBlock ?_
                  have hf170 := ho154.st hst167 rfl rfl rfl
                  obtain ⟨O171, hst172, ho173⟩ := OwnSl.rlb 1003 rfl hf170
                  have hf174 := ho169.st hst172 rfl rfl rfl
                  obtain ⟨O175, hst176, ho177⟩ := OwnSl.rlb 1004 rfl hf174
                  have hf178 := ho173.st hst176 rfl rfl rfl
                  have hf179 := hb155.st hst167 rfl
                  have hf180 := hf179.st hst172 rfl
                  have hf181 := hf180.st hst176 rfl
                  exact At.join (σ := (List UInt8 × Int × List Int × Own × Value × Value)) (r142.b, r142.n, xs159, O175, z144, v168) ⟨go2 h, (Stp.trans (Stp.up hst132 rfl) (Stp.trans (Stp.up hst153 rfl) (Stp.trans (Stp.up hst167 rfl) (Stp.trans (Stp.up hst172 rfl) (Stp.up hst176 rfl))))), hf178, hf181, ho177⟩ (.cons rfl (.cons rfl (.cons rfl (.cons rfl .nil))))
                · refine WC.condF' rfl hc158 ?_
                  refine WC.skip ?_
                  refine At.inBlock ?_
                  obtain ⟨O182, hst183, ho184⟩ := OwnSl.rlb 1003 rfl ho154
                  have hf185 := hf57.st hst97 rfl rfl rfl
                  have hf186 := hf185.st hst104 rfl rfl rfl
                  have hf187 := hf186.st hst132 rfl rfl rfl
                  have hf188 := hf187.st hst153 rfl rfl rfl
                  have hf189 := hf188.st hst183 rfl rfl rfl
                  obtain ⟨O190, hst191, ho192⟩ := OwnSl.rlb 1004 rfl hf189
                  have hf193 := ho184.st hst191 rfl rfl rfl
                  have hf194 := hb155.st hst183 rfl
                  have hf195 := hf194.st hst191 rfl
                  exact At.join (σ := (List UInt8 × Int × List Int × Own × Value × Value)) (r142.b, r142.n, all55, O190, z144, v56) ⟨go2 h, (Stp.trans (Stp.up hst132 rfl) (Stp.trans (Stp.up hst153 rfl) (Stp.trans (Stp.up hst183 rfl) (Stp.up hst191 rfl)))), hf193, hf195, ho192⟩ (.cons rfl (.cons rfl (.cons rfl (.cons rfl .nil))))
            · refine WC.condF' rfl hc120 ?_
              refine WC.seq ?_
              refine WC.region ?_
              refine WL.y (Y.eql_i rfl rfl) rfl ?_
              obtain ⟨t196, ht196, h⟩ := lt1 h
              refine WL.yE (Y.assign rfl) (congrArg Value.bool ht196.symm) rfl ?_
              refine WL.nil ?_
              refine At.then ?_
              rcases cnd h with ⟨hc197, h⟩ | ⟨hc197, h⟩
              · refine WC.condT' rfl hc197 ?_
                refine WC.seq ?_
                refine WC.region ?_
                refine WL.y (Y.fieldAddr fo49_2 rfl) rfl ?_
                refine WL.y (Y.loadSc ty3 rfl rfl (hb105.cell 2 _ rfl)) rfl ?_
                refine WL.y (Y.geq_i rfl rfl) rfl ?_
                refine WL.y (Y.move rfl) rfl ?_
                refine WL.cut 8 (σ := Unit) (fun _ w' => wd103 = w') (fun _ => [(0, v0), (3, .pointer (some ⟨p37, 0, none⟩)), (4, v56), (5, vi i58), (6, .pointer (some ⟨p94, 0, none⟩)), (64, .bool ((decide (0 ≤ e79.N)) && (decide (e79.N ≤ w64 (8 * (e79.B.length : Int))))))]) ?_ ?_
                · refine WL.part 56 rfl (fun hE198 => ?_) (fun hE198 => ?_)
                  · refine WL.ung rfl rfl ?_
                    refine WL.y (Y.fieldAddr fo49_2 rfl) rfl ?_
                    refine WL.ung rfl rfl ?_
                    refine WL.y (Y.loadSc ty3 rfl rfl (hb105.cell 2 _ rfl)) rfl ?_
                    refine WL.ung rfl rfl ?_
                    refine WL.y (Y.fieldAddr fo49_3 rfl) rfl ?_
                    refine WL.ung rfl rfl ?_
                    refine WL.y (Y.loadSc ty30 rfl rfl (hb105.cell 3 _ rfl)) rfl ?_
                    refine WL.ung rfl rfl ?_
                    have hf199 := hf98.mono (imm_st hst104 rfl rfl)
                    refine WL.y (Y.len ty30 rfl hf199) rfl ?_
                    refine WL.ung rfl rfl ?_
                    refine WL.y (Y.mul_i rfl rfl) rfl ?_
                    refine WL.ung rfl rfl ?_
                    refine WL.y (Y.leq_i rfl rfl) rfl ?_
                    refine WL.y (Y.pick (b := true) rfl rfl) rfl ?_
                    refine WL.ren (v' := .bool ((decide (0 ≤ e79.N)) && (decide (e79.N ≤ w64 (8 * (e79.B.length : Int)))))) 64 rfl (congrArg Value.bool (andT hE198)) ?_
                    exact WL.nil (At.join () rfl (.cons rfl (.cons rfl (.cons rfl (.cons rfl (.cons rfl (.cons rfl .nil)))))))
                  · refine WL.gS rfl rfl rfl rfl ?_
                    refine WL.gS rfl rfl rfl rfl ?_
                    refine WL.gS rfl rfl rfl rfl ?_
                    refine WL.gS rfl rfl rfl rfl ?_
                    refine WL.gS rfl rfl rfl rfl ?_
                    refine WL.gS rfl rfl rfl rfl ?_
                    refine WL.gS rfl rfl rfl rfl ?_
                    refine WL.y (Y.pick (b := false) rfl rfl) rfl ?_
                    refine WL.ren (v' := .bool ((decide (0 ≤ e79.N)) && (decide (e79.N ≤ w64 (8 * (e79.B.length : Int)))))) 64 rfl (congrArg Value.bool (andF hE198)) ?_
                    exact WL.nil (At.join () rfl (.cons rfl (.cons rfl (.cons rfl (.cons rfl (.cons rfl (.cons rfl .nil)))))))
                · rintro _ _ rfl
                  refine (show WL _ _ _ _ _ [(0, v0), (3, .pointer (some ⟨p37, 0, none⟩)), (4, v56), (5, vi i58), (6, .pointer (some ⟨p94, 0, none⟩)), (64, .bool ((decide (0 ≤ e79.N)) && (decide (e79.N ≤ w64 (8 * (e79.B.length : Int))))))] _ from ?_)
                  obtain ⟨is200, his200, h⟩ := lt1 h
                  refine WL.yE (Y.assign rfl) (congrArg Value.bool his200.symm) rfl ?_
                  refine WL.nil ?_
                  refine At.then ?_
                  refine WC.seq ?_
                  refine WC.seq ?_
                  refine WC.region ?_
                  refine WL.y (Y.move rfl) rfl ?_
                  refine WL.y (Y.fieldAddr fo49_3 rfl) rfl ?_
                  refine WL.y (Y.loadSc ty30 rfl rfl (hb105.cell 3 _ rfl)) rfl ?_
                  refine WL.y (Y.fieldAddr fo49_2 rfl) rfl ?_
                  refine WL.y (Y.loadSc ty3 rfl rfl (hb105.cell 2 _ rfl)) rfl ?_
                  have hf201 := hf53.st hst97 rfl rfl rfl
                  have hf202 := hf201.st hst104 rfl rfl rfl
                  have hf203 := hb50.st hst97 rfl
                  have hf204 := hf203.st hst104 rfl
                  have hf205 := hf98.mono (imm_st hst104 rfl rfl)
                  obtain ⟨⟨r206, r207⟩, hp208, h⟩ := bnd h
                  refine WL.call (vals := [.pointer (some ⟨p37, 0, none⟩), (.slice p99 m100 c101), vi e79.N]) kok27 rfl rfl (c_bitio_Writer_PutBits (A := out [11, 1007] O95) (a0 := (bitio_Writer.mk c51 c54)) hf202.row hf204.blk (Sl.notin (L := [11, 1007]) hf205 rfl rfl) (ne_lab hf202 hf204.lab rfl) (fun k hk => ⟨out_ne hf204.lab rfl k hk, out_neV (w := wd103) hf202.labs rfl k hk⟩) hp208) ?_
                  rintro vr214 wd213 ⟨z209, rfl, hm212, f210, f211⟩
                  obtain ⟨O215, hold216, hnew217, hst218⟩ := adopt O95 (fun k => if Value.ownBlock z209 = some k then 1007 else 1) [11, 1007] hm212 (memOr (memB hf204.lab rfl) (memV hf202.labs rfl))
                  have ho219 : OwnSl 1007 Rep.b 5 O215 wd213 z209 r207.b := RowG.adopt Flat.b hf202.labs f210 hold216 hnew217 (fun k hk => if_pos hk)
                  have hb220 : Blk 11 O215 wd213 p37 73 [z209, vi r207.n] := Blk.adopt hf204 hold216 f211
                  refine WL.y (Y.move rfl) rfl ?_
                  refine WL.y (Y.neqB rfl rfl ty4.u) rfl ?_
                  refine WL.nil ?_
                  refine At.then ?_
                  rcases cnd h with ⟨hc221, h⟩ | ⟨hc221, h⟩
                  · refine WC.condT' rfl hc221 ?_
                    refine WC.seq ?_
                    refine WC.region ?_
                    refine WL.y (Y.assign rfl) rfl ?_
                    refine WL.nil ?_
                    refine At.then ?_
                    refine WC.ret ?_
                    refine At.thenR ?_
                    refine At.inBlockR ?_
                    have h := outs1 h hk118
                    refine At.joinR ?_
                    refine At.thenR ?_
                    refine At.inBlockR ?_
                    refine At.thenR ?_
                    refine At.loopR ?_
                    have h := outr1 h hn74 hk67
                    refine At.joinBR ?_
                    refine At.inBlockR ?_
                    refine At.thenR ?_
                    obtain rfl := some1 h
                    have hs222 : Stp [11, 12, 13, 15, 16, 17, 18, 1003, 1004, 1007, 1008] (Lg.O0 A) w O215 wd213 := (Stp.trans (Stp.up hst20 rfl) (Stp.trans (Stp.up hst32 rfl) (Stp.trans (Stp.up hst47 rfl) (Stp.trans (Stp.up hst61 rfl) (Stp.trans (Stp.up hst97 rfl) (Stp.trans (Stp.up hst104 rfl) (Stp.up hst218 rfl)))))))
                    exact At.res (.inl rfl) rfl (.tmp rfl .nil) ⟨rfl, (Stp.ext hs222 rfl rfl)⟩
                  · refine WC.condF' rfl hc221 ?_
                    refine WC.skip ?_
                    refine At.then ?_
                    refine WC.seq ?_
                    refine WC.region ?_
                    refine WL.y (Y.move rfl) rfl ?_
                    refine WL.nil ?_
                    refine At.then ?_
                    rcases cnd h with ⟨hc223, h⟩ | ⟨hc223, h⟩
                    · refine WC.condT' rfl hc223 ?_
                      refine WC.drawH [15, 1008] O215 9 fmix rfl ?_
                      intro wd224 hst225
                      refine WD.y 0 rfl (by kernel_rfl) (fun _ _ _ => Y.move rfl) rfl ?_
                      refine WD.y 1 rfl (by kernel_rfl) (fun _ _ _ => Y.fieldAddr fo49_3 rfl) rfl ?_
                      refine WD.y 2 rfl (by kernel_rfl) (fun wd233 O232 hst234 => have hf235 := hb105.st hst218 rfl; have hf236 := hf235.st hst225 rfl; have hf237 := hf236.st hst234 rfl; Y.loadSc ty30 rfl rfl (hf237.cell 3 _ rfl)) rfl ?_
                      refine WD.y 4 rfl (by kernel_rfl) (fun _ _ _ => Y.fieldAddr fo49_2 rfl) rfl ?_
                      refine WD.y 5 rfl (by kernel_rfl) (fun wd242 O241 hst243 => have hf244 := hb105.st hst218 rfl; have hf245 := hf244.st hst225 rfl; have hf246 := hf245.st hst243 rfl; Y.loadSc ty3 rfl rfl (hf246.cell 2 _ rfl)) rfl ?_
                      refine WD.heavy 3 rfl (by kernel_rfl) ?_
                      have hf247 := hf205.mono (imm_st hst218 rfl rfl)
                      have hf248 := hf247.mono (imm_st hst225 rfl rfl)
                      obtain ⟨r249, hp250, h⟩ := bnd h
                      refine WL.call (vals := [(.slice p99 m100 c101)]) kok21 rfl rfl (c_ref01_Bits (A := fun _ => True) (Sl.all hf248) hp250) ?_
                      rintro vr255 wd254 ⟨_, rfl, hm253, f252⟩
                      obtain ⟨O256, hold257, hnew258, hst259⟩ := adoptE O215 (fun k => if Value.ownBlock vr255 = some k then 15 else 1) hm253
                      have hf260 : OwnSl 15 Rep.i 3 O256 wd254 vr255 r249 := RowF.adopt 15 Flat.i f252 hnew258 (fun k hk => if_pos hk)
                      refine WL.nil ?_
                      refine At.dq (Stp.up hst259 rfl) ?_
                      obtain ⟨t261, ht261, h⟩ := bnd h
                      obtain ⟨O264, hst265, hf266⟩ := OwnSl.giveF rfl Flat.i hf260
                      refine WD.own (Stp.up hst265 rfl) ?_
                      obtain ⟨v262, hY267, hf263⟩ := Sl.slice (ρ := [(77, vr255), (79, vi e79.N)]) (x := (.tmp 77)) (lo := none) (hi := (some (.tmp 79))) ty23 ty3 rfl rfl rfl hf266 ht261
                      refine WD.y 6 rfl (by kernel_rfl) (fun _ _ _ => Y.sub (.cons rfl (.cons rfl .nil)) (hY267 _ _)) rfl ?_
                      refine WD.heavy 7 rfl (by kernel_rfl) ?_
                      obtain ⟨xs271, hxs271, h⟩ := bnd h
                      have hf272 := hf57.st hst97 rfl rfl rfl
                      have hf273 := hf272.st hst104 rfl rfl rfl
                      have hf274 := hf273.st hst218 rfl rfl rfl
                      have hf275 := hf274.st hst225 rfl rfl rfl
                      have hf276 := hf275.st hst259 rfl rfl rfl
                      have hf277 := hf276.st hst265 rfl rfl rfl
                      refine WL.append (by decide) ty23 ty3 rfl (by decide) rfl rfl hf277 (Sl.src (Sl.mono hf263 frs_imm)) hxs271 rfl ?_
                      intro v281 O278 wd279 hst280 ho282
                      refine WL.nil ?_
                      refine At.dq (Stp.up hst280 rfl) ?_
                      refine WD.y 8 rfl (by kernel_rfl) (fun _ _ _ => Y.assign rfl) rfl ?_
                      refine WD.done_ (by kernel_rfl) ?_
                      refine At.inBlock ?_
                      have hf286 := ho219.st hst225 rfl rfl rfl
                      have hf287 := hf286.st hst259 rfl rfl rfl
                      have hf288 := hf287.st hst265 rfl rfl rfl
                      have hf289 := hf288.st hst280 rfl rfl rfl
                      obtain ⟨O290, hst291, ho292⟩ := OwnSl.rlb 1003 rfl hf289
                      have hf293 := ho282.st hst291 rfl rfl rfl
                      obtain ⟨O294, hst295, ho296⟩ := OwnSl.rlb 1004 rfl hf293
                      have hf297 := ho292.st hst295 rfl rfl rfl
                      have hf298 := hb220.st hst225 rfl
                      have hf299 := hf298.st hst259 rfl
                      have hf300 := hf299.st hst265 rfl
                      have hf301 := hf300.st hst280 rfl
                      have hf302 := hf301.st hst291 rfl
                      have hf303 := hf302.st hst295 rfl
                      exact At.join (σ := (List UInt8 × Int × List Int × Own × Value × Value)) (r207.b, r207.n, xs271, O294, z209, v281) ⟨go2 h, (Stp.trans (Stp.up hst218 rfl) (Stp.trans (Stp.up hst225 rfl) (Stp.trans (Stp.up hst259 rfl) (Stp.trans (Stp.up hst265 rfl) (Stp.trans (Stp.up hst280 rfl) (Stp.trans (Stp.up hst291 rfl) (Stp.up hst295 rfl))))))), hf297, hf303, ho296⟩ (.cons rfl (.cons rfl (.cons rfl (.cons rfl .nil))))
                    · refine WC.condF' rfl hc223 ?_
                      refine WC.skip ?_
                      refine At.inBlock ?_
                      obtain ⟨O304, hst305, ho306⟩ := OwnSl.rlb 1003 rfl ho219
                      have hf307 := hf57.st hst97 rfl rfl rfl
                      have hf308 := hf307.st hst104 rfl rfl rfl
                      have hf309 := hf308.st hst218 rfl rfl rfl
                      have hf310 := hf309.st hst305 rfl rfl rfl
                      obtain ⟨O311, hst312, ho313⟩ := OwnSl.rlb 1004 rfl hf310
                      have hf314 := ho306.st hst312 rfl rfl rfl
                      have hf315 := hb220.st hst305 rfl
                      have hf316 := hf315.st hst312 rfl
                      exact At.join (σ := (List UInt8 × Int × List Int × Own × Value × Value)) (r207.b, r207.n, all55, O311, z209, v56) ⟨go2 h, (Stp.trans (Stp.up hst218 rfl) (Stp.trans (Stp.up hst305 rfl) (Stp.up hst312 rfl))), hf314, hf316, ho313⟩ (.cons rfl (.cons rfl (.cons rfl (.cons rfl .nil))))
              · refine WC.condF' rfl hc197 ?_
                refine WC.seq ?_
                refine WC.region ?_
                refine WL.y (Y.eql_i rfl rfl) rfl ?_
                obtain ⟨t317, ht317, h⟩ := lt1 h
                refine WL.yE (Y.assign rfl) (congrArg Value.bool ht317.symm) rfl ?_
                refine WL.nil ?_
                refine At.then ?_
                rcases cnd h with ⟨hc318, h⟩ | ⟨hc318, h⟩
                · refine WC.condT' rfl hc318 ?_
                  refine WC.seq ?_
                  refine WC.region ?_
                  refine WL.y (Y.fieldAddr fo49_2 rfl) rfl ?_
                  refine WL.y (Y.loadSc ty3 rfl rfl (hb105.cell 2 _ rfl)) rfl ?_
                  refine WL.y (Y.geq_i rfl rfl) rfl ?_
                  refine WL.y (Y.move rfl) rfl ?_
                  refine WL.cut 6 (σ := Unit) (fun _ w' => wd103 = w') (fun _ => [(0, v0), (3, .pointer (some ⟨p37, 0, none⟩)), (4, v56), (5, vi i58), (6, .pointer (some ⟨p94, 0, none⟩)), (93, .bool ((decide (0 ≤ e79.N)) && (decide (e79.N ≤ (all55.length : Int)))))]) ?_ ?_
                  · refine WL.part 87 rfl (fun hE319 => ?_) (fun hE319 => ?_)
                    · refine WL.ung rfl rfl ?_
                      refine WL.y (Y.fieldAddr fo49_2 rfl) rfl ?_
                      refine WL.ung rfl rfl ?_
                      refine WL.y (Y.loadSc ty3 rfl rfl (hb105.cell 2 _ rfl)) rfl ?_
                      refine WL.ung rfl rfl ?_
                      refine WL.y (Y.move rfl) rfl ?_
                      refine WL.ung rfl rfl ?_
                      have hf320 := hf57.st hst97 rfl rfl rfl
                      have hf321 := hf320.st hst104 rfl rfl rfl
                      refine WL.y (Y.len ty23 rfl hf321.src.sl) rfl ?_
                      refine WL.ung rfl rfl ?_
                      refine WL.y (Y.leq_i rfl rfl) rfl ?_
                      refine WL.y (Y.pick (b := true) rfl rfl) rfl ?_
                      refine WL.ren (v' := .bool ((decide (0 ≤ e79.N)) && (decide (e79.N ≤ (all55.length : Int))))) 93 rfl (congrArg Value.bool (andT hE319)) ?_
                      exact WL.nil (At.join () rfl (.cons rfl (.cons rfl (.cons rfl (.cons rfl (.cons rfl (.cons rfl .nil)))))))
                    · refine WL.gS rfl rfl rfl rfl ?_
                      refine WL.gS rfl rfl rfl rfl ?_
                      refine WL.gS rfl rfl rfl rfl ?_
                      refine WL.gS rfl rfl rfl rfl ?_
                      refine WL.gS rfl rfl rfl rfl ?_
                      refine WL.y (Y.pick (b := false) rfl rfl) rfl ?_
                      refine WL.ren (v' := .bool ((decide (0 ≤ e79.N)) && (decide (e79.N ≤ (all55.length : Int))))) 93 rfl (congrArg Value.bool (andF hE319)) ?_
                      exact WL.nil (At.join () rfl (.cons rfl (.cons rfl (.cons rfl (.cons rfl (.cons rfl (.cons rfl .nil)))))))
                  · rintro _ _ rfl
                    refine (show WL _ _ _ _ _ [(0, v0), (3, .pointer (some ⟨p37, 0, none⟩)), (4, v56), (5, vi i58), (6, .pointer (some ⟨p94, 0, none⟩)), (93, .bool ((decide (0 ≤ e79.N)) && (decide (e79.N ≤ (all55.length : Int)))))] _ from ?_)
                    obtain ⟨is322, his322, h⟩ := lt1 h
                    refine WL.yE (Y.assign rfl) (congrArg Value.bool his322.symm) rfl ?_
                    refine WL.nil ?_
                    refine At.then ?_
                    refine WC.seq ?_
                    refine WC.seq ?_
                    refine WC.region ?_
                    refine WL.y (Y.move rfl) rfl ?_
                    refine WL.y (Y.fieldAddr fo49_2 rfl) rfl ?_
                    refine WL.y (Y.loadSc ty3 rfl rfl (hb105.cell 2 _ rfl)) rfl ?_
                    have hf323 := hf53.st hst97 rfl rfl rfl
                    have hf324 := hf323.st hst104 rfl rfl rfl
                    have hf325 := hb50.st hst97 rfl
                    have hf326 := hf325.st hst104 rfl
                    obtain ⟨⟨r327, r328⟩, hp329, h⟩ := bnd h
                    refine WL.call (vals := [.pointer (some ⟨p37, 0, none⟩), vi e79.N]) kok28 rfl rfl (c_bitio_Writer_Cut (a0 := (bitio_Writer.mk c51 c54)) hf324.row hf326.blk (ne_lab hf324 hf326.lab rfl) hp329) ?_
                    rintro vr335 wd334 ⟨z330, rfl, hm333, f331, f332⟩
                    obtain ⟨O336, hold337, hnew338, hst339⟩ := adopt O95 (fun k => if Value.ownBlock z330 = some k then 1007 else 1) [11, 1007] hm333 (memOr (memB hf326.lab rfl) (memV hf324.labs rfl))
                    have ho340 : OwnSl 1007 Rep.b 5 O336 wd334 z330 r328.b := RowG.adopt Flat.b hf324.labs f331 hold337 hnew338 (fun k hk => if_pos hk)
                    have hb341 : Blk 11 O336 wd334 p37 73 [z330, vi r328.n] := Blk.adopt hf326 hold337 f332
                    refine WL.y (Y.move rfl) rfl ?_
                    refine WL.y (Y.neqB rfl rfl ty4.u) rfl ?_
                    refine WL.nil ?_
                    refine At.then ?_
                    rcases cnd h with ⟨hc342, h⟩ | ⟨hc342, h⟩
                    · refine WC.condT' rfl hc342 ?_
                      refine WC.seq ?_
                      refine WC.region ?_
                      refine WL.y (Y.assign rfl) rfl ?_
                      refine WL.nil ?_
                      refine At.then ?_
                      refine WC.ret ?_
                      refine At.thenR ?_
                      refine At.inBlockR ?_
                      have h := outs1 h hk118
                      refine At.joinR ?_
                      refine At.thenR ?_
                      refine At.inBlockR ?_
                      refine At.thenR ?_
                      refine At.loopR ?_
                      have h := outr1 h hn74 hk67
                      refine At.joinBR ?_
                      refine At.inBlockR ?_
                      refine At.thenR ?_
                      obtain rfl := some1 h
                      have hs343 : Stp [11, 12, 13, 15, 16, 17, 18, 1003, 1004, 1007, 1008] (Lg.O0 A) w O336 wd334 := (Stp.trans (Stp.up hst20 rfl) (Stp.trans (Stp.up hst32 rfl) (Stp.trans (Stp.up hst47 rfl) (Stp.trans (Stp.up hst61 rfl) (Stp.trans (Stp.up hst97 rfl) (Stp.trans (Stp.up hst104 rfl) (Stp.up hst339 rfl)))))))
                      exact At.res (.inl rfl) rfl (.tmp rfl .nil) ⟨rfl, (Stp.ext hs343 rfl rfl)⟩
                    · refine WC.condF' rfl hc342 ?_
                      refine WC.skip ?_
                      refine At.then ?_
                      refine WC.seq ?_
                      refine WC.region ?_
                      refine WL.y (Y.move rfl) rfl ?_
                      refine WL.nil ?_
                      refine At.then ?_
                      rcases cnd h with ⟨hc344, h⟩ | ⟨hc344, h⟩
                      · refine WC.condT' rfl hc344 ?_
                        refine WC.region ?_
                        refine WL.buildSlice (O := O336) (R := Rep.i) (vals := []) 16 [] (xs := []) (by decide) ty23 ty3 (by decide) (by decide) (Fits.evalp rfl) (by kernel_rfl) rfl rfl rfl ?_
                        intro v345 O347 wd348 hst349 ho346
                        refine WL.y (Y.move rfl) rfl ?_
                        refine WL.y (Y.fieldAddr fo49_2 rfl) rfl ?_
                        have hf350 := hb105.st hst339 rfl
                        have hf351 := hf350.st hst349 rfl
                        refine WL.y (Y.loadSc ty3 rfl rfl (hf351.cell 2 _ rfl)) rfl ?_
                        obtain ⟨t352, ht352, h⟩ := bnd h
                        have hf355 := hf57.st hst97 rfl rfl rfl
                        have hf356 := hf355.st hst104 rfl rfl rfl
                        have hf357 := hf356.st hst339 rfl rfl rfl
                        have hf358 := hf357.st hst349 rfl rfl rfl
                        refine WL.sliceOwn ty23 ty3 rfl rfl rfl hf358 ht352 rfl ?_
                        intro v353 hf354
                        obtain ⟨xs359, hxs359, h⟩ := bnd h
                        refine WL.append (by decide) ty23 ty3 rfl (by decide) rfl rfl ho346 hf354.src hxs359 rfl ?_
                        intro v363 O360 wd361 hst362 ho364
                        refine WL.y (Y.assign rfl) rfl ?_
                        refine WL.nil ?_
                        refine At.inBlock ?_
                        have hf365 := ho340.st hst349 rfl rfl rfl
                        have hf366 := hf365.st hst362 rfl rfl rfl
                        obtain ⟨O367, hst368, ho369⟩ := OwnSl.rlb 1003 rfl hf366
                        have hf370 := ho364.st hst368 rfl rfl rfl
                        obtain ⟨O371, hst372, ho373⟩ := OwnSl.rlb 1004 rfl hf370
                        have hf374 := ho369.st hst372 rfl rfl rfl
                        have hf375 := hb341.st hst349 rfl
                        have hf376 := hf375.st hst362 rfl
                        have hf377 := hf376.st hst368 rfl
                        have hf378 := hf377.st hst372 rfl
                        exact At.join (σ := (List UInt8 × Int × List Int × Own × Value × Value)) (r328.b, r328.n, xs359, O371, z330, v363) ⟨go2 h, (Stp.trans (Stp.up hst339 rfl) (Stp.trans (Stp.up hst349 rfl) (Stp.trans (Stp.up hst362 rfl) (Stp.trans (Stp.up hst368 rfl) (Stp.up hst372 rfl))))), hf374, hf378, ho373⟩ (.cons rfl (.cons rfl (.cons rfl (.cons rfl .nil))))
                      · refine WC.condF' rfl hc344 ?_
                        refine WC.skip ?_
                        refine At.inBlock ?_
                        obtain ⟨O379, hst380, ho381⟩ := OwnSl.rlb 1003 rfl ho340
                        have hf382 := hf57.st hst97 rfl rfl rfl
                        have hf383 := hf382.st hst104 rfl rfl rfl
                        have hf384 := hf383.st hst339 rfl rfl rfl
                        have hf385 := hf384.st hst380 rfl rfl rfl
                        obtain ⟨O386, hst387, ho388⟩ := OwnSl.rlb 1004 rfl hf385
                        have hf389 := ho381.st hst387 rfl rfl rfl
                        have hf390 := hb341.st hst380 rfl
                        have hf391 := hf390.st hst387 rfl
                        exact At.join (σ := (List UInt8 × Int × List Int × Own × Value × Value)) (r328.b, r328.n, all55, O386, z330, v56) ⟨go2 h, (Stp.trans (Stp.up hst339 rfl) (Stp.trans (Stp.up hst380 rfl) (Stp.up hst387 rfl))), hf389, hf391, ho388⟩ (.cons rfl (.cons rfl (.cons rfl (.cons rfl .nil))))
                · refine WC.condF' rfl hc318 ?_
                  refine WC.skip ?_
                  refine At.inBlock ?_
                  have hf392 := hf53.st hst97 rfl rfl rfl
                  have hf393 := hf392.st hst104 rfl rfl rfl
                  obtain ⟨O394, hst395, ho396⟩ := OwnSl.rlb 1003 rfl hf393
                  have hf397 := hf57.st hst97 rfl rfl rfl
                  have hf398 := hf397.st hst104 rfl rfl rfl
                  have hf399 := hf398.st hst395 rfl rfl rfl
                  obtain ⟨O400, hst401, ho402⟩ := OwnSl.rlb 1004 rfl hf399
                  have hf403 := ho396.st hst401 rfl rfl rfl
                  have hf404 := hb50.st hst97 rfl
                  have hf405 := hf404.st hst104 rfl
                  have hf406 := hf405.st hst395 rfl
                  have hf407 := hf406.st hst401 rfl
                  exact At.join (σ := (List UInt8 × Int × List Int × Own × Value × Value)) (c51, c54, all55, O400, v52, v56) ⟨go2 h, (Stp.trans (Stp.up hst395 rfl) (Stp.up hst401 rfl)), hf403, hf407, ho402⟩ (.cons rfl (.cons rfl (.cons rfl (.cons rfl .nil))))
          · rintro ⟨c107, c110, all111, O114, v108, v112⟩ wd115 ⟨rfl, hst116, hf109, hb106, hf113⟩
            replace h := flowK_go hk118
            try dsimp only at h hst116 hf109 hb106 hf113
            refine (show At _ _ _ [(0, v0), (3, .pointer (some ⟨p37, 0, none⟩)), (4, v112), (5, vi i58)] _ from ?_)
            refine At.then ?_
            refine WC.seq ?_
            refine WC.drawH [] O114 14 fmix rfl ?_
            intro wd408 hst409
            refine WD.y 0 rfl (by kernel_rfl) (fun _ _ _ => Y.move rfl) rfl ?_
            refine WD.y 2 rfl (by kernel_rfl) (fun _ _ _ => Y.move rfl) rfl ?_
            refine WD.y 3 rfl (by kernel_rfl) (fun wd417 O416 hst418 => have hf419 := hf113.st hst409 rfl rfl rfl; have hf420 := hf419.st hst418 rfl rfl rfl; Y.len ty23 rfl hf420.src.sl) rfl ?_
            refine WD.heavy 1 rfl (by kernel_rfl) ?_
            have hf421 := hb106.st hst409 rfl
            have hf422 := hf109.st hst409 rfl rfl rfl
            obtain ⟨r423, hp424, h⟩ := bnd h
            refine WL.call (vals := [.pointer (some ⟨p37, 0, none⟩)]) kok16 rfl rfl (c_bitio_Writer_Len (A := fun _ => True) (a0 := (bitio_Writer.mk c107 c110)) (hf422.src.sl) hf421.blk trivial hp424) ?_
            rintro vr427 wd426 ⟨rfl, hm425⟩
            obtain ⟨O428, hold429, hnew430, hst431⟩ := adoptE O114 (fun k => 1) hm425
            refine WL.nil ?_
            refine At.dq (Stp.up hst431 rfl) ?_
            refine WD.y 4 rfl (by kernel_rfl) (fun _ _ _ => Y.neq_i rfl rfl) rfl ?_
            refine WD.y 5 rfl (by kernel_rfl) (fun _ _ _ => Y.move rfl) rfl ?_
            obtain ⟨p442, h, hk443⟩ := bnd h
            refine WD.join (σ := (Bool × Own)) (f' := 0) [13, 12, 11, 10, 8, 7, 9, 6, 5, 4, 1, 3, 2, 0] (fun x O' w' => x.1 = p442 ∧ Stp [] O428 wd426 x.2 w' ∧ x.2 = O') (fun x => [(0, v0), (3, .pointer (some ⟨p37, 0, none⟩)), (4, v112), (5, vi i58), (120, .bool x.1)]) (fun hJ444 => ?_) ?_
            · rcases cnd h with ⟨hE445, h⟩ | ⟨hE445, h⟩
              · refine WD.ren 112 rfl (congrArg Value.bool hE445) ?_
                refine WD.gS 6 rfl (by kernel_rfl) rfl rfl rfl rfl ?_
                refine WD.gS 9 rfl (by kernel_rfl) rfl rfl rfl rfl ?_
                refine WD.heavy 7 rfl (by kernel_rfl) ?_
                refine WL.gS rfl rfl rfl rfl ?_
                refine WL.nil ?_
                refine At.dq (Stp.refl _ _ _) ?_
                refine WD.gS 8 rfl (by kernel_rfl) rfl rfl rfl rfl ?_
                refine WD.heavy 10 rfl (by kernel_rfl) ?_
                refine WL.gS rfl rfl rfl rfl ?_
                refine WL.nil ?_
                refine At.dq (Stp.refl _ _ _) ?_
                refine WD.gS 11 rfl (by kernel_rfl) rfl rfl rfl rfl ?_
                refine WD.gS 12 rfl (by kernel_rfl) rfl rfl rfl rfl ?_
                refine WD.y 13 rfl (by kernel_rfl) (fun _ _ _ => Y.pick (b := true) rfl rfl) rfl ?_
                refine WD.ren 112 rfl (congrArg Value.bool hE445.symm) ?_
                exact hJ444 (true, O428) _ _ _ ⟨some1 h, (Stp.refl _ _ _), rfl⟩ (.cons rfl (.cons rfl (.cons rfl (.cons rfl (.cons rfl .nil)))))
              · refine WD.ren 112 rfl (congrArg Value.bool hE445) ?_
                refine WD.gT 6 rfl (by kernel_rfl) rfl rfl (fun _ _ _ => Y.move rfl) rfl ?_
                refine WD.gT 9 rfl (by kernel_rfl) rfl rfl (fun _ _ _ => Y.move rfl) rfl ?_
                refine WD.heavy 7 rfl (by kernel_rfl) ?_
                refine WL.ung rfl rfl ?_
                have hf455 := hf421.st hst431 rfl
                have hf456 := hf422.st hst431 rfl rfl rfl
                obtain ⟨r457, hp458, h⟩ := bnd h
                refine WL.call (vals := [.pointer (some ⟨p37, 0, none⟩)]) kok14 rfl rfl (c_bitio_Writer_Bytes (A := fun _ => True) (a0 := (bitio_Writer.mk c107 c110)) (hf456.src.sl) hf455.blk trivial hp458) ?_
                rintro vr463 wd462 ⟨_, rfl, hm461, f460⟩
                obtain ⟨O464, hold465, hnew466, hst467⟩ := adoptE O428 (fun k => if Value.ownBlock vr463 = some k then 17 else 1) hm461
                have hf468 : OwnSl 17 Rep.b 5 O464 wd462 vr463 r457 := RowF.adopt 17 Flat.b f460 hnew466 (fun k hk => if_pos hk)
                refine WL.nil ?_
                refine At.dq (Stp.up hst467 rfl) ?_
                refine WD.gT 8 rfl (by kernel_rfl) rfl rfl (fun wd470 O469 hst471 => have hf472 := hf468.st hst471 rfl rfl rfl; Y.b2s ty30 ty5 ty9 rfl hf472.src.sl) rfl ?_
                refine WD.heavy 10 rfl (by kernel_rfl) ?_
                refine WL.ung rfl rfl ?_
                have hf473 := hf113.st hst409 rfl rfl rfl
                have hf474 := hf473.st hst431 rfl rfl rfl
                have hf475 := hf474.st hst467 rfl rfl rfl
                obtain ⟨r476, hp477, h⟩ := bnd h
                refine WL.call (vals := [v112]) kok29 rfl rfl (c_ref01_Bytes (A := fun _ => True) (hf475.src.sl) hp477) ?_
                rintro vr482 wd481 ⟨_, rfl, hm480, f479⟩
                obtain ⟨O483, hold484, hnew485, hst486⟩ := adoptE O464 (fun k => if Value.ownBlock vr482 = some k then 18 else 1) hm480
                have hf487 : OwnSl 18 Rep.b 5 O483 wd481 vr482 r476 := RowF.adopt 18 Flat.b f479 hnew485 (fun k hk => if_pos hk)
                refine WL.nil ?_
                refine At.dq (Stp.up hst486 rfl) ?_
                refine WD.gT 11 rfl (by kernel_rfl) rfl rfl (fun wd489 O488 hst490 => have hf491 := hf487.st hst490 rfl rfl rfl; Y.b2s ty30 ty5 ty9 rfl hf491.src.sl) rfl ?_
                refine WD.gT 12 rfl (by kernel_rfl) rfl rfl (fun _ _ _ => Y.neq_s rfl rfl) rfl ?_
                refine WD.y 13 rfl (by kernel_rfl) (fun _ _ _ => Y.pick (b := false) rfl rfl) rfl ?_
                refine WD.ren 112 rfl (congrArg Value.bool hE445.symm) ?_
                exact hJ444 ((!decide (r457 = r476)), O483) _ _ _ ⟨some1 h, (Stp.trans (Stp.up hst467 rfl) (Stp.up hst486 rfl)), rfl⟩ (.cons rfl (.cons rfl (.cons rfl (.cons rfl (.cons rfl .nil)))))
            · rintro ⟨x438, O439⟩ _ wd440 ⟨rfl, hst441, rfl⟩
              replace h := hk443
              try dsimp only at h hst441
              refine (show WD _ _ _ _ _ _ _ [(0, v0), (3, .pointer (some ⟨p37, 0, none⟩)), (4, v112), (5, vi i58), (120, .bool x438)] _ _ from ?_)
              refine WD.done_ (by kernel_rfl) ?_
              refine At.then ?_
              rcases cnd h with ⟨hc498, h⟩ | ⟨hc498, h⟩
              · refine WC.condT' rfl hc498 ?_
                refine WC.seq ?_
                refine WC.region ?_
                refine WL.y (Y.assign rfl) rfl ?_
                refine WL.nil ?_
                refine At.then ?_
                refine WC.ret ?_
                refine At.inBlockR ?_
                refine At.thenR ?_
                refine At.loopR ?_
                have h := outr1 h hn74 hk67
                refine At.joinBR ?_
                refine At.inBlockR ?_
                refine At.thenR ?_
                obtain rfl := some1 h
                have hs499 : Stp [11, 12, 13, 15, 16, 17, 18, 1003, 1004, 1007, 1008] (Lg.O0 A) w O439 wd440 := (Stp.trans (Stp.up hst20 rfl) (Stp.trans (Stp.up hst32 rfl) (Stp.trans (Stp.up hst47 rfl) (Stp.trans (Stp.up hst61 rfl) (Stp.trans (Stp.up hst97 rfl) (Stp.trans (Stp.up hst104 rfl) (Stp.trans (Stp.up hst116 rfl) (Stp.trans (Stp.up hst409 rfl) (Stp.trans (Stp.up hst431 rfl) (Stp.up hst441 rfl))))))))))
                exact At.res (.inl rfl) rfl (.tmp rfl .nil) ⟨rfl, (Stp.ext hs499 rfl rfl)⟩
              · refine WC.condF' rfl hc498 ?_
                refine WC.skip ?_
                refine At.inBlock ?_
                refine At.then ?_
                refine WC.region ?_
                refine WL.y (Y.move rfl) rfl ?_
                refine WL.y (Y.add_i rfl rfl) rfl ?_
                obtain ⟨i500, hi500, h⟩ := lt1 h
                refine WL.yE (Y.assign rfl) (congrArg vi hi500.symm) rfl ?_
                refine WL.nil ?_
                have hf501 := hf422.st hst431 rfl rfl rfl
                have hf502 := hf501.st hst441 rfl rfl rfl
                obtain ⟨O503, hst504, ho505⟩ := OwnSl.rlb 1007 rfl hf502
                have hf506 := hf113.st hst409 rfl rfl rfl
                have hf507 := hf506.st hst431 rfl rfl rfl
                have hf508 := hf507.st hst441 rfl rfl rfl
                have hf509 := hf508.st hst504 rfl rfl rfl
                obtain ⟨O510, hst511, ho512⟩ := OwnSl.rlb 1008 rfl hf509
                have hf513 := ho505.st hst511 rfl rfl rfl
                have hf514 := hf421.st hst431 rfl
                have hf515 := hf514.st hst441 rfl
                have hf516 := hf515.st hst504 rfl
                have hf517 := hf516.st hst511 rfl
                exact At.round (c107, c110, all111, i500, O510, v108, v112) j72 (Nat.lt_succ_self _) ⟨next1 h hn74, (Stp.trans (Stp.up hst61 rfl) (Stp.trans (Stp.up hst97 rfl) (Stp.trans (Stp.up hst104 rfl) (Stp.trans (Stp.up hst116 rfl) (Stp.trans (Stp.up hst409 rfl) (Stp.trans (Stp.up hst431 rfl) (Stp.trans (Stp.up hst441 rfl) (Stp.trans (Stp.up hst504 rfl) (Stp.up hst511 rfl))))))))), hf513, hf517, ho512⟩ (.cons rfl (.cons rfl (.cons rfl (.cons rfl .nil))))
        · refine WC.condF' rfl hc78 ?_
          refine WC.exit ?_
          refine At.thenX ?_
          refine At.loopX ?_
          exact At.hitB (σ := Own) O59 ⟨brk1 h hn74, (Stp.up hst61 rfl)⟩ .nil
      · rintro O62 wd63 ⟨rfl, hst64⟩
        replace h := flowK_go hk67
        refine (show At _ _ _ [] _ from ?_)
        refine At.inBlockHit ?_
        refine At.then ?_
        refine WC.seq ?_
        refine WC.region ?_
        refine WL.y (Y.assign rfl) rfl ?_
        refine WL.nil ?_
        refine At.then ?_
        refine WC.ret ?_
        obtain rfl := some1 h
        have hs518 : Stp [11, 12, 13, 15, 16, 17, 18, 1003, 1004, 1007, 1008] (Lg.O0 A) w O62 wd63 := (Stp.trans (Stp.up hst20 rfl) (Stp.trans (Stp.up hst32 rfl) (Stp.trans (Stp.up hst47 rfl) (Stp.up hst64 rfl))))
        exact At.res (.inl rfl) rfl (.tmp rfl .nil) ⟨rfl, (Stp.ext hs518 rfl rfl)⟩

end Go.Lg
