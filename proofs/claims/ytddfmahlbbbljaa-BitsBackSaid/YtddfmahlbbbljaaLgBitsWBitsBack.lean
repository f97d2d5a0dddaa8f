/- The walks of BitsBack and of what it calls, printed by gen.py. -/
import Derived.Test.YtddfmahlbbbljaaLgBitsP
import Derived.Test.YtddfmahlbbbljaaProg
set_option linter.unusedVariables false
namespace Go.Lg
open Go Go.Proofs
set_option maxRecDepth 100000
theorem fmix : Try.prog.follows .mixedOrders = true := by kernel_rfl
theorem ty3 : TyOk Try.prog 3 (.int .i64) 1 8 (.int .i64 0) := tyOk Try.underlying3 (by kernel_rfl)
theorem ty4 : TyOk Try.prog 4 .bool 1 1 (.bool false) := tyOk Try.underlying4 (by kernel_rfl)
theorem ty5 : TyOk Try.prog 5 (.int .u8) 1 1 (.int .u8 0) := tyOk Try.underlying5 (by kernel_rfl)
theorem ty9 : TyOk Try.prog 9 .string 1 16 (.string ⟨#[]⟩) := tyOk Try.underlying9 (by kernel_rfl)
theorem ty22 : TyOk Try.prog 22 (.slice 29) 1 24 (.slice none 0 0) := tyOk Try.underlying22 (by kernel_rfl)
theorem ty23 : TyOk Try.prog 23 (.slice 3) 1 24 (.slice none 0 0) := tyOk Try.underlying23 (by kernel_rfl)
theorem ty25 : TyOk Try.prog 25 (.pointer 73) 1 8 (.pointer none) := tyOk Try.underlying25 (by kernel_rfl)
theorem ty27 : TyOk Try.prog 27 (.slice 4) 1 24 (.slice none 0 0) := tyOk Try.underlying27 (by kernel_rfl)
theorem ty29 : TyOk Try.prog 29 (.int .u64) 1 8 (.int .u64 0) := tyOk Try.underlying29 (by kernel_rfl)
theorem ty30 : TyOk Try.prog 30 (.slice 5) 1 24 (.slice none 0 0) := tyOk Try.underlying30 (by kernel_rfl)
theorem ty32 : TyOk Try.prog 32 (.pointer 77) 1 8 (.pointer none) := tyOk Try.underlying32 (by kernel_rfl)
theorem ty74 : TyOk Try.prog 74 (.int .u64) 1 8 (.int .u64 0) := tyOk Try.underlying74 (by kernel_rfl)
theorem fo73_0 : FieldOk Try.prog 73 0 0 := fieldOk Try.underlying73 rfl rfl (by kernel_rfl)
theorem fo73_1 : FieldOk Try.prog 73 1 1 := fieldOk Try.underlying73 rfl rfl (by kernel_rfl)
theorem fo77_0 : FieldOk Try.prog 77 0 0 := fieldOk Try.underlying77 rfl rfl (by kernel_rfl)
theorem fo77_1 : FieldOk Try.prog 77 1 1 := fieldOk Try.underlying77 rfl rfl (by kernel_rfl)
theorem fo77_2 : FieldOk Try.prog 77 2 2 := fieldOk Try.underlying77 rfl rfl (by kernel_rfl)
theorem kok11 : CallOk Try.prog 11 := callOk Try.func11 (by kernel_rfl) rfl
theorem kok12 : CallOk Try.prog 12 := callOk Try.func12 (by kernel_rfl) rfl
theorem kok13 : CallOk Try.prog 13 := callOk Try.func13 (by kernel_rfl) rfl
theorem kok14 : CallOk Try.prog 14 := callOk Try.func14 (by kernel_rfl) rfl
theorem kok15 : CallOk Try.prog 15 := callOk Try.func15 (by kernel_rfl) rfl
theorem kok16 : CallOk Try.prog 16 := callOk Try.func16 (by kernel_rfl) rfl
theorem kok17 : CallOk Try.prog 17 := callOk Try.func17 (by kernel_rfl) rfl
theorem kok18 : CallOk Try.prog 18 := callOk Try.func18 (by kernel_rfl) rfl
theorem kok23 : CallOk Try.prog 23 := callOk Try.func23 (by kernel_rfl) rfl
theorem kok46 : CallOk Try.prog 46 := callOk Try.func46 (by kernel_rfl) rfl
theorem kok47 : CallOk Try.prog 47 := callOk Try.func47 (by kernel_rfl) rfl

theorem c_bitio_NewWriter {w : World} {r0 : bitio_Writer} (h : bitio_NewWriter = some r0) : Rets Try.prog 12 [] w (fun v w' => ∃ (p0 : Nat) (u0_0 : Value), v = .pointer (some ⟨p0, 0, none⟩) ∧ Ext w w' ∧ (w'.heap[p0]? = some (.cells (List.toArray [u0_0, vi r0.n]) 73 (0, 0)) ∧ w.heap.size ≤ p0) ∧ RowF Rep.b 5 w w' u0_0 r0.b ∧ Value.ownBlock u0_0 ≠ some p0) := by
  unfold bitio_NewWriter at h
  refine Rets.enter Try.func12 rfl rfl ?_
  refine (show WC _ _ _ _ [] _ from ?_)
  refine WC.seq ?_
  refine WC.region ?_
  refine WL.y (Y.assign rfl) rfl ?_
  refine WL.nil ?_
  refine At.then ?_
  refine WC.seq ?_
  refine WC.region ?_
  refine WL.y (Y.build (vals := []) (cells := [.slice none 0 0, vi 0]) (Fits.evalp rfl) (by kernel_rfl)) rfl ?_
  refine WL.box (O := (Lg.O0 (fun _ => False))) 11 [.slice none 0 0, vi 0] rfl rfl rfl ?_
  intro p12 O13 wd14 hst15 hb11
  refine WL.y (Y.assign rfl) rfl ?_
  refine WL.nil ?_
  refine At.then ?_
  refine WC.ret ?_
  obtain rfl := some1 h
  have hs16 : Stp [] (Lg.O0 (fun _ => False)) w O13 wd14 := (Stp.up hst15 rfl)
  exact At.res (.inl rfl) rfl (.tmp rfl .nil) ⟨p12, .slice none 0 0, rfl, (Stp.ext hs16 rfl rfl), (Blk.outF hb11 hs16 low0 rfl), ⟨RowF.nil, (by simp [Value.ownBlock])⟩⟩

theorem c_bitio_Writer_room {A : Nat → Prop} {v0_0 : Value} {a0 : bitio_Writer} {b0 : Nat} {w : World} (hs0_0 : Sl Rep.b w A v0_0 a0.b) (hb0 : w.heap[b0]? = some (.cells (List.toArray [v0_0, vi a0.n]) 73 (0, 0))) (hm0 : A b0) {r0 : Int} (h : bitio_Writer_room a0 = some r0) : Rets Try.prog 46 [.pointer (some ⟨b0, 0, none⟩)] w (fun v w' => v = vi r0 ∧ Ext w w') := by
  unfold bitio_Writer_room at h
  refine Rets.enter Try.func46 rfl rfl ?_
  have hf11 : Sl Rep.b w (imm (Lg.O0 A)) v0_0 a0.b := (Sl.start hs0_0)
  have hb12 : Blk 0 (Lg.O0 A) w b0 73 [v0_0, vi a0.n] := ⟨(if_pos hm0), hb0⟩
  refine (show WC _ _ _ _ [(0, .pointer (some ⟨b0, 0, none⟩))] _ from ?_)
  refine WC.seq ?_
  refine WC.region ?_
  refine WL.y (Y.assign rfl) rfl ?_
  refine WL.nil ?_
  refine At.then ?_
  refine WC.seq ?_
  refine WC.draw 11 (Lg.O0 A) fmix (by kernel_rfl) ?_
  intro wd13 hst14
  refine WS.y (Y.move rfl) rfl ?_
  refine WS.y (Y.nilCheck rfl) rfl ?_
  refine WS.y (Y.fieldAddr fo73_0 rfl) rfl ?_
  have hf15 := hb12.st hst14 rfl
  refine WS.y (Y.loadSc ty30 rfl rfl (hf15.cell 0 _ rfl)) rfl ?_
  have hf16 := hf11.mono (imm_st hst14 rfl rfl)
  refine WS.y (Y.len ty30 rfl hf16) rfl ?_
  refine WS.y (Y.mul_i rfl rfl) rfl ?_
  refine WS.y (Y.move rfl) rfl ?_
  refine WS.y (Y.nilCheck rfl) rfl ?_
  refine WS.y (Y.fieldAddr fo73_1 rfl) rfl ?_
  refine WS.y (Y.loadSc ty3 rfl rfl (hf15.cell 1 _ rfl)) rfl ?_
  refine WS.y (Y.sub_i rfl rfl) rfl ?_
  refine WS.tail ?_
  obtain ⟨t17, ht17, h⟩ := lt1 h
  refine WL.yE (Y.assign rfl) (congrArg vi ht17.symm) rfl ?_
  refine WL.nil ?_
  refine At.then ?_
  refine WC.ret ?_
  obtain rfl := some1 h
  have hs18 : Stp [] (Lg.O0 A) w (Lg.O0 A) wd13 := (Stp.up hst14 rfl)
  exact At.res (.inl rfl) rfl (.tmp rfl .nil) ⟨rfl, (Stp.ext hs18 rfl rfl)⟩

theorem c_bitio_Writer_Put {v0_0 : Value} {a0 : bitio_Writer} {b0 : Nat} {a1 : UInt64} {a2 : Int} {w : World} (hs0_0 : Row Rep.b 5 w v0_0 a0.b) (hb0 : w.heap[b0]? = some (.cells (List.toArray [v0_0, vi a0.n]) 73 (0, 0))) (hne0_1 : Value.ownBlock v0_0 ≠ some b0) {r0 : Bool} {q0 : bitio_Writer} (h : bitio_Writer_Put a0 a1 a2 = some (r0, q0)) : Rets Try.prog 13 [.pointer (some ⟨b0, 0, none⟩), vu a1, vi a2] w (fun v w' => ∃ (z0_0 : Value), v = .bool r0 ∧ Mod (fun k => k = b0 ∨ Value.ownBlock v0_0 = some k) w w' ∧ RowG Rep.b 5 w w' v0_0 z0_0 q0.b ∧ w'.heap[b0]? = some (.cells (List.toArray [z0_0, vi q0.n]) 73 (0, 0))) := by
  unfold bitio_Writer_Put at h
  refine Rets.enter Try.func13 rfl rfl ?_
  have ho11 : OwnSl 4 Rep.b 5 (Lg.OB b0 3 (Lg.OV v0_0 4 (Lg.O0 (fun _ => False)))) w v0_0 a0.b := Row.start Flat.b hs0_0 (fun k hk => ((if_neg (fun (e : k = b0) => hne0_1 (e ▸ hk))).trans (if_pos hk)))
  have hb12 : Blk 3 (Lg.OB b0 3 (Lg.OV v0_0 4 (Lg.O0 (fun _ => False)))) w b0 73 [v0_0, vi a0.n] := ⟨(if_pos rfl), hb0⟩
  refine (show WC _ _ _ _ [(0, .pointer (some ⟨b0, 0, none⟩)), (1, vu a1), (2, vi a2)] _ from ?_)
  refine WC.seq ?_
  refine WC.region ?_
  refine WL.y (Y.assign rfl) rfl ?_
  refine WL.nil ?_
  refine At.then ?_
  refine WC.seq ?_
  refine WC.seq ?_
  refine WC.region ?_
  refine WL.y (Y.move rfl) rfl ?_
  refine WL.y (Y.lss_i rfl rfl) rfl ?_
  refine WL.y (Y.move rfl) rfl ?_
  refine WL.cut 3 (σ := Unit) (fun _ w' => w = w') (fun _ => [(0, .pointer (some ⟨b0, 0, none⟩)), (1, vu a1), (2, vi a2), (15, .bool ((decide (a2 < 0)) || (decide (64 < a2))))]) ?_ ?_
  · refine WL.part 12 rfl (fun hE13 => ?_) (fun hE13 => ?_)
    · refine WL.gS rfl rfl rfl rfl ?_
      refine WL.gS rfl rfl rfl rfl ?_
      refine WL.y (Y.pick (b := true) rfl rfl) rfl ?_
      refine WL.ren (v' := .bool ((decide (a2 < 0)) || (decide (64 < a2)))) 15 rfl (congrArg Value.bool (orT hE13)) ?_
      exact WL.nil (At.join () rfl (.cons rfl (.cons rfl (.cons rfl (.cons rfl .nil)))))
    · refine WL.ung rfl rfl ?_
      refine WL.y (Y.move rfl) rfl ?_
      refine WL.ung rfl rfl ?_
      refine WL.y (Y.gtr_i rfl rfl) rfl ?_
      refine WL.y (Y.pick (b := false) rfl rfl) rfl ?_
      refine WL.ren (v' := .bool ((decide (a2 < 0)) || (decide (64 < a2)))) 15 rfl (congrArg Value.bool (orF hE13)) ?_
      exact WL.nil (At.join () rfl (.cons rfl (.cons rfl (.cons rfl (.cons rfl .nil)))))
  · rintro _ _ rfl
    refine (show WL _ _ _ _ _ [(0, .pointer (some ⟨b0, 0, none⟩)), (1, vu a1), (2, vi a2), (15, .bool ((decide (a2 < 0)) || (decide (64 < a2))))] _ from ?_)
    refine WL.y (Y.move rfl) rfl ?_
    refine WL.cut 10 (σ := Unit) (fun _ w' => w = w') (fun _ => [(0, .pointer (some ⟨b0, 0, none⟩)), (1, vu a1), (2, vi a2), (26, .bool (((decide (a2 < 0)) || (decide (64 < a2))) || ((decide (a2 < 64)) && (!decide (shrU a1 ((toU64 a2).toNat) = 0)))))]) ?_ ?_
    · refine WL.part 16 rfl (fun hE14 => ?_) (fun hE14 => ?_)
      · refine WL.gS rfl rfl rfl rfl ?_
        refine WL.gS rfl rfl rfl rfl ?_
        refine WL.gS rfl rfl rfl rfl ?_
        refine WL.gS rfl rfl rfl rfl ?_
        refine WL.gS rfl rfl rfl rfl ?_
        refine WL.gS rfl rfl rfl rfl ?_
        refine WL.gS rfl rfl rfl rfl ?_
        refine WL.gS rfl rfl rfl rfl ?_
        refine WL.gS rfl rfl rfl rfl ?_
        refine WL.y (Y.pick (b := true) rfl rfl) rfl ?_
        refine WL.ren (v' := .bool (((decide (a2 < 0)) || (decide (64 < a2))) || ((decide (a2 < 64)) && (!decide (shrU a1 ((toU64 a2).toNat) = 0))))) 26 rfl (congrArg Value.bool (orT hE14)) ?_
        exact WL.nil (At.join () rfl (.cons rfl (.cons rfl (.cons rfl (.cons rfl .nil)))))
      · refine WL.ung rfl rfl ?_
        refine WL.y (Y.move rfl) rfl ?_
        refine WL.ung rfl rfl ?_
        refine WL.y (Y.lss_i rfl rfl) rfl ?_
        refine WL.ung rfl rfl ?_
        refine WL.y (Y.move rfl) rfl ?_
        refine WL.cut 6 (σ := Unit) (fun _ w' => w = w') (fun _ => [(0, .pointer (some ⟨b0, 0, none⟩)), (1, vu a1), (2, vi a2), (16, .bool false), (25, .bool ((decide (a2 < 64)) && (!decide (shrU a1 ((toU64 a2).toNat) = 0))))]) ?_ ?_
        · refine WL.part 19 rfl (fun hE15 => ?_) (fun hE15 => ?_)
          · refine WL.ung rfl rfl ?_
            refine WL.y (Y.move rfl) rfl ?_
            refine WL.ung rfl rfl ?_
            refine WL.y (Y.move rfl) rfl ?_
            refine WL.ung rfl rfl ?_
            refine WL.y (Y.conv_iu ty3.u ty74.u rfl) rfl ?_
            refine WL.ung rfl rfl ?_
            refine WL.y (Y.shr_uu rfl rfl) rfl ?_
            refine WL.ung rfl rfl ?_
            refine WL.y (Y.neq_u (b := 0) rfl rfl) rfl ?_
            refine WL.ung rfl rfl ?_
            refine WL.y (Y.pick (b := true) rfl rfl) rfl ?_
            refine WL.ren (v' := .bool ((decide (a2 < 64)) && (!decide (shrU a1 ((toU64 a2).toNat) = 0)))) 25 rfl (congrArg Value.bool (andT hE15)) ?_
            exact WL.nil (At.join () rfl (.cons rfl (.cons rfl (.cons rfl (.cons rfl (.cons rfl .nil))))))
          · refine WL.gS rfl rfl rfl rfl ?_
            refine WL.gS rfl rfl rfl rfl ?_
            refine WL.gS rfl rfl rfl rfl ?_
            refine WL.gS rfl rfl rfl rfl ?_
            refine WL.gS rfl rfl rfl rfl ?_
            refine WL.ung rfl rfl ?_
            refine WL.y (Y.pick (b := false) rfl rfl) rfl ?_
            refine WL.ren (v' := .bool ((decide (a2 < 64)) && (!decide (shrU a1 ((toU64 a2).toNat) = 0)))) 25 rfl (congrArg Value.bool (andF hE15)) ?_
            exact WL.nil (At.join () rfl (.cons rfl (.cons rfl (.cons rfl (.cons rfl (.cons rfl .nil))))))
        · rintro _ _ rfl
          refine (show WL _ _ _ _ _ [(0, .pointer (some ⟨b0, 0, none⟩)), (1, vu a1), (2, vi a2), (16, .bool false), (25, .bool ((decide (a2 < 64)) && (!decide (shrU a1 ((toU64 a2).toNat) = 0))))] _ from ?_)
          refine WL.y (Y.pick (b := false) rfl rfl) rfl ?_
          refine WL.ren (v' := .bool (((decide (a2 < 0)) || (decide (64 < a2))) || ((decide (a2 < 64)) && (!decide (shrU a1 ((toU64 a2).toNat) = 0))))) 26 rfl (congrArg Value.bool (orF hE14)) ?_
          exact WL.nil (At.join () rfl (.cons rfl (.cons rfl (.cons rfl (.cons rfl .nil)))))
    · rintro _ _ rfl
      refine (show WL _ _ _ _ _ [(0, .pointer (some ⟨b0, 0, none⟩)), (1, vu a1), (2, vi a2), (26, .bool (((decide (a2 < 0)) || (decide (64 < a2))) || ((decide (a2 < 64)) && (!decide (shrU a1 ((toU64 a2).toNat) = 0)))))] _ from ?_)
      refine WL.nil ?_
      refine At.then ?_
      rcases cnd h with ⟨hc16, h⟩ | ⟨hc16, h⟩
      · refine WC.condT' rfl hc16 ?_
        refine WC.seq ?_
        refine WC.region ?_
        refine WL.y (Y.assign rfl) rfl ?_
        refine WL.nil ?_
        refine At.then ?_
        refine WC.ret ?_
        refine At.thenR ?_
        obtain ⟨rfl, rfl⟩ := tup2 h
        have hs17 : Stp [] (Lg.OB b0 3 (Lg.OV v0_0 4 (Lg.O0 (fun _ => False)))) w (Lg.OB b0 3 (Lg.OV v0_0 4 (Lg.O0 (fun _ => False)))) w := (Stp.refl _ _ _)
        exact At.res (.inl rfl) rfl (.tmp rfl .nil) ⟨v0_0, rfl, (Stp.modL hs17 (sB sV1) rfl rfl), (OwnSl.outG ho11 hs17 (lowB (lowV low0 rfl rfl) rfl rfl) (fun k hk => by unfold Lg.OB Lg.OV Lg.O0 at hk; (repeat' split at hk); all_goals first | assumption | exact absurd hk (by decide))), hb12.blk⟩
      · refine WC.condF' rfl hc16 ?_
        refine WC.skip ?_
        refine At.then ?_
        refine WC.seq ?_
        refine WC.block ?_
        obtain ⟨p35, h, hk37⟩ := flow1 h
        obtain ⟨k36, h⟩ := loop_some h
        refine WC.joinB 0 (σ := (List UInt8 × Int × Own × Value)) (fun x w' => p35 = .go (x.1, x.2.1) ∧ Stp [3, 4] (Lg.OB b0 3 (Lg.OV v0_0 4 (Lg.O0 (fun _ => False)))) w x.2.2.1 w' ∧ OwnSl 4 Rep.b 5 x.2.2.1 w' x.2.2.2 x.1 ∧ Blk 3 x.2.2.1 w' b0 73 [x.2.2.2, vi x.2.1]) (fun x => []) ?_ ?_
        · refine WC.loop (σ := (List UInt8 × Int × Int × Own × Value)) (fun x k w' => loopN k (bitio_Writer_Put_lp1 a1) (x.1, x.2.1, x.2.2.1) = some p35 ∧ Stp [3, 4] (Lg.OB b0 3 (Lg.OV v0_0 4 (Lg.O0 (fun _ => False)))) w x.2.2.2.1 w' ∧ OwnSl 4 Rep.b 5 x.2.2.2.1 w' x.2.2.2.2 x.1 ∧ Blk 3 x.2.2.2.1 w' b0 73 [x.2.2.2.2, vi x.2.1]) (fun x => [(0, .pointer (some ⟨b0, 0, none⟩)), (1, vu a1), (2, vi x.2.2.1)]) (a0.b, a0.n, a2, (Lg.OB b0 3 (Lg.OV v0_0 4 (Lg.O0 (fun _ => False)))), v0_0) k36 (.cons rfl (.cons rfl (.cons rfl .nil))) ⟨h, (Stp.refl _ _ _), ho11, hb12⟩ ?_
          rintro ⟨c19, c22, nv23, O24, v20⟩ k36 wd25 ⟨h, hst26, hf21, hb18⟩
          obtain ⟨j38, q39, rfl, h, hn40⟩ := rnd1 h
          unfold bitio_Writer_Put_lp1 at h
          try dsimp only at h hst26 hf21 hb18
          refine (show WC _ _ _ _ [(0, .pointer (some ⟨b0, 0, none⟩)), (1, vu a1), (2, vi nv23)] _ from ?_)
          refine WC.seq ?_
          refine WC.seq ?_
          refine WC.region ?_
          refine WL.y (Y.move rfl) rfl ?_
          refine WL.y (Y.gtr_i rfl rfl) rfl ?_
          refine WL.nil ?_
          refine At.then ?_
          rcases cnd h with ⟨hc41, h⟩ | ⟨hc41, h⟩
          · refine WC.condT' rfl hc41 ?_
            refine WC.skip ?_
            refine At.then ?_
            obtain ⟨p51, h, hk52⟩ := bnd h
            refine WC.join (σ := (List UInt8 × Int × Int × Own × Value)) (fun x w' => (x.1, x.2.1, x.2.2.1) = p51 ∧ Stp [3, 4] O24 wd25 x.2.2.2.1 w' ∧ OwnSl 4 Rep.b 5 x.2.2.2.1 w' x.2.2.2.2 x.1 ∧ Blk 3 x.2.2.2.1 w' b0 73 [x.2.2.2.2, vi x.2.1]) (fun x => [(0, .pointer (some ⟨b0, 0, none⟩)), (1, vu a1), (2, vi x.2.2.1)]) ?_ ?_
            · refine WC.block ?_
              refine WC.seq ?_
              obtain ⟨p60, h, hk61⟩ := bnd h
              refine WC.join (σ := (List UInt8 × Own × Value)) (fun x w' => x.1 = p60 ∧ Stp [3, 4] O24 wd25 x.2.1 w' ∧ OwnSl 4 Rep.b 5 x.2.1 w' x.2.2 x.1 ∧ Blk 3 x.2.1 w' b0 73 [x.2.2, vi c22]) (fun x => [(0, .pointer (some ⟨b0, 0, none⟩)), (1, vu a1), (2, vi nv23)]) ?_ ?_
              · refine WC.seq ?_
                refine WC.region ?_
                refine WL.y (Y.move rfl) rfl ?_
                obtain ⟨r62, hp63, h⟩ := bnd h
                refine WL.call (vals := [.pointer (some ⟨b0, 0, none⟩)]) kok46 rfl rfl (c_bitio_Writer_room (A := fun _ => True) (a0 := (bitio_Writer.mk c19 c22)) (hf21.src.sl) hb18.blk trivial hp63) ?_
                rintro vr66 wd65 ⟨rfl, hm64⟩
                obtain ⟨O67, hold68, hnew69, hst70⟩ := adoptE O24 (fun k => 1) hm64
                refine WL.y (Y.eql_i rfl rfl) rfl ?_
                refine WL.nil ?_
                refine At.then ?_
                rcases cnd h with ⟨hc71, h⟩ | ⟨hc71, h⟩
                · refine WC.condT' rfl hc71 ?_
                  refine WC.region ?_
                  refine WL.y (Y.move rfl) rfl ?_
                  refine WL.y (Y.move rfl) rfl ?_
                  refine WL.y (Y.nilCheck rfl) rfl ?_
                  refine WL.y (Y.fieldAddr fo73_0 rfl) rfl ?_
                  have hf72 := hb18.st hst70 rfl
                  refine WL.y (Y.loadSc ty30 rfl rfl (hf72.cell 0 _ rfl)) rfl ?_
                  refine WL.buildSlice (O := O67) (R := Rep.b) (vals := [(0, vb 0)]) 11 [vb 0] (xs := [0]) (by decide) ty30 ty5 (by decide) (by decide) (Fits.evalp rfl) (by kernel_rfl) rfl ⟨[vb 0], [], rfl, rfl, rfl⟩ rfl ?_
                  intro v73 O75 wd76 hst77 ho74
                  obtain ⟨xs78, hxs78, h⟩ := bnd h
                  have hf79 := hf21.st hst70 rfl rfl rfl
                  have hf80 := hf79.st hst77 rfl rfl rfl
                  refine WL.append (by decide) ty30 ty5 rfl (by decide) rfl rfl hf80 ho74.src hxs78 rfl ?_
                  intro v84 O81 wd82 hst83 ho85
                  refine WL.y (Y.nilCheck rfl) rfl ?_
                  refine WL.y (Y.fieldAddr fo73_0 rfl) rfl ?_
                  have hh89 := h
                  obtain ⟨p86, m87, c88, rfl⟩ := ho85.shape
                  have h := hh89
                  have hf90 := hf72.st hst77 rfl
                  have hf91 := hf90.st hst83 rfl
                  refine WL.store (v := (.slice p86 m87 c88)) (cells' := [(.slice p86 m87 c88), vi c22]) ty30 rfl rfl hf91 rfl (Nat.le_of_ble_eq_true rfl) rfl rfl ?_
                  intro wd92 hst93 hb94
                  refine WL.nil ?_
                  have hf95 := ho85.st hst93 rfl rfl rfl
                  exact At.join (σ := (List UInt8 × Own × Value)) (xs78, O81, (.slice p86 m87 c88)) ⟨some1 h, (Stp.trans (Stp.up hst70 rfl) (Stp.trans (Stp.up hst77 rfl) (Stp.trans (Stp.up hst83 rfl) (Stp.up hst93 rfl)))), hf95, hb94⟩ (.cons rfl (.cons rfl (.cons rfl .nil)))
                · refine WC.condF' rfl hc71 ?_
                  refine WC.skip ?_
                  have hf96 := hf21.st hst70 rfl rfl rfl
                  have hf97 := hb18.st hst70 rfl
                  exact At.join (σ := (List UInt8 × Own × Value)) (c19, O67, v20) ⟨some1 h, (Stp.up hst70 rfl), hf96, hf97⟩ (.cons rfl (.cons rfl (.cons rfl .nil)))
              · rintro ⟨c54, O57, v55⟩ wd58 ⟨rfl, hst59, hf56, hb53⟩
                replace h := hk61
                try dsimp only at h hst59 hf56 hb53
                refine (show At _ _ _ [(0, .pointer (some ⟨b0, 0, none⟩)), (1, vu a1), (2, vi nv23)] _ from ?_)
                refine At.then ?_
                refine WC.seq ?_
                refine WC.region ?_
                refine WL.y (Y.move rfl) rfl ?_
                obtain ⟨r98, hp99, h⟩ := bnd h
                refine WL.call (vals := [.pointer (some ⟨b0, 0, none⟩)]) kok46 rfl rfl (c_bitio_Writer_room (A := fun _ => True) (a0 := (bitio_Writer.mk c54 c22)) (hf56.src.sl) hb53.blk trivial hp99) ?_
                rintro vr102 wd101 ⟨rfl, hm100⟩
                obtain ⟨O103, hold104, hnew105, hst106⟩ := adoptE O57 (fun k => 1) hm100
                refine WL.y (Y.assign rfl) rfl ?_
                refine WL.nil ?_
                refine At.then ?_
                refine WC.seq ?_
                refine WC.region ?_
                refine WL.y (Y.move rfl) rfl ?_
                refine WL.y (Y.move rfl) rfl ?_
                refine WL.y (Y.min_i rfl rfl) rfl ?_
                obtain ⟨k107, hk107, h⟩ := lt1 h
                refine WL.yE (Y.assign rfl) (congrArg vi hk107.symm) rfl ?_
                refine WL.nil ?_
                refine At.then ?_
                refine WC.seq ?_
                refine WC.region ?_
                refine WL.y (Y.move rfl) rfl ?_
                refine WL.y (Y.move rfl) rfl ?_
                refine WL.y (Y.move rfl) rfl ?_
                refine WL.y (Y.sub_i rfl rfl) rfl ?_
                refine WL.y (Y.conv_iu ty3.u ty74.u rfl) rfl ?_
                refine WL.y (Y.shr_uu rfl rfl) rfl ?_
                obtain ⟨piece108, hpiece108, h⟩ := lt1 h
                refine WL.yE (Y.assign rfl) (congrArg vu hpiece108.symm) rfl ?_
                refine WL.nil ?_
                refine At.then ?_
                refine WC.seq ?_
                obtain ⟨p110, h, hk111⟩ := bnd h
                refine WC.join (σ := UInt64) (fun x w' => x = p110 ∧ wd101 = w') (fun x => [(0, .pointer (some ⟨b0, 0, none⟩)), (1, vu a1), (2, vi nv23), (7, vi r98), (8, vi k107), (9, vu x)]) ?_ ?_
                · refine WC.seq ?_
                  refine WC.region ?_
                  refine WL.y (Y.move rfl) rfl ?_
                  refine WL.y (Y.lss_i rfl rfl) rfl ?_
                  refine WL.nil ?_
                  refine At.then ?_
                  rcases cnd h with ⟨hc112, h⟩ | ⟨hc112, h⟩
                  · refine WC.condT' rfl hc112 ?_
                    refine WC.region ?_
                    refine WL.y (Y.move rfl) rfl ?_
                    refine WL.y (Y.move rfl) rfl ?_
                    refine WL.y (Y.conv_iu ty3.u ty74.u rfl) rfl ?_
                    refine WL.y (Y.shl_uu (a := 1) rfl rfl) rfl ?_
                    refine WL.y (Y.sub_u (b := 1) rfl rfl) rfl ?_
                    refine WL.y (Y.and_u rfl rfl) rfl ?_
                    obtain ⟨piece113, hpiece113, h⟩ := lt1 h
                    refine WL.yE (Y.assign rfl) (congrArg vu hpiece113.symm) rfl ?_
                    refine WL.nil ?_
                    exact At.join (σ := UInt64) piece113 ⟨some1 h, rfl⟩ (.cons rfl (.cons rfl (.cons rfl (.cons rfl (.cons rfl (.cons rfl .nil))))))
                  · refine WC.condF' rfl hc112 ?_
                    refine WC.skip ?_
                    exact At.join (σ := UInt64) piece108 ⟨some1 h, rfl⟩ (.cons rfl (.cons rfl (.cons rfl (.cons rfl (.cons rfl (.cons rfl .nil))))))
                · rintro piece109 _ ⟨rfl, rfl⟩
                  replace h := hk111
                  try dsimp only at h
                  refine (show At _ _ _ [(0, .pointer (some ⟨b0, 0, none⟩)), (1, vu a1), (2, vi nv23), (7, vi r98), (8, vi k107), (9, vu piece109)] _ from ?_)
                  refine At.then ?_
                  refine WC.seq ?_
                  refine WC.draw 21 O103 fmix (by kernel_rfl) ?_
                  intro wd114 hst115
                  refine WS.y (Y.move rfl) rfl ?_
                  refine WS.y (Y.nilCheck rfl) rfl ?_
                  refine WS.y (Y.fieldAddr fo73_0 rfl) rfl ?_
                  have hf116 := hb53.st hst106 rfl
                  have hf117 := hf116.st hst115 rfl
                  refine WS.y (Y.loadSc ty30 rfl rfl (hf117.cell 0 _ rfl)) rfl ?_
                  refine WS.y (Y.move rfl) rfl ?_
                  refine WS.y (Y.nilCheck rfl) rfl ?_
                  refine WS.y (Y.fieldAddr fo73_0 rfl) rfl ?_
                  refine WS.y (Y.loadSc ty30 rfl rfl (hf117.cell 0 _ rfl)) rfl ?_
                  have hf118 := hf56.st hst106 rfl rfl rfl
                  have hf119 := hf118.st hst115 rfl rfl rfl
                  refine WS.y (Y.len ty30 rfl hf119.src.sl) rfl ?_
                  refine WS.y (Y.sub_i rfl rfl) rfl ?_
                  obtain ⟨e120, he120, h⟩ := bnd h
                  obtain ⟨b121, cap128, cs127, hv122, hi123, hl124, hc125, hok126⟩ := OwnSl.at hf119 he120
                  obtain rfl := hok126
                  replace hc125 : CellsAt _ _ _ [vb e120] := hc125
                  have hca129 := CAt.own hf119 hv122 hc125
                  refine WS.y (Y.indexAddr ty30 ty5 rfl hv122 rfl hi123 hl124) rfl ?_
                  refine WS.y (Y.loadSc ty5 rfl rfl hca129.at_) rfl ?_
                  refine WS.y (Y.move rfl) rfl ?_
                  refine WS.y (Y.move rfl) rfl ?_
                  refine WS.y (Y.move rfl) rfl ?_
                  refine WS.y (Y.sub_i rfl rfl) rfl ?_
                  refine WS.y (Y.conv_iu ty3.u ty74.u rfl) rfl ?_
                  refine WS.y (Y.shl_uu rfl rfl) rfl ?_
                  refine WS.y (Y.conv_ub ty29.u ty5.u rfl) rfl ?_
                  refine WS.y (Y.or_b rfl rfl) rfl ?_
                  obtain ⟨e130, he130, h⟩ := bnd h
                  obtain ⟨b131, cap138, cs137, hv132, hi133, hl134, hc135, hok136⟩ := OwnSl.at hf119 he130
                  obtain rfl := hok136
                  replace hc135 : CellsAt _ _ _ [vb e130] := hc135
                  have hca139 := CAt.own hf119 hv132 hc135
                  refine WS.y (Y.indexAddr ty30 ty5 rfl hv132 rfl hi133 hl134) rfl ?_
                  refine WS.tail ?_
                  obtain ⟨t140, ht140, h⟩ := lt1 h
                  refine WL.ren 79 rfl (congrArg vb ht140.symm) ?_
                  obtain ⟨xs141, hxs141, h⟩ := bnd h
                  refine WL.storeOwn (by decide) ty5 rfl rfl rfl hf119 hv132 hxs141 ?_
                  intro wd142 hst143 ho144
                  refine WL.nil ?_
                  refine At.then ?_
                  refine WC.seq ?_
                  refine WC.region ?_
                  refine WL.y (Y.move rfl) rfl ?_
                  refine WL.y (Y.nilCheck rfl) rfl ?_
                  refine WL.y (Y.fieldAddr fo73_1 rfl) rfl ?_
                  have hf145 := hf117.st hst143 rfl
                  refine WL.y (Y.loadSc ty3 rfl rfl (hf145.cell 1 _ rfl)) rfl ?_
                  refine WL.y (Y.move rfl) rfl ?_
                  refine WL.y (Y.add_i rfl rfl) rfl ?_
                  refine WL.y (Y.nilCheck rfl) rfl ?_
                  refine WL.y (Y.fieldAddr fo73_1 rfl) rfl ?_
                  obtain ⟨t146, ht146, h⟩ := lt1 h
                  refine WL.ren 86 rfl (congrArg vi ht146.symm) ?_
                  refine WL.store (v := vi t146) (cells' := [v55, vi t146]) ty3 rfl rfl hf145 rfl (Nat.le_of_ble_eq_true rfl) rfl rfl ?_
                  intro wd147 hst148 hb149
                  refine WL.nil ?_
                  refine At.then ?_
                  refine WC.region ?_
                  refine WL.y (Y.move rfl) rfl ?_
                  refine WL.y (Y.move rfl) rfl ?_
                  refine WL.y (Y.sub_i rfl rfl) rfl ?_
                  obtain ⟨nv150, hnv150, h⟩ := lt1 h
                  refine WL.yE (Y.assign rfl) (congrArg vi hnv150.symm) rfl ?_
                  refine WL.nil ?_
                  refine At.inBlock ?_
                  have hf151 := ho144.st hst148 rfl rfl rfl
                  exact At.join (σ := (List UInt8 × Int × Int × Own × Value)) (xs141, t146, nv150, O103, v55) ⟨some1 h, (Stp.trans (Stp.up hst59 rfl) (Stp.trans (Stp.up hst106 rfl) (Stp.trans (Stp.up hst115 rfl) (Stp.trans (Stp.up hst143 rfl) (Stp.up hst148 rfl))))), hf151, hb149⟩ (.cons rfl (.cons rfl (.cons rfl .nil)))
            · rintro ⟨c43, c46, nv47, O48, v44⟩ wd49 ⟨rfl, hst50, hf45, hb42⟩
              replace h := hk52
              try dsimp only at h hst50 hf45 hb42
              refine (show At _ _ _ [(0, .pointer (some ⟨b0, 0, none⟩)), (1, vu a1), (2, vi nv47)] _ from ?_)
              exact At.round (c43, c46, nv47, O48, v44) j38 (Nat.lt_succ_self _) ⟨next1 h hn40, (Stp.trans (Stp.up hst26 rfl) (Stp.up hst50 rfl)), hf45, hb42⟩ (.cons rfl (.cons rfl (.cons rfl .nil)))
          · refine WC.condF' rfl hc41 ?_
            refine WC.exit ?_
            refine At.thenX ?_
            refine At.loopX ?_
            exact At.hitB (σ := (List UInt8 × Int × Own × Value)) (c19, c22, O24, v20) ⟨brk1 h hn40, (Stp.up hst26 rfl), hf21, hb18⟩ .nil
        · rintro ⟨c28, c31, O32, v29⟩ wd33 ⟨rfl, hst34, hf30, hb27⟩
          replace h := flowK_go hk37
          try dsimp only at h hst34 hf30 hb27
          refine (show At _ _ _ [] _ from ?_)
          refine At.inBlockHit ?_
          refine At.then ?_
          refine WC.seq ?_
          refine WC.region ?_
          refine WL.y (Y.assign rfl) rfl ?_
          refine WL.nil ?_
          refine At.then ?_
          refine WC.ret ?_
          obtain ⟨rfl, rfl⟩ := tup2 h
          have hs152 : Stp [3, 4] (Lg.OB b0 3 (Lg.OV v0_0 4 (Lg.O0 (fun _ => False)))) w O32 wd33 := (Stp.up hst34 rfl)
          exact At.res (.inl rfl) rfl (.tmp rfl .nil) ⟨v29, rfl, (Stp.modL hs152 (sB sV1) rfl rfl), (OwnSl.outG hf30 hs152 (lowB (lowV low0 rfl rfl) rfl rfl) (fun k hk => by unfold Lg.OB Lg.OV Lg.O0 at hk; (repeat' split at hk); all_goals first | assumption | exact absurd hk (by decide))), hb27.blk⟩

theorem c_bytes_Clone {A : Nat → Prop} {a0 : List UInt8} {v0 : Value} {w : World} (hs0 : Sl Rep.b w A v0 a0) {r0 : List UInt8} (h : bytes_Clone a0 = some r0) : Rets Try.prog 47 [v0] w (fun v w' => ∃ (u0 : Value), v = u0 ∧ Ext w w' ∧ RowF Rep.b 5 w w' u0 r0) := by
  unfold bytes_Clone at h
  refine Rets.enter Try.func47 rfl rfl ?_
  refine (show WC _ _ _ _ [(0, v0)] _ from ?_)
  refine WC.seq (WC.region (WL.y (Y.assign rfl) rfl (WL.nil (At.then ?_))))
  refine WC.seq (WC.seq (WC.region ?_))
  refine WL.y (Y.move rfl) rfl ?_
  rcases hs0.nilOr with ⟨rfl, rfl⟩ | ⟨q, n, c, rfl⟩
  · refine WL.y (Y.slnil (p := none) (n := 0) (c := 0) ty30.u rfl rfl) rfl (WL.nil (At.then ?_))
    refine WC.condT rfl (WC.seq (WC.region (WL.y (Y.assign rfl) rfl (WL.nil (At.then (WC.ret (At.thenR ?_)))))))
    have : r0 = [] := by simpa [app] using h.symm
    subst this
    exact At.res (.inl rfl) rfl (.tmp rfl .nil) ⟨_, rfl, Ext.refl w, RowF.nil⟩
  · refine WL.y (Y.slnil (p := some _) ty30.u rfl rfl) rfl (WL.nil (At.then ?_))
    refine WC.condF rfl (WC.skip (At.then ?_))
    refine WC.seq (WC.region ?_)
    have hs := hs0
    refine WL.buildSlice (O := Lg.O0 A) (R := Rep.b) (vals := []) 11 [] (xs := []) (by decide) ty30 ty5 (by decide) (by decide) (Fits.evalp rfl) (by kernel_rfl) rfl rfl rfl ?_
    intro v O1 w1 hst1 ho1
    refine WL.y (Y.move rfl) rfl ?_
    have hs1 := (Sl.start hs).mono (imm_st hst1 rfl rfl)
    refine WL.append (by decide) ty30 ty5 rfl (by decide) rfl rfl ho1 hs1.src h rfl ?_
    intro v2 O2 w2 hst2 ho2
    refine WL.y (Y.assign rfl) rfl (WL.nil (At.then (WC.ret ?_)))
    have hs9 : Stp [11] (Lg.O0 A) w O2 w2 := (Stp.trans (Stp.up hst1 rfl) hst2)
    exact At.res (.inl rfl) rfl (.tmp rfl .nil) ⟨_, rfl, Stp.ext hs9 rfl rfl, OwnSl.outF ho2 hs9 low0 rfl⟩

theorem c_bitio_Writer_Bytes {A : Nat → Prop} {v0_0 : Value} {a0 : bitio_Writer} {b0 : Nat} {w : World} (hs0_0 : Sl Rep.b w A v0_0 a0.b) (hb0 : w.heap[b0]? = some (.cells (List.toArray [v0_0, vi a0.n]) 73 (0, 0))) (hm0 : A b0) {r0 : List UInt8} (h : bitio_Writer_Bytes a0 = some r0) : Rets Try.prog 14 [.pointer (some ⟨b0, 0, none⟩)] w (fun v w' => ∃ (u0 : Value), v = u0 ∧ Ext w w' ∧ RowF Rep.b 5 w w' u0 r0) := by
  unfold bitio_Writer_Bytes at h
  refine Rets.enter Try.func14 rfl rfl ?_
  have hf11 : Sl Rep.b w (imm (Lg.O0 A)) v0_0 a0.b := (Sl.start hs0_0)
  have hb12 : Blk 0 (Lg.O0 A) w b0 73 [v0_0, vi a0.n] := ⟨(if_pos hm0), hb0⟩
  refine (show WC _ _ _ _ [(0, .pointer (some ⟨b0, 0, none⟩))] _ from ?_)
  refine WC.seq ?_
  refine WC.region ?_
  refine WL.y (Y.assign rfl) rfl ?_
  refine WL.nil ?_
  refine At.then ?_
  refine WC.seq ?_
  refine WC.region ?_
  refine WL.y (Y.move rfl) rfl ?_
  refine WL.y (Y.nilCheck rfl) rfl ?_
  refine WL.y (Y.fieldAddr fo73_0 rfl) rfl ?_
  refine WL.y (Y.loadSc ty30 rfl rfl (hb12.cell 0 _ rfl)) rfl ?_
  obtain ⟨r13, hp14, h⟩ := bnd h
  refine WL.call (vals := [v0_0]) kok47 rfl rfl (c_bytes_Clone (A := fun _ => True) (Sl.all hf11) hp14) ?_
  rintro vr19 wd18 ⟨_, rfl, hm17, f16⟩
  obtain ⟨O20, hold21, hnew22, hst23⟩ := adoptE (Lg.O0 A) (fun k => if Value.ownBlock vr19 = some k then 11 else 1) hm17
  have hf24 : OwnSl 11 Rep.b 5 O20 wd18 vr19 r13 := RowF.adopt 11 Flat.b f16 hnew22 (fun k hk => if_pos hk)
  refine WL.y (Y.assign rfl) rfl ?_
  refine WL.nil ?_
  refine At.then ?_
  refine WC.ret ?_
  obtain rfl := some1 h
  have hs25 : Stp [] (Lg.O0 A) w O20 wd18 := (Stp.up hst23 rfl)
  exact At.res (.inl rfl) rfl (.tmp rfl .nil) ⟨vr19, rfl, (Stp.ext hs25 rfl rfl), (OwnSl.outF hf24 hs25 low0 rfl)⟩

theorem c_bitio_NewReader {A : Nat → Prop} {a0 : List UInt8} {v0 : Value} {a1 : Int} {w : World} (hs0 : Sl Rep.b w A v0 a0) {r0 : Option bitio_Reader} {r1 : Int} (h : bitio_NewReader a0 a1 = some (r0, r1)) : Rets Try.prog 15 [v0, vi a1] w (fun v w' => ∃ (u0 : Value), v = .tuple (List.toArray [u0, vi r1]) ∧ Ext w w' ∧ OptP u0 r0 fun d => ∃ (p0 : Nat) (u0_0 : Value), u0 = .pointer (some ⟨p0, 0, none⟩) ∧ (w'.heap[p0]? = some (.cells (List.toArray [u0_0, vi d.n, vi d.at_]) 77 (0, 0)) ∧ w.heap.size ≤ p0) ∧ Sl Rep.b w' (fun k => w.heap.size ≤ k ∧ k ≠ p0) u0_0 d.b) := by
  unfold bitio_NewReader at h
  refine Rets.enter Try.func15 rfl rfl ?_
  have hf11 : Sl Rep.b w (imm (Lg.O0 A)) v0 a0 := (Sl.start hs0)
  refine (show WC _ _ _ _ [(0, v0), (1, vi a1)] _ from ?_)
  refine WC.seq ?_
  refine WC.region ?_
  refine WL.y (Y.assign rfl) rfl ?_
  refine WL.y (Y.assign rfl) rfl ?_
  refine WL.nil ?_
  refine At.then ?_
  refine WC.seq ?_
  refine WC.block ?_
  refine WC.seq ?_
  refine WC.region ?_
  refine WL.y (Y.move rfl) rfl ?_
  refine WL.y (Y.lss_i rfl rfl) rfl ?_
  obtain ⟨t12, ht12, h⟩ := lt1 h
  refine WL.yE (Y.assign rfl) (congrArg Value.bool ht12.symm) rfl ?_
  refine WL.nil ?_
  refine At.then ?_
  rcases cnd h with ⟨hc13, h⟩ | ⟨hc13, h⟩
  · refine WC.condT' rfl hc13 ?_
    refine WC.seq ?_
    refine WC.region ?_
    refine WL.y (Y.assign rfl) rfl ?_
    refine WL.y (Y.assign rfl) rfl ?_
    refine WL.nil ?_
    refine At.then ?_
    refine WC.ret ?_
    refine At.inBlockR ?_
    refine At.thenR ?_
    obtain ⟨rfl, rfl⟩ := tup2 h
    have hs14 : Stp [] (Lg.O0 A) w (Lg.O0 A) w := (Stp.refl _ _ _)
    exact At.res (.inl rfl) rfl (.tmp rfl (.tmp rfl .nil)) ⟨.pointer none, rfl, (Stp.ext hs14 rfl rfl), rfl⟩
  · refine WC.condF' rfl hc13 ?_
    refine WC.seq ?_
    refine WC.region ?_
    refine WL.y (Y.move rfl) rfl ?_
    refine WL.y (Y.len ty30 rfl hf11) rfl ?_
    refine WL.y (Y.move rfl) rfl ?_
    refine WL.y (Y.quo_i (by decide) rfl rfl) rfl ?_
    refine WL.y (Y.lss_i rfl rfl) rfl ?_
    refine WL.y (Y.move rfl) rfl ?_
    refine WL.cut 11 (σ := Unit) (fun _ w' => w = w') (fun _ => [(0, v0), (1, vi a1), (26, .bool ((decide ((a0.length : Int) < w64 (a1.tdiv 8))) || ((decide ((a0.length : Int) = w64 (a1.tdiv 8))) && (decide (0 < a1.tmod 8)))))]) ?_ ?_
    · refine WL.part 15 rfl (fun hE15 => ?_) (fun hE15 => ?_)
      · refine WL.gS rfl rfl rfl rfl ?_
        refine WL.gS rfl rfl rfl rfl ?_
        refine WL.gS rfl rfl rfl rfl ?_
        refine WL.gS rfl rfl rfl rfl ?_
        refine WL.gS rfl rfl rfl rfl ?_
        refine WL.gS rfl rfl rfl rfl ?_
        refine WL.gS rfl rfl rfl rfl ?_
        refine WL.gS rfl rfl rfl rfl ?_
        refine WL.gS rfl rfl rfl rfl ?_
        refine WL.gS rfl rfl rfl rfl ?_
        refine WL.y (Y.pick (b := true) rfl rfl) rfl ?_
        refine WL.ren (v' := .bool ((decide ((a0.length : Int) < w64 (a1.tdiv 8))) || ((decide ((a0.length : Int) = w64 (a1.tdiv 8))) && (decide (0 < a1.tmod 8))))) 26 rfl (congrArg Value.bool (orT hE15)) ?_
        exact WL.nil (At.join () rfl (.cons rfl (.cons rfl (.cons rfl .nil))))
      · refine WL.ung rfl rfl ?_
        refine WL.y (Y.move rfl) rfl ?_
        refine WL.ung rfl rfl ?_
        refine WL.y (Y.len ty30 rfl hf11) rfl ?_
        refine WL.ung rfl rfl ?_
        refine WL.y (Y.move rfl) rfl ?_
        refine WL.ung rfl rfl ?_
        refine WL.y (Y.quo_i (by decide) rfl rfl) rfl ?_
        refine WL.ung rfl rfl ?_
        refine WL.y (Y.eql_i rfl rfl) rfl ?_
        refine WL.ung rfl rfl ?_
        refine WL.y (Y.move rfl) rfl ?_
        refine WL.cut 4 (σ := Unit) (fun _ w' => w = w') (fun _ => [(0, v0), (1, vi a1), (15, .bool false), (25, .bool ((decide ((a0.length : Int) = w64 (a1.tdiv 8))) && (decide (0 < a1.tmod 8))))]) ?_ ?_
        · refine WL.part 21 rfl (fun hE16 => ?_) (fun hE16 => ?_)
          · refine WL.ung rfl rfl ?_
            refine WL.y (Y.move rfl) rfl ?_
            refine WL.ung rfl rfl ?_
            refine WL.y (Y.rem_i (by decide) rfl rfl) rfl ?_
            refine WL.ung rfl rfl ?_
            refine WL.y (Y.gtr_i rfl rfl) rfl ?_
            refine WL.ung rfl rfl ?_
            refine WL.y (Y.pick (b := true) rfl rfl) rfl ?_
            refine WL.ren (v' := .bool ((decide ((a0.length : Int) = w64 (a1.tdiv 8))) && (decide (0 < a1.tmod 8)))) 25 rfl (congrArg Value.bool (andT hE16)) ?_
            exact WL.nil (At.join () rfl (.cons rfl (.cons rfl (.cons rfl (.cons rfl .nil)))))
          · refine WL.gS rfl rfl rfl rfl ?_
            refine WL.gS rfl rfl rfl rfl ?_
            refine WL.gS rfl rfl rfl rfl ?_
            refine WL.ung rfl rfl ?_
            refine WL.y (Y.pick (b := false) rfl rfl) rfl ?_
            refine WL.ren (v' := .bool ((decide ((a0.length : Int) = w64 (a1.tdiv 8))) && (decide (0 < a1.tmod 8)))) 25 rfl (congrArg Value.bool (andF hE16)) ?_
            exact WL.nil (At.join () rfl (.cons rfl (.cons rfl (.cons rfl (.cons rfl .nil)))))
        · rintro _ _ rfl
          refine (show WL _ _ _ _ _ [(0, v0), (1, vi a1), (15, .bool false), (25, .bool ((decide ((a0.length : Int) = w64 (a1.tdiv 8))) && (decide (0 < a1.tmod 8))))] _ from ?_)
          refine WL.y (Y.pick (b := false) rfl rfl) rfl ?_
          refine WL.ren (v' := .bool ((decide ((a0.length : Int) < w64 (a1.tdiv 8))) || ((decide ((a0.length : Int) = w64 (a1.tdiv 8))) && (decide (0 < a1.tmod 8))))) 26 rfl (congrArg Value.bool (orF hE15)) ?_
          exact WL.nil (At.join () rfl (.cons rfl (.cons rfl (.cons rfl .nil))))
    · rintro _ _ rfl
      refine (show WL _ _ _ _ _ [(0, v0), (1, vi a1), (26, .bool ((decide ((a0.length : Int) < w64 (a1.tdiv 8))) || ((decide ((a0.length : Int) = w64 (a1.tdiv 8))) && (decide (0 < a1.tmod 8)))))] _ from ?_)
      obtain ⟨t17, ht17, h⟩ := lt1 h
      refine WL.yE (Y.assign rfl) (congrArg Value.bool ht17.symm) rfl ?_
      refine WL.nil ?_
      refine At.then ?_
      rcases cnd h with ⟨hc18, h⟩ | ⟨hc18, h⟩
      · refine WC.condT' rfl hc18 ?_
        refine WC.seq ?_
        refine WC.region ?_
        refine WL.y (Y.assign rfl) rfl ?_
        refine WL.y (Y.assign rfl) rfl ?_
        refine WL.nil ?_
        refine At.then ?_
        refine WC.ret ?_
        refine At.inBlockR ?_
        refine At.thenR ?_
        obtain ⟨rfl, rfl⟩ := tup2 h
        have hs19 : Stp [] (Lg.O0 A) w (Lg.O0 A) w := (Stp.refl _ _ _)
        exact At.res (.inl rfl) rfl (.tmp rfl (.tmp rfl .nil)) ⟨.pointer none, rfl, (Stp.ext hs19 rfl rfl), rfl⟩
      · refine WC.condF' rfl hc18 ?_
        refine WC.seq ?_
        refine WC.region ?_
        refine WL.y (Y.move rfl) rfl ?_
        refine WL.y (Y.len ty30 rfl hf11) rfl ?_
        refine WL.y (Y.move rfl) rfl ?_
        refine WL.y (Y.add_i rfl rfl) rfl ?_
        refine WL.y (Y.quo_i (by decide) rfl rfl) rfl ?_
        refine WL.y (Y.gtr_i rfl rfl) rfl ?_
        obtain ⟨t20, ht20, h⟩ := lt1 h
        refine WL.yE (Y.assign rfl) (congrArg Value.bool ht20.symm) rfl ?_
        refine WL.nil ?_
        refine At.then ?_
        rcases cnd h with ⟨hc21, h⟩ | ⟨hc21, h⟩
        · refine WC.condT' rfl hc21 ?_
          refine WC.seq ?_
          refine WC.region ?_
          refine WL.y (Y.assign rfl) rfl ?_
          refine WL.y (Y.assign rfl) rfl ?_
          refine WL.nil ?_
          refine At.then ?_
          refine WC.ret ?_
          refine At.inBlockR ?_
          refine At.thenR ?_
          obtain ⟨rfl, rfl⟩ := tup2 h
          have hs22 : Stp [] (Lg.O0 A) w (Lg.O0 A) w := (Stp.refl _ _ _)
          exact At.res (.inl rfl) rfl (.tmp rfl (.tmp rfl .nil)) ⟨.pointer none, rfl, (Stp.ext hs22 rfl rfl), rfl⟩
        · refine WC.condF' rfl hc21 ?_
          refine WC.seq ?_
          refine WC.region ?_
          refine WL.y (Y.move rfl) rfl ?_
          refine WL.y (Y.rem_i (by decide) rfl rfl) rfl ?_
          refine WL.y (Y.gtr_i rfl rfl) rfl ?_
          refine WL.y (Y.move rfl) rfl ?_
          obtain ⟨p24, h, hk25⟩ := bnd h
          refine WL.cut 11 (σ := Bool) (fun x w' => x = p24 ∧ w = w') (fun x => [(0, v0), (1, vi a1), (49, .bool x)]) ?_ ?_
          · rcases cnd h with ⟨hE26, h⟩ | ⟨hE26, h⟩
            · refine WL.ren 38 rfl (congrArg Value.bool hE26) ?_
              refine WL.ung rfl rfl ?_
              refine WL.y (Y.move rfl) rfl ?_
              refine WL.ung rfl rfl ?_
              refine WL.y (Y.move rfl) rfl ?_
              refine WL.ung rfl rfl ?_
              refine WL.y (Y.quo_i (by decide) rfl rfl) rfl ?_
              refine WL.ung rfl rfl ?_
              obtain ⟨e27, he27, h⟩ := bnd h
              obtain ⟨b28, off36, cap35, cs34, hv29, hi30, hl31, hc32, hok33, hA37⟩ := Sl.at2 hf11 he27
              obtain rfl := hok33
              replace hc32 : CellsAt _ _ _ [vb e27] := hc32
              have hca38 := CAt.imm hc32 hA37
              refine WL.y (Y.indexAddr ty30 ty5 rfl hv29 rfl hi30 hl31) rfl ?_
              refine WL.ung rfl rfl ?_
              refine WL.y (Y.loadSc ty5 rfl rfl hca38.at_) rfl ?_
              refine WL.ung rfl rfl ?_
              refine WL.y (Y.move rfl) rfl ?_
              refine WL.ung rfl rfl ?_
              refine WL.y (Y.rem_i (by decide) rfl rfl) rfl ?_
              refine WL.ung rfl rfl ?_
              refine WL.y (Y.conv_iu ty3.u ty74.u rfl) rfl ?_
              refine WL.ung rfl rfl ?_
              refine WL.y (Y.shl_bu rfl rfl) rfl ?_
              refine WL.ung rfl rfl ?_
              refine WL.y (Y.neq_b (b := 0) rfl rfl) rfl ?_
              refine WL.y (Y.pick (b := true) rfl rfl) rfl ?_
              exact WL.nil (At.join (σ := Bool) (!decide (shlB e27 ((toU64 (a1.tmod 8)).toNat) = 0)) ⟨some1 h, rfl⟩ (.cons rfl (.cons rfl (.cons rfl .nil))))
            · refine WL.ren 38 rfl (congrArg Value.bool hE26) ?_
              refine WL.gS rfl rfl rfl rfl ?_
              refine WL.gS rfl rfl rfl rfl ?_
              refine WL.gS rfl rfl rfl rfl ?_
              refine WL.gS rfl rfl rfl rfl ?_
              refine WL.gS rfl rfl rfl rfl ?_
              refine WL.gS rfl rfl rfl rfl ?_
              refine WL.gS rfl rfl rfl rfl ?_
              refine WL.gS rfl rfl rfl rfl ?_
              refine WL.gS rfl rfl rfl rfl ?_
              refine WL.gS rfl rfl rfl rfl ?_
              refine WL.y (Y.pick (b := false) rfl rfl) rfl ?_
              exact WL.nil (At.join (σ := Bool) false ⟨some1 h, rfl⟩ (.cons rfl (.cons rfl (.cons rfl .nil))))
          · rintro x23 _ ⟨rfl, rfl⟩
            replace h := hk25
            try dsimp only at h
            refine (show WL _ _ _ _ _ [(0, v0), (1, vi a1), (49, .bool x23)] _ from ?_)
            refine WL.y (Y.assign rfl) rfl ?_
            refine WL.nil ?_
            refine At.then ?_
            rcases cnd h with ⟨hc39, h⟩ | ⟨hc39, h⟩
            · refine WC.condT' rfl hc39 ?_
              refine WC.seq ?_
              refine WC.region ?_
              refine WL.y (Y.assign rfl) rfl ?_
              refine WL.y (Y.assign rfl) rfl ?_
              refine WL.nil ?_
              refine At.then ?_
              refine WC.ret ?_
              refine At.inBlockR ?_
              refine At.thenR ?_
              obtain ⟨rfl, rfl⟩ := tup2 h
              have hs40 : Stp [] (Lg.O0 A) w (Lg.O0 A) w := (Stp.refl _ _ _)
              exact At.res (.inl rfl) rfl (.tmp rfl (.tmp rfl .nil)) ⟨.pointer none, rfl, (Stp.ext hs40 rfl rfl), rfl⟩
            · refine WC.condF' rfl hc39 ?_
              refine WC.skip ?_
              refine At.inBlock ?_
              refine At.then ?_
              refine WC.seq ?_
              refine WC.region ?_
              refine WL.y (Y.move rfl) rfl ?_
              obtain ⟨r41, hp42, h⟩ := bnd h
              refine WL.call (vals := [v0]) kok47 rfl rfl (c_bytes_Clone (A := fun _ => True) (Sl.all hf11) hp42) ?_
              rintro vr47 wd46 ⟨_, rfl, hm45, f44⟩
              obtain ⟨O48, hold49, hnew50, hst51⟩ := adoptE (Lg.O0 A) (fun k => if Value.ownBlock vr47 = some k then 11 else 1) hm45
              have hf52 : OwnSl 11 Rep.b 5 O48 wd46 vr47 r41 := RowF.adopt 11 Flat.b f44 hnew50 (fun k hk => if_pos hk)
              refine WL.y (Y.move rfl) rfl ?_
              have hh56 := h
              obtain ⟨p53, m54, c55, rfl⟩ := hf52.shape
              have h := hh56
              refine WL.y (Y.build (vals := [(0, (.slice p53 m54 c55)), (1, vi a1)]) (cells := [(.slice p53 m54 c55), vi a1, vi 0]) (Fits.evalp rfl) (by kernel_rfl)) rfl ?_
              refine WL.box (O := O48) 12 [(.slice p53 m54 c55), vi a1, vi 0] rfl rfl rfl ?_
              intro p58 O59 wd60 hst61 hb57
              refine WL.y (Y.assign rfl) rfl ?_
              refine WL.y (Y.assign rfl) rfl ?_
              refine WL.nil ?_
              refine At.then ?_
              refine WC.ret ?_
              obtain ⟨rfl, rfl⟩ := tup2 h
              have hf62 := hf52.st hst61 rfl rfl rfl
              obtain ⟨O63, hst64, hf65⟩ := OwnSl.giveF rfl Flat.b hf62
              have hs66 : Stp [11] (Lg.O0 A) w O63 wd60 := (Stp.trans (Stp.up hst51 rfl) (Stp.trans (Stp.up hst61 rfl) (Stp.up hst64 rfl)))
              have hf67 := hb57.st hst64 rfl
              exact At.res (.inl rfl) rfl (.tmp rfl (.tmp rfl .nil)) ⟨.pointer (some ⟨p58, 0, none⟩), rfl, (Stp.ext hs66 rfl rfl), ⟨p58, (.slice p53 m54 c55), rfl, (Blk.outF hf67 hs66 low0 rfl), (Sl.outFN hf65 hs66 low0 hf67.lab rfl)⟩⟩

theorem c_bitio_Writer_Len {A : Nat → Prop} {v0_0 : Value} {a0 : bitio_Writer} {b0 : Nat} {w : World} (hs0_0 : Sl Rep.b w A v0_0 a0.b) (hb0 : w.heap[b0]? = some (.cells (List.toArray [v0_0, vi a0.n]) 73 (0, 0))) (hm0 : A b0) {r0 : Int} (h : bitio_Writer_Len a0 = some r0) : Rets Try.prog 16 [.pointer (some ⟨b0, 0, none⟩)] w (fun v w' => v = vi r0 ∧ Ext w w') := by
  unfold bitio_Writer_Len at h
  refine Rets.enter Try.func16 rfl rfl ?_
  have hf11 : Sl Rep.b w (imm (Lg.O0 A)) v0_0 a0.b := (Sl.start hs0_0)
  have hb12 : Blk 0 (Lg.O0 A) w b0 73 [v0_0, vi a0.n] := ⟨(if_pos hm0), hb0⟩
  refine (show WC _ _ _ _ [(0, .pointer (some ⟨b0, 0, none⟩))] _ from ?_)
  refine WC.seq ?_
  refine WC.region ?_
  refine WL.y (Y.assign rfl) rfl ?_
  refine WL.nil ?_
  refine At.then ?_
  refine WC.seq ?_
  refine WC.region ?_
  refine WL.y (Y.move rfl) rfl ?_
  refine WL.y (Y.nilCheck rfl) rfl ?_
  refine WL.y (Y.fieldAddr fo73_1 rfl) rfl ?_
  refine WL.y (Y.loadSc ty3 rfl rfl (hb12.cell 1 _ rfl)) rfl ?_
  refine WL.y (Y.assign rfl) rfl ?_
  refine WL.nil ?_
  refine At.then ?_
  refine WC.ret ?_
  obtain rfl := some1 h
  have hs13 : Stp [] (Lg.O0 A) w (Lg.O0 A) w := (Stp.refl _ _ _)
  exact At.res (.inl rfl) rfl (.tmp rfl .nil) ⟨rfl, (Stp.ext hs13 rfl rfl)⟩

theorem c_bitio_Reader_Left {A : Nat → Prop} {v0_0 : Value} {a0 : bitio_Reader} {b0 : Nat} {w : World} (hs0_0 : Sl Rep.b w A v0_0 a0.b) (hb0 : w.heap[b0]? = some (.cells (List.toArray [v0_0, vi a0.n, vi a0.at_]) 77 (0, 0))) (hm0 : A b0) {r0 : Int} (h : bitio_Reader_Left a0 = some r0) : Rets Try.prog 18 [.pointer (some ⟨b0, 0, none⟩)] w (fun v w' => v = vi r0 ∧ Ext w w') := by
  unfold bitio_Reader_Left at h
  refine Rets.enter Try.func18 rfl rfl ?_
  have hf11 : Sl Rep.b w (imm (Lg.O0 A)) v0_0 a0.b := (Sl.start hs0_0)
  have hb12 : Blk 0 (Lg.O0 A) w b0 77 [v0_0, vi a0.n, vi a0.at_] := ⟨(if_pos hm0), hb0⟩
  refine (show WC _ _ _ _ [(0, .pointer (some ⟨b0, 0, none⟩))] _ from ?_)
  refine WC.seq ?_
  refine WC.region ?_
  refine WL.y (Y.assign rfl) rfl ?_
  refine WL.nil ?_
  refine At.then ?_
  refine WC.seq ?_
  refine WC.draw 9 (Lg.O0 A) fmix (by kernel_rfl) ?_
  intro wd13 hst14
  refine WS.y (Y.move rfl) rfl ?_
  refine WS.y (Y.nilCheck rfl) rfl ?_
  refine WS.y (Y.fieldAddr fo77_1 rfl) rfl ?_
  have hf15 := hb12.st hst14 rfl
  refine WS.y (Y.loadSc ty3 rfl rfl (hf15.cell 1 _ rfl)) rfl ?_
  refine WS.y (Y.move rfl) rfl ?_
  refine WS.y (Y.nilCheck rfl) rfl ?_
  refine WS.y (Y.fieldAddr fo77_2 rfl) rfl ?_
  refine WS.y (Y.loadSc ty3 rfl rfl (hf15.cell 2 _ rfl)) rfl ?_
  refine WS.y (Y.sub_i rfl rfl) rfl ?_
  refine WS.tail ?_
  obtain ⟨t16, ht16, h⟩ := lt1 h
  refine WL.yE (Y.assign rfl) (congrArg vi ht16.symm) rfl ?_
  refine WL.nil ?_
  refine At.then ?_
  refine WC.ret ?_
  obtain rfl := some1 h
  have hs17 : Stp [] (Lg.O0 A) w (Lg.O0 A) wd13 := (Stp.up hst14 rfl)
  exact At.res (.inl rfl) rfl (.tmp rfl .nil) ⟨rfl, (Stp.ext hs17 rfl rfl)⟩

theorem c_bitio_Reader_Look {A : Nat → Prop} {v0_0 : Value} {a0 : bitio_Reader} {b0 : Nat} {a1 : Int} {w : World} (hs0_0 : Sl Rep.b w A v0_0 a0.b) (hb0 : w.heap[b0]? = some (.cells (List.toArray [v0_0, vi a0.n, vi a0.at_]) 77 (0, 0))) (hm0 : A b0) {r0 : UInt64} {r1 : Bool} (h : bitio_Reader_Look a0 a1 = some (r0, r1)) : Rets Try.prog 23 [.pointer (some ⟨b0, 0, none⟩), vi a1] w (fun v w' => v = .tuple (List.toArray [vu r0, .bool r1]) ∧ Ext w w') := by
  unfold bitio_Reader_Look at h
  refine Rets.enter Try.func23 rfl rfl ?_
  have hf11 : Sl Rep.b w (imm (Lg.O0 A)) v0_0 a0.b := (Sl.start hs0_0)
  have hb12 : Blk 0 (Lg.O0 A) w b0 77 [v0_0, vi a0.n, vi a0.at_] := ⟨(if_pos hm0), hb0⟩
  refine (show WC _ _ _ _ [(0, .pointer (some ⟨b0, 0, none⟩)), (1, vi a1)] _ from ?_)
  refine WC.seq ?_
  refine WC.region ?_
  refine WL.y (Y.assign (v := vu 0) rfl) rfl ?_
  refine WL.y (Y.assign rfl) rfl ?_
  refine WL.nil ?_
  refine At.then ?_
  refine WC.seq ?_
  refine WC.seq ?_
  refine WC.region ?_
  refine WL.y (Y.move rfl) rfl ?_
  refine WL.y (Y.lss_i rfl rfl) rfl ?_
  refine WL.y (Y.move rfl) rfl ?_
  refine WL.cut 3 (σ := Unit) (fun _ w' => w = w') (fun _ => [(0, .pointer (some ⟨b0, 0, none⟩)), (1, vi a1), (16, .bool ((decide (a1 < 0)) || (decide (64 < a1))))]) ?_ ?_
  · refine WL.part 13 rfl (fun hE13 => ?_) (fun hE13 => ?_)
    · refine WL.gS rfl rfl rfl rfl ?_
      refine WL.gS rfl rfl rfl rfl ?_
      refine WL.y (Y.pick (b := true) rfl rfl) rfl ?_
      refine WL.ren (v' := .bool ((decide (a1 < 0)) || (decide (64 < a1)))) 16 rfl (congrArg Value.bool (orT hE13)) ?_
      exact WL.nil (At.join () rfl (.cons rfl (.cons rfl (.cons rfl .nil))))
    · refine WL.ung rfl rfl ?_
      refine WL.y (Y.move rfl) rfl ?_
      refine WL.ung rfl rfl ?_
      refine WL.y (Y.gtr_i rfl rfl) rfl ?_
      refine WL.y (Y.pick (b := false) rfl rfl) rfl ?_
      refine WL.ren (v' := .bool ((decide (a1 < 0)) || (decide (64 < a1)))) 16 rfl (congrArg Value.bool (orF hE13)) ?_
      exact WL.nil (At.join () rfl (.cons rfl (.cons rfl (.cons rfl .nil))))
  · rintro _ _ rfl
    refine (show WL _ _ _ _ _ [(0, .pointer (some ⟨b0, 0, none⟩)), (1, vi a1), (16, .bool ((decide (a1 < 0)) || (decide (64 < a1))))] _ from ?_)
    refine WL.y (Y.move rfl) rfl ?_
    obtain ⟨p18, h, hk19⟩ := bnd h
    refine WL.cut 5 (σ := (Bool × Own)) (fun x w' => x.1 = p18 ∧ Stp [] (Lg.O0 A) w x.2 w') (fun x => [(0, .pointer (some ⟨b0, 0, none⟩)), (1, vi a1), (22, .bool x.1)]) ?_ ?_
    · rcases cnd h with ⟨hE20, h⟩ | ⟨hE20, h⟩
      · refine WL.ren 17 rfl (congrArg Value.bool hE20) ?_
        refine WL.gS rfl rfl rfl rfl ?_
        refine WL.gS rfl rfl rfl rfl ?_
        refine WL.gS rfl rfl rfl rfl ?_
        refine WL.gS rfl rfl rfl rfl ?_
        refine WL.y (Y.pick (b := true) rfl rfl) rfl ?_
        exact WL.nil (At.join (σ := (Bool × Own)) (true, (Lg.O0 A)) ⟨some1 h, (Stp.refl _ _ _)⟩ (.cons rfl (.cons rfl (.cons rfl .nil))))
      · refine WL.ren 17 rfl (congrArg Value.bool hE20) ?_
        refine WL.ung rfl rfl ?_
        refine WL.y (Y.move rfl) rfl ?_
        refine WL.ung rfl rfl ?_
        refine WL.y (Y.move rfl) rfl ?_
        refine WL.ung rfl rfl ?_
        obtain ⟨r21, hp22, h⟩ := bnd h
        refine WL.call (vals := [.pointer (some ⟨b0, 0, none⟩)]) kok18 rfl rfl (c_bitio_Reader_Left (A := fun _ => True) (a0 := a0) (Sl.all hf11) hb12.blk trivial hp22) ?_
        rintro vr25 wd24 ⟨rfl, hm23⟩
        obtain ⟨O26, hold27, hnew28, hst29⟩ := adoptE (Lg.O0 A) (fun k => 1) hm23
        refine WL.ung rfl rfl ?_
        refine WL.y (Y.gtr_i rfl rfl) rfl ?_
        refine WL.y (Y.pick (b := false) rfl rfl) rfl ?_
        exact WL.nil (At.join (σ := (Bool × Own)) (decide (r21 < a1), O26) ⟨some1 h, (Stp.up hst29 rfl)⟩ (.cons rfl (.cons rfl (.cons rfl .nil))))
    · rintro ⟨x14, O15⟩ wd16 ⟨rfl, hst17⟩
      replace h := hk19
      try dsimp only at h hst17
      refine (show WL _ _ _ _ _ [(0, .pointer (some ⟨b0, 0, none⟩)), (1, vi a1), (22, .bool x14)] _ from ?_)
      refine WL.nil ?_
      refine At.then ?_
      rcases cnd h with ⟨hc30, h⟩ | ⟨hc30, h⟩
      · refine WC.condT' rfl hc30 ?_
        refine WC.seq ?_
        refine WC.region ?_
        refine WL.y (Y.assign (v := vu 0) rfl) rfl ?_
        refine WL.y (Y.assign rfl) rfl ?_
        refine WL.nil ?_
        refine At.then ?_
        refine WC.ret ?_
        refine At.thenR ?_
        obtain ⟨rfl, rfl⟩ := tup2 h
        have hs31 : Stp [] (Lg.O0 A) w O15 wd16 := (Stp.up hst17 rfl)
        exact At.res (.inl rfl) rfl (.tmp rfl (.tmp rfl .nil)) ⟨rfl, (Stp.ext hs31 rfl rfl)⟩
      · refine WC.condF' rfl hc30 ?_
        refine WC.skip ?_
        refine At.then ?_
        refine WC.seq ?_
        refine WC.region ?_
        refine WL.y (Y.assign (v := vu 0) rfl) rfl ?_
        refine WL.nil ?_
        refine At.then ?_
        refine WC.seq ?_
        refine WC.seq ?_
        refine WC.region ?_
        refine WL.y (Y.move rfl) rfl ?_
        refine WL.y (Y.nilCheck rfl) rfl ?_
        refine WL.y (Y.fieldAddr fo77_2 rfl) rfl ?_
        have hf32 := hb12.st hst17 rfl
        refine WL.y (Y.loadSc ty3 rfl rfl (hf32.cell 2 _ rfl)) rfl ?_
        refine WL.y (Y.assign rfl) rfl ?_
        refine WL.nil ?_
        refine At.then ?_
        refine WC.block ?_
        obtain ⟨p37, h, hk39⟩ := flow1 h
        obtain ⟨k38, h⟩ := loop_some h
        refine WC.joinB 0 (σ := UInt64) (fun x w' => p37 = .go x ∧ wd16 = w') (fun x => [(6, vu x)]) ?_ ?_
        · refine WC.loop (σ := (Int × UInt64 × Int)) (fun x k w' => loopN k (bitio_Reader_Look_lp1 a0) (x.1, x.2.1, x.2.2) = some p37 ∧ wd16 = w') (fun x => [(0, .pointer (some ⟨b0, 0, none⟩)), (1, vi x.1), (6, vu x.2.1), (7, vi x.2.2)]) (a1, 0, a0.at_) k38 (.cons rfl (.cons rfl (.cons rfl (.cons rfl .nil)))) ⟨h, rfl⟩ ?_
          rintro ⟨nv33, v34, at35⟩ k38 _ ⟨h, rfl⟩
          obtain ⟨j40, q41, rfl, h, hn42⟩ := rnd1 h
          unfold bitio_Reader_Look_lp1 at h
          try dsimp only at h
          refine (show WC _ _ _ _ [(0, .pointer (some ⟨b0, 0, none⟩)), (1, vi nv33), (6, vu v34), (7, vi at35)] _ from ?_)
          refine WC.seq ?_
          refine WC.seq ?_
          refine WC.region ?_
          refine WL.y (Y.move rfl) rfl ?_
          refine WL.y (Y.gtr_i rfl rfl) rfl ?_
          refine WL.nil ?_
          refine At.then ?_
          rcases cnd h with ⟨hc43, h⟩ | ⟨hc43, h⟩
          · refine WC.condT' rfl hc43 ?_
            refine WC.skip ?_
            refine At.then ?_
            refine WC.block ?_
            refine WC.seq ?_
            refine WC.region ?_
            refine WL.y (Y.move rfl) rfl ?_
            refine WL.y (Y.rem_i (by decide) rfl rfl) rfl ?_
            refine WL.y (Y.sub_i rfl rfl) rfl ?_
            obtain ⟨free44, hfree44, h⟩ := lt1 h
            refine WL.yE (Y.assign rfl) (congrArg vi hfree44.symm) rfl ?_
            refine WL.nil ?_
            refine At.then ?_
            refine WC.seq ?_
            refine WC.region ?_
            refine WL.y (Y.move rfl) rfl ?_
            refine WL.y (Y.move rfl) rfl ?_
            refine WL.y (Y.min_i rfl rfl) rfl ?_
            obtain ⟨k45, hk45, h⟩ := lt1 h
            refine WL.yE (Y.assign rfl) (congrArg vi hk45.symm) rfl ?_
            refine WL.nil ?_
            refine At.then ?_
            refine WC.seq ?_
            refine WC.region ?_
            refine WL.y (Y.move rfl) rfl ?_
            refine WL.y (Y.nilCheck rfl) rfl ?_
            refine WL.y (Y.fieldAddr fo77_0 rfl) rfl ?_
            refine WL.y (Y.loadSc ty30 rfl rfl (hf32.cell 0 _ rfl)) rfl ?_
            refine WL.y (Y.move rfl) rfl ?_
            refine WL.y (Y.quo_i (by decide) rfl rfl) rfl ?_
            obtain ⟨e46, he46, h⟩ := bnd h
            have hf55 := hf11.mono (imm_st hst17 rfl rfl)
            obtain ⟨b47, off56, cap54, cs53, hv48, hi49, hl50, hc51, hok52, hA57⟩ := Sl.at2 hf55 he46
            obtain rfl := hok52
            replace hc51 : CellsAt _ _ _ [vb e46] := hc51
            have hca58 := CAt.imm hc51 hA57
            refine WL.y (Y.indexAddr ty30 ty5 rfl hv48 rfl hi49 hl50) rfl ?_
            refine WL.y (Y.loadSc ty5 rfl rfl hca58.at_) rfl ?_
            refine WL.y (Y.move rfl) rfl ?_
            refine WL.y (Y.move rfl) rfl ?_
            refine WL.y (Y.sub_i rfl rfl) rfl ?_
            refine WL.y (Y.conv_iu ty3.u ty74.u rfl) rfl ?_
            refine WL.y (Y.shr_bu rfl rfl) rfl ?_
            refine WL.y (Y.move rfl) rfl ?_
            refine WL.y (Y.conv_iu ty3.u ty74.u rfl) rfl ?_
            refine WL.y (Y.shl_bu (a := 1) rfl rfl) rfl ?_
            refine WL.y (Y.sub_b (b := 1) rfl rfl) rfl ?_
            refine WL.y (Y.and_b rfl rfl) rfl ?_
            obtain ⟨piece59, hpiece59, h⟩ := lt1 h
            refine WL.yE (Y.assign rfl) (congrArg vb hpiece59.symm) rfl ?_
            refine WL.nil ?_
            refine At.then ?_
            refine WC.seq ?_
            refine WC.region ?_
            refine WL.y (Y.move rfl) rfl ?_
            refine WL.y (Y.move rfl) rfl ?_
            refine WL.y (Y.conv_iu ty3.u ty74.u rfl) rfl ?_
            refine WL.y (Y.shl_uu rfl rfl) rfl ?_
            refine WL.y (Y.move rfl) rfl ?_
            refine WL.y (Y.conv_bu ty5.u ty29.u rfl) rfl ?_
            refine WL.y (Y.or_u rfl rfl) rfl ?_
            obtain ⟨v60, hv60, h⟩ := lt1 h
            refine WL.yE (Y.assign rfl) (congrArg vu hv60.symm) rfl ?_
            refine WL.nil ?_
            refine At.then ?_
            refine WC.seq ?_
            refine WC.region ?_
            refine WL.y (Y.move rfl) rfl ?_
            refine WL.y (Y.move rfl) rfl ?_
            refine WL.y (Y.add_i rfl rfl) rfl ?_
            obtain ⟨at61, hat61, h⟩ := lt1 h
            refine WL.yE (Y.assign rfl) (congrArg vi hat61.symm) rfl ?_
            refine WL.nil ?_
            refine At.then ?_
            refine WC.region ?_
            refine WL.y (Y.move rfl) rfl ?_
            refine WL.y (Y.move rfl) rfl ?_
            refine WL.y (Y.sub_i rfl rfl) rfl ?_
            obtain ⟨nv62, hnv62, h⟩ := lt1 h
            refine WL.yE (Y.assign rfl) (congrArg vi hnv62.symm) rfl ?_
            refine WL.nil ?_
            refine At.inBlock ?_
            exact At.round (nv62, v60, at61) j40 (Nat.lt_succ_self _) ⟨next1 h hn42, rfl⟩ (.cons rfl (.cons rfl (.cons rfl (.cons rfl .nil))))
          · refine WC.condF' rfl hc43 ?_
            refine WC.exit ?_
            refine At.thenX ?_
            refine At.loopX ?_
            exact At.hitB (σ := UInt64) v34 ⟨brk1 h hn42, rfl⟩ (.cons rfl .nil)
        · rintro v36 _ ⟨rfl, rfl⟩
          replace h := flowK_go hk39
          try dsimp only at h
          refine (show At _ _ _ [(6, vu v36)] _ from ?_)
          refine At.inBlockHit ?_
          refine At.then ?_
          refine WC.seq ?_
          refine WC.region ?_
          refine WL.y (Y.move rfl) rfl ?_
          refine WL.y (Y.assign rfl) rfl ?_
          refine WL.y (Y.assign rfl) rfl ?_
          refine WL.nil ?_
          refine At.then ?_
          refine WC.ret ?_
          obtain ⟨rfl, rfl⟩ := tup2 h
          have hs63 : Stp [] (Lg.O0 A) w O15 wd16 := (Stp.up hst17 rfl)
          exact At.res (.inl rfl) rfl (.tmp rfl (.tmp rfl .nil)) ⟨rfl, (Stp.ext hs63 rfl rfl)⟩

theorem c_bitio_Reader_Take {A : Nat → Prop} {v0_0 : Value} {a0 : bitio_Reader} {b0 : Nat} {a1 : Int} {w : World} (hs0_0 : Sl Rep.b w A v0_0 a0.b) (hb0 : w.heap[b0]? = some (.cells (List.toArray [v0_0, vi a0.n, vi a0.at_]) 77 (0, 0))) (hA : ∀ k, A k → k ≠ b0) {r0 : UInt64} {r1 : Bool} {q0 : bitio_Reader} (h : bitio_Reader_Take a0 a1 = some (r0, r1, q0)) : Rets Try.prog 17 [.pointer (some ⟨b0, 0, none⟩), vi a1] w (fun v w' => ∃ (z0_0 : Value), v = .tuple (List.toArray [vu r0, .bool r1]) ∧ Mod (fun k => k = b0) w w' ∧ Sl Rep.b w' (fun k => A k ∨ w.heap.size ≤ k) z0_0 q0.b ∧ w'.heap[b0]? = some (.cells (List.toArray [z0_0, vi q0.n, vi q0.at_]) 77 (0, 0))) := by
  unfold bitio_Reader_Take at h
  refine Rets.enter Try.func17 rfl rfl ?_
  have hf11 : Sl Rep.b w (imm (Lg.OB b0 3 (Lg.O0 A))) v0_0 a0.b := (Sl.OB (Sl.start hs0_0) (fun k hk => (hA k (O0_A k hk))))
  have hb12 : Blk 3 (Lg.OB b0 3 (Lg.O0 A)) w b0 77 [v0_0, vi a0.n, vi a0.at_] := ⟨(if_pos rfl), hb0⟩
  refine (show WC _ _ _ _ [(0, .pointer (some ⟨b0, 0, none⟩)), (1, vi a1)] _ from ?_)
  refine WC.seq ?_
  refine WC.region ?_
  refine WL.y (Y.assign (v := vu 0) rfl) rfl ?_
  refine WL.y (Y.assign rfl) rfl ?_
  refine WL.nil ?_
  refine At.then ?_
  refine WC.seq ?_
  refine WC.region ?_
  refine WL.y (Y.move rfl) rfl ?_
  refine WL.y (Y.move rfl) rfl ?_
  obtain ⟨⟨r13, r14⟩, hp15, h⟩ := bnd h
  refine WL.call (vals := [.pointer (some ⟨b0, 0, none⟩), vi a1]) kok23 rfl rfl (c_bitio_Reader_Look (A := fun _ => True) (a0 := a0) (Sl.all hf11) hb12.blk trivial hp15) ?_
  rintro vr18 wd17 ⟨rfl, hm16⟩
  obtain ⟨O19, hold20, hnew21, hst22⟩ := adoptE (Lg.OB b0 3 (Lg.O0 A)) (fun k => 1) hm16
  refine WL.y (Y.move rfl) rfl ?_
  refine WL.y (Y.extract rfl rfl) rfl ?_
  refine WL.y (Y.extract rfl rfl) rfl ?_
  refine WL.y (Y.assign rfl) rfl ?_
  refine WL.y (Y.assign rfl) rfl ?_
  refine WL.nil ?_
  refine At.then ?_
  refine WC.seq ?_
  refine WC.seq ?_
  refine WC.region ?_
  refine WL.y (Y.move rfl) rfl ?_
  refine WL.nil ?_
  refine At.then ?_
  rcases cnd h with ⟨hc23, h⟩ | ⟨hc23, h⟩
  · refine WC.condT' rfl hc23 ?_
    refine WC.region ?_
    refine WL.y (Y.move rfl) rfl ?_
    refine WL.y (Y.nilCheck rfl) rfl ?_
    refine WL.y (Y.fieldAddr fo77_2 rfl) rfl ?_
    have hf24 := hb12.st hst22 rfl
    refine WL.y (Y.loadSc ty3 rfl rfl (hf24.cell 2 _ rfl)) rfl ?_
    refine WL.y (Y.move rfl) rfl ?_
    refine WL.y (Y.add_i rfl rfl) rfl ?_
    refine WL.y (Y.nilCheck rfl) rfl ?_
    refine WL.y (Y.fieldAddr fo77_2 rfl) rfl ?_
    obtain ⟨t25, ht25, h⟩ := lt1 h
    refine WL.ren 20 rfl (congrArg vi ht25.symm) ?_
    refine WL.store (v := vi t25) (cells' := [v0_0, vi a0.n, vi t25]) ty3 rfl rfl hf24 rfl (Nat.le_of_ble_eq_true rfl) rfl rfl ?_
    intro wd26 hst27 hb28
    refine WL.nil ?_
    refine At.then ?_
    refine WC.seq ?_
    refine WC.region ?_
    refine WL.y (Y.move rfl) rfl ?_
    refine WL.y (Y.move rfl) rfl ?_
    refine WL.y (Y.assign rfl) rfl ?_
    refine WL.y (Y.assign rfl) rfl ?_
    refine WL.nil ?_
    refine At.then ?_
    refine WC.ret ?_
    obtain ⟨rfl, rfl, rfl⟩ := tup3 h
    have hs29 : Stp [3] (Lg.OB b0 3 (Lg.O0 A)) w O19 wd26 := (Stp.trans (Stp.up hst22 rfl) (Stp.up hst27 rfl))
    have hf30 := hf11.mono (imm_st hst22 rfl rfl)
    have hf31 := hf30.mono (imm_st hst27 rfl rfl)
    exact At.res (.inl rfl) rfl (.tmp rfl (.tmp rfl .nil)) ⟨v0_0, rfl, (Stp.modL hs29 sB1 rfl rfl), (Sl.outI hf31 hs29 (lowB low0 rfl rfl) (aB O0_A rfl)), hb28.blk⟩
  · refine WC.condF' rfl hc23 ?_
    refine WC.skip ?_
    refine At.then ?_
    refine WC.seq ?_
    refine WC.region ?_
    refine WL.y (Y.move rfl) rfl ?_
    refine WL.y (Y.move rfl) rfl ?_
    refine WL.y (Y.assign rfl) rfl ?_
    refine WL.y (Y.assign rfl) rfl ?_
    refine WL.nil ?_
    refine At.then ?_
    refine WC.ret ?_
    obtain ⟨rfl, rfl, rfl⟩ := tup3 h
    have hs32 : Stp [] (Lg.OB b0 3 (Lg.O0 A)) w O19 wd17 := (Stp.up hst22 rfl)
    have hf33 := hb12.st hst22 rfl
    have hf34 := hf11.mono (imm_st hst22 rfl rfl)
    exact At.res (.inl rfl) rfl (.tmp rfl (.tmp rfl .nil)) ⟨v0_0, rfl, (Stp.modL hs32 sB1 rfl rfl), (Sl.outI hf34 hs32 (lowB low0 rfl rfl) (aB O0_A rfl)), hf33.blk⟩

theorem c_law01_awake {w : World} {r0 : Bool} (h : law01_awake = some r0) : Rets Try.prog 11 [] w (fun v w' => v = .bool r0 ∧ Ext w w') := by
  unfold law01_awake at h
  refine Rets.enter Try.func11 rfl rfl ?_
  refine (show WC _ _ _ _ [] _ from ?_)
  refine WC.seq ?_
  refine WC.region ?_
  refine WL.y (Y.assign rfl) rfl ?_
  refine WL.nil ?_
  refine At.then ?_
  refine WC.seq ?_
  refine WC.region ?_
  obtain ⟨r11, hp12, h⟩ := bnd h
  refine WL.call (vals := []) kok12 rfl rfl (c_bitio_NewWriter hp12) ?_
  rintro vr19 wd18 ⟨p13, u14, rfl, hm17, f15, f16⟩
  obtain ⟨O20, hold21, hnew22, hst23⟩ := adoptE (Lg.O0 (fun _ => False)) (fun k => if k = p13 then 11 else if Value.ownBlock u14 = some k then 12 else 1) hm17
  have hf25 : OwnSl 12 Rep.b 5 O20 wd18 u14 r11.b := RowF.adopt 12 Flat.b f16.1 hnew22 (fun k hk => (if_neg (fun (e : k = p13) => f16.2 (e ▸ hk))).trans (if_pos hk))
  have hb24 : Blk 11 O20 wd18 p13 73 [u14, vi r11.n] := Blk.new f15 hnew22 (if_pos rfl)
  refine WL.y (Y.assign rfl) rfl ?_
  refine WL.nil ?_
  refine At.then ?_
  refine WC.seq ?_
  refine WC.seq ?_
  refine WC.region ?_
  refine WL.y (Y.move rfl) rfl ?_
  refine WL.y (Y.eql_nil (r := false) ty25.u rfl rfl rfl) rfl ?_
  refine WL.y (Y.move rfl) rfl ?_
  refine WL.ung rfl rfl ?_
  refine WL.y (Y.move rfl) rfl ?_
  refine WL.ung rfl rfl ?_
  obtain ⟨⟨r26, r27⟩, hp28, h⟩ := bnd h
  refine WL.call (vals := [.pointer (some ⟨p13, 0, none⟩), vu 5, vi 3]) kok13 rfl rfl (c_bitio_Writer_Put (a0 := r11) hf25.row hb24.blk (ne_lab hf25 hb24.lab rfl) hp28) ?_
  rintro vr34 wd33 ⟨z29, rfl, hm32, f30, f31⟩
  obtain ⟨O35, hold36, hnew37, hst38⟩ := adopt O20 (fun k => if Value.ownBlock z29 = some k then 12 else 1) [11, 12] hm32 (memOr (memB hb24.lab rfl) (memV hf25.labs rfl))
  have ho39 : OwnSl 12 Rep.b 5 O35 wd33 z29 r27.b := RowG.adopt Flat.b hf25.labs f30 hold36 hnew37 (fun k hk => if_pos hk)
  have hb40 : Blk 11 O35 wd33 p13 73 [z29, vi r27.n] := Blk.adopt hb24 hold36 f31
  refine WL.ung rfl rfl ?_
  refine WL.y (Y.not rfl) rfl ?_
  refine WL.y (Y.pick (b := false) rfl rfl) rfl ?_
  refine WL.y (Y.move rfl) rfl ?_
  obtain ⟨p50, h, hk51⟩ := bnd h
  refine WL.cut 4 (σ := (List UInt8 × Int × Bool × Own × Value)) (fun x w' => (x.1, x.2.1, x.2.2.1) = p50 ∧ Stp [11, 12] O35 wd33 x.2.2.2.1 w' ∧ OwnSl 1002 Rep.b 5 x.2.2.2.1 w' x.2.2.2.2 x.1 ∧ Blk 11 x.2.2.2.1 w' p13 73 [x.2.2.2.2, vi x.2.1]) (fun x => [(1, .pointer (some ⟨p13, 0, none⟩)), (20, .bool x.2.2.1)]) ?_ ?_
  · rcases cnd h with ⟨hE52, h⟩ | ⟨hE52, h⟩
    · refine WL.ren 16 rfl (congrArg Value.bool hE52) ?_
      refine WL.gS rfl rfl rfl rfl ?_
      refine WL.gS rfl rfl rfl rfl ?_
      refine WL.gS rfl rfl rfl rfl ?_
      refine WL.y (Y.pick (b := true) rfl rfl) rfl ?_
      obtain ⟨O53, hst54, ho55⟩ := OwnSl.rlb 1002 rfl ho39
      have hf56 := hb40.st hst54 rfl
      exact WL.nil (At.join (σ := (List UInt8 × Int × Bool × Own × Value)) (r27.b, r27.n, true, O53, z29) ⟨some1 h, (Stp.up hst54 rfl), ho55, hf56⟩ (.cons rfl (.cons rfl .nil)))
    · refine WL.ren 16 rfl (congrArg Value.bool hE52) ?_
      refine WL.ung rfl rfl ?_
      refine WL.y (Y.move rfl) rfl ?_
      refine WL.ung rfl rfl ?_
      obtain ⟨⟨r57, r58⟩, hp59, h⟩ := bnd h
      refine WL.call (vals := [.pointer (some ⟨p13, 0, none⟩), vu 1, vi 2]) kok13 rfl rfl (c_bitio_Writer_Put (a0 := r27) ho39.row hb40.blk (ne_lab ho39 hb40.lab rfl) hp59) ?_
      rintro vr65 wd64 ⟨z60, rfl, hm63, f61, f62⟩
      obtain ⟨O66, hold67, hnew68, hst69⟩ := adopt O35 (fun k => if Value.ownBlock z60 = some k then 12 else 1) [11, 12] hm63 (memOr (memB hb40.lab rfl) (memV ho39.labs rfl))
      have ho70 : OwnSl 12 Rep.b 5 O66 wd64 z60 r58.b := RowG.adopt Flat.b ho39.labs f61 hold67 hnew68 (fun k hk => if_pos hk)
      have hb71 : Blk 11 O66 wd64 p13 73 [z60, vi r58.n] := Blk.adopt hb40 hold67 f62
      refine WL.ung rfl rfl ?_
      refine WL.y (Y.not rfl) rfl ?_
      refine WL.y (Y.pick (b := false) rfl rfl) rfl ?_
      obtain ⟨O72, hst73, ho74⟩ := OwnSl.rlb 1002 rfl ho70
      have hf75 := hb71.st hst73 rfl
      exact WL.nil (At.join (σ := (List UInt8 × Int × Bool × Own × Value)) (r58.b, r58.n, (!r57), O72, z60) ⟨some1 h, (Stp.trans (Stp.up hst69 rfl) (Stp.up hst73 rfl)), ho74, hf75⟩ (.cons rfl (.cons rfl .nil)))
  · rintro ⟨c42, c45, x46, O47, v43⟩ wd48 ⟨rfl, hst49, hf44, hb41⟩
    replace h := hk51
    try dsimp only at h hst49 hf44 hb41
    refine (show WL _ _ _ _ _ [(1, .pointer (some ⟨p13, 0, none⟩)), (20, .bool x46)] _ from ?_)
    refine WL.y (Y.move rfl) rfl ?_
    obtain ⟨p80, h, hk81⟩ := bnd h
    refine WL.cut 4 (σ := (Bool × Own)) (fun x w' => x.1 = p80 ∧ Stp [] O47 wd48 x.2 w') (fun x => [(1, .pointer (some ⟨p13, 0, none⟩)), (25, .bool x.1)]) ?_ ?_
    · rcases cnd h with ⟨hE82, h⟩ | ⟨hE82, h⟩
      · refine WL.ren 21 rfl (congrArg Value.bool hE82) ?_
        refine WL.gS rfl rfl rfl rfl ?_
        refine WL.gS rfl rfl rfl rfl ?_
        refine WL.gS rfl rfl rfl rfl ?_
        refine WL.y (Y.pick (b := true) rfl rfl) rfl ?_
        exact WL.nil (At.join (σ := (Bool × Own)) (true, O47) ⟨some1 h, (Stp.refl _ _ _)⟩ (.cons rfl (.cons rfl .nil)))
      · refine WL.ren 21 rfl (congrArg Value.bool hE82) ?_
        refine WL.ung rfl rfl ?_
        refine WL.y (Y.move rfl) rfl ?_
        refine WL.ung rfl rfl ?_
        obtain ⟨r83, hp84, h⟩ := bnd h
        refine WL.call (vals := [.pointer (some ⟨p13, 0, none⟩)]) kok16 rfl rfl (c_bitio_Writer_Len (A := fun _ => True) (a0 := (bitio_Writer.mk c42 c45)) (hf44.src.sl) hb41.blk trivial hp84) ?_
        rintro vr87 wd86 ⟨rfl, hm85⟩
        obtain ⟨O88, hold89, hnew90, hst91⟩ := adoptE O47 (fun k => 1) hm85
        refine WL.ung rfl rfl ?_
        refine WL.y (Y.neq_i rfl rfl) rfl ?_
        refine WL.y (Y.pick (b := false) rfl rfl) rfl ?_
        exact WL.nil (At.join (σ := (Bool × Own)) ((!decide (r83 = 5)), O88) ⟨some1 h, (Stp.up hst91 rfl)⟩ (.cons rfl (.cons rfl .nil)))
    · rintro ⟨x76, O77⟩ wd78 ⟨rfl, hst79⟩
      replace h := hk81
      try dsimp only at h hst79
      refine (show WL _ _ _ _ _ [(1, .pointer (some ⟨p13, 0, none⟩)), (25, .bool x76)] _ from ?_)
      refine WL.nil ?_
      refine At.then ?_
      rcases cnd h with ⟨hc92, h⟩ | ⟨hc92, h⟩
      · refine WC.condT' rfl hc92 ?_
        refine WC.seq ?_
        refine WC.region ?_
        refine WL.y (Y.assign rfl) rfl ?_
        refine WL.nil ?_
        refine At.then ?_
        refine WC.ret ?_
        refine At.thenR ?_
        obtain rfl := some1 h
        have hs93 : Stp [11, 12] (Lg.O0 (fun _ => False)) w O77 wd78 := (Stp.trans (Stp.up hst23 rfl) (Stp.trans (Stp.up hst38 rfl) (Stp.trans (Stp.up hst49 rfl) (Stp.up hst79 rfl))))
        exact At.res (.inl rfl) rfl (.tmp rfl .nil) ⟨rfl, (Stp.ext hs93 rfl rfl)⟩
      · refine WC.condF' rfl hc92 ?_
        refine WC.skip ?_
        refine At.then ?_
        refine WC.seq ?_
        refine WC.region ?_
        refine WL.buildSlice (O := O77) (R := Rep.b) (vals := [(0, vb 168)]) 13 [vb 168] (xs := [168]) (by decide) ty30 ty5 (by decide) (by decide) (Fits.evalp rfl) (by kernel_rfl) rfl ⟨[vb 168], [], rfl, rfl, rfl⟩ rfl ?_
        intro v94 O96 wd97 hst98 ho95
        obtain ⟨⟨r99, r100⟩, hp101, h⟩ := bnd h
        refine WL.call (vals := [v94, vi 5]) kok15 rfl rfl (c_bitio_NewReader (A := fun _ => True) (ho95.src.sl) hp101) ?_
        rintro vr106 wd105 ⟨u102, rfl, hm104, f103⟩
        obtain ⟨O107, hold108, hnew109, hst110⟩ := adoptE O96 (labP u102 14) hm104
        refine WL.y (Y.move rfl) rfl ?_
        refine WL.y (Y.extract rfl rfl) rfl ?_
        refine WL.y (Y.extract rfl rfl) rfl ?_
        refine WL.y (Y.assign rfl) rfl ?_
        refine WL.y (Y.assign rfl) rfl ?_
        refine WL.nil ?_
        refine At.then ?_
        refine WC.seq ?_
        refine WC.seq ?_
        refine WC.region ?_
        refine WL.y (Y.move rfl) rfl ?_
        refine WL.y (Y.eql_opt ty32.u rfl rfl f103 (fun d hd => by obtain ⟨_, _, e, _⟩ := hd; exact ⟨_, e⟩)) rfl ?_
        refine WL.y (Y.move rfl) rfl ?_
        refine WL.cut 3 (σ := Unit) (fun _ w' => wd105 = w') (fun _ => [(1, .pointer (some ⟨p13, 0, none⟩)), (2, u102), (36, .bool (r99.isNone || (!decide (r100 = 0))))]) ?_ ?_
        · refine WL.part 33 rfl (fun hE111 => ?_) (fun hE111 => ?_)
          · refine WL.gS rfl rfl rfl rfl ?_
            refine WL.gS rfl rfl rfl rfl ?_
            refine WL.y (Y.pick (b := true) rfl rfl) rfl ?_
            refine WL.ren (v' := .bool (r99.isNone || (!decide (r100 = 0)))) 36 rfl (congrArg Value.bool (orT hE111)) ?_
            exact WL.nil (At.join () rfl (.cons rfl (.cons rfl (.cons rfl .nil))))
          · refine WL.ung rfl rfl ?_
            refine WL.y (Y.move rfl) rfl ?_
            refine WL.ung rfl rfl ?_
            refine WL.y (Y.neq_i rfl rfl) rfl ?_
            refine WL.y (Y.pick (b := false) rfl rfl) rfl ?_
            refine WL.ren (v' := .bool (r99.isNone || (!decide (r100 = 0)))) 36 rfl (congrArg Value.bool (orF hE111)) ?_
            exact WL.nil (At.join () rfl (.cons rfl (.cons rfl (.cons rfl .nil))))
        · rintro _ _ rfl
          refine (show WL _ _ _ _ _ [(1, .pointer (some ⟨p13, 0, none⟩)), (2, u102), (36, .bool (r99.isNone || (!decide (r100 = 0))))] _ from ?_)
          refine WL.y (Y.move rfl) rfl ?_
          obtain ⟨p116, h, hk117⟩ := bnd h
          refine WL.cut 5 (σ := (Bool × Own)) (fun x w' => x.1 = p116 ∧ Stp [] O107 wd105 x.2 w') (fun x => [(2, u102), (42, .bool x.1)]) ?_ ?_
          · rcases cnd h with ⟨hE118, h⟩ | ⟨hE118, h⟩
            · refine WL.ren 37 rfl (congrArg Value.bool hE118) ?_
              refine WL.gS rfl rfl rfl rfl ?_
              refine WL.gS rfl rfl rfl rfl ?_
              refine WL.gS rfl rfl rfl rfl ?_
              refine WL.gS rfl rfl rfl rfl ?_
              refine WL.y (Y.pick (b := true) rfl rfl) rfl ?_
              exact WL.nil (At.join (σ := (Bool × Own)) (true, O107) ⟨some1 h, (Stp.refl _ _ _)⟩ (.cons rfl (.cons rfl .nil)))
            · refine WL.ren 37 rfl (congrArg Value.bool hE118) ?_
              refine WL.ung rfl rfl ?_
              refine WL.y (Y.move rfl) rfl ?_
              refine WL.ung rfl rfl ?_
              have hf119 := hb41.st hst79 rfl
              have hf120 := hf119.st hst98 rfl
              have hf121 := hf120.st hst110 rfl
              have hf122 := hf44.st hst79 rfl rfl rfl
              have hf123 := hf122.st hst98 rfl rfl rfl
              have hf124 := hf123.st hst110 rfl rfl rfl
              obtain ⟨r125, hp126, h⟩ := bnd h
              refine WL.call (vals := [.pointer (some ⟨p13, 0, none⟩)]) kok14 rfl rfl (c_bitio_Writer_Bytes (A := fun _ => True) (a0 := (bitio_Writer.mk c42 c45)) (hf124.src.sl) hf121.blk trivial hp126) ?_
              rintro vr131 wd130 ⟨_, rfl, hm129, f128⟩
              obtain ⟨O132, hold133, hnew134, hst135⟩ := adoptE O107 (fun k => if Value.ownBlock vr131 = some k then 15 else 1) hm129
              have hf136 : OwnSl 15 Rep.b 5 O132 wd130 vr131 r125 := RowF.adopt 15 Flat.b f128 hnew134 (fun k hk => if_pos hk)
              refine WL.ung rfl rfl ?_
              refine WL.y (Y.b2s ty30 ty5 ty9 rfl hf136.src.sl) rfl ?_
              refine WL.ung rfl rfl ?_
              refine WL.y (Y.neq_s (b := [168]) rfl rfl) rfl ?_
              refine WL.y (Y.pick (b := false) rfl rfl) rfl ?_
              exact WL.nil (At.join (σ := (Bool × Own)) ((!decide (r125 = [168])), O132) ⟨some1 h, (Stp.up hst135 rfl)⟩ (.cons rfl (.cons rfl .nil)))
          · rintro ⟨x112, O113⟩ wd114 ⟨rfl, hst115⟩
            replace h := hk117
            try dsimp only at h hst115
            refine (show WL _ _ _ _ _ [(2, u102), (42, .bool x112)] _ from ?_)
            refine WL.nil ?_
            refine At.then ?_
            rcases cnd h with ⟨hc137, h⟩ | ⟨hc137, h⟩
            · refine WC.condT' rfl hc137 ?_
              refine WC.seq ?_
              refine WC.region ?_
              refine WL.y (Y.assign rfl) rfl ?_
              refine WL.nil ?_
              refine At.then ?_
              refine WC.ret ?_
              refine At.thenR ?_
              obtain rfl := some1 h
              have hs138 : Stp [11, 12] (Lg.O0 (fun _ => False)) w O113 wd114 := (Stp.trans (Stp.up hst23 rfl) (Stp.trans (Stp.up hst38 rfl) (Stp.trans (Stp.up hst49 rfl) (Stp.trans (Stp.up hst79 rfl) (Stp.trans (Stp.up hst98 rfl) (Stp.trans (Stp.up hst110 rfl) (Stp.up hst115 rfl)))))))
              exact At.res (.inl rfl) rfl (.tmp rfl .nil) ⟨rfl, (Stp.ext hs138 rfl rfl)⟩
            · refine WC.condF' rfl hc137 ?_
              refine WC.skip ?_
              refine At.then ?_
              refine WC.seq ?_
              refine WC.region ?_
              refine WL.y (Y.move rfl) rfl ?_
              obtain ⟨d139, hd139, h⟩ := bnd h
              obtain ⟨p140, v141, rfl, fb143, f142⟩ := OptP.some f103 hd139
              have hf144 : Sl Rep.b wd105 (frs O107) v141 d139.b := Sl.adoptF f142 (fun k hk => ⟨hk.1, labP_ne hk.2⟩) hnew109
              have hb145 : Blk 14 O107 wd105 p140 77 [v141, vi d139.n, vi d139.at_] := Blk.new fb143 hnew109 (labP_at p140 14)
              have hf146 := hb145.st hst115 rfl
              have hf147 := hf144.mono (frs_st hst115 rfl)
              obtain ⟨⟨r148, r149, r150⟩, hp151, h⟩ := bnd h
              refine WL.call (vals := [.pointer (some ⟨p140, 0, none⟩), vi 3]) kok17 rfl rfl (c_bitio_Reader_Take (A := imm O113) (a0 := d139) (Sl.mono hf147 frs_imm) hf146.blk (fun k hk => imm_ne hf146.lab rfl k hk) hp151) ?_
              rintro vr157 wd156 ⟨z152, rfl, hm155, f153, f154⟩
              obtain ⟨O158, hold159, hnew160, hst161⟩ := adopt O113 (fun k => 1) [14] hm155 (memB hf146.lab rfl)
              have hf162 : Sl Rep.b wd156 (imm O158) z152 r150.b := Sl.adoptI (O := O113) f153 (fun _ hk => hk) (fun _ _ => Nat.le_refl _) hold159 hnew160
              have hb163 : Blk 14 O158 wd156 p140 77 [z152, vi r150.n, vi r150.at_] := Blk.adopt hf146 hold159 f154
              refine WL.y (Y.move rfl) rfl ?_
              refine WL.y (Y.extract rfl rfl) rfl ?_
              refine WL.y (Y.extract rfl rfl) rfl ?_
              refine WL.y (Y.assign rfl) rfl ?_
              refine WL.y (Y.assign rfl) rfl ?_
              refine WL.nil ?_
              refine At.then ?_
              refine WC.seq ?_
              refine WC.region ?_
              refine WL.y (Y.move rfl) rfl ?_
              obtain ⟨⟨r164, r165, r166⟩, hp167, h⟩ := bnd h
              refine WL.call (vals := [.pointer (some ⟨p140, 0, none⟩), vi 3]) kok17 rfl rfl (c_bitio_Reader_Take (A := imm O158) (a0 := r150) hf162 hb163.blk (fun k hk => imm_ne hb163.lab rfl k hk) hp167) ?_
              rintro vr173 wd172 ⟨z168, rfl, hm171, f169, f170⟩
              obtain ⟨O174, hold175, hnew176, hst177⟩ := adopt O158 (fun k => 1) [14] hm171 (memB hb163.lab rfl)
              have hf178 : Sl Rep.b wd172 (imm O174) z168 r166.b := Sl.adoptI (O := O158) f169 (fun _ hk => hk) (fun _ _ => Nat.le_refl _) hold175 hnew176
              have hb179 : Blk 14 O174 wd172 p140 77 [z168, vi r166.n, vi r166.at_] := Blk.adopt hb163 hold175 f170
              refine WL.y (Y.move rfl) rfl ?_
              refine WL.y (Y.extract rfl rfl) rfl ?_
              refine WL.y (Y.extract rfl rfl) rfl ?_
              refine WL.y (Y.assign rfl) rfl ?_
              refine WL.y (Y.assign rfl) rfl ?_
              refine WL.nil ?_
              refine At.then ?_
              refine WC.seq ?_
              refine WC.region ?_
              refine WL.y (Y.move rfl) rfl ?_
              refine WL.y (Y.eql_u (b := 5) rfl rfl) rfl ?_
              refine WL.y (Y.move rfl) rfl ?_
              refine WL.cut 2 (σ := Unit) (fun _ w' => wd172 = w') (fun _ => [(2, .pointer (some ⟨p140, 0, none⟩)), (7, .bool r165), (57, .bool ((decide (r148 = 5)) && r149))]) ?_ ?_
              · refine WL.part 55 rfl (fun hE180 => ?_) (fun hE180 => ?_)
                · refine WL.ung rfl rfl ?_
                  refine WL.y (Y.move rfl) rfl ?_
                  refine WL.y (Y.pick (b := true) rfl rfl) rfl ?_
                  refine WL.ren (v' := .bool ((decide (r148 = 5)) && r149)) 57 rfl (congrArg Value.bool (andT hE180)) ?_
                  exact WL.nil (At.join () rfl (.cons rfl (.cons rfl (.cons rfl .nil))))
                · refine WL.gS rfl rfl rfl rfl ?_
                  refine WL.y (Y.pick (b := false) rfl rfl) rfl ?_
                  refine WL.ren (v' := .bool ((decide (r148 = 5)) && r149)) 57 rfl (congrArg Value.bool (andF hE180)) ?_
                  exact WL.nil (At.join () rfl (.cons rfl (.cons rfl (.cons rfl .nil))))
              · rintro _ _ rfl
                refine (show WL _ _ _ _ _ [(2, .pointer (some ⟨p140, 0, none⟩)), (7, .bool r165), (57, .bool ((decide (r148 = 5)) && r149))] _ from ?_)
                refine WL.y (Y.move rfl) rfl ?_
                refine WL.cut 3 (σ := Unit) (fun _ w' => wd172 = w') (fun _ => [(2, .pointer (some ⟨p140, 0, none⟩)), (61, .bool (((decide (r148 = 5)) && r149) && (!r165)))]) ?_ ?_
                · refine WL.part 58 rfl (fun hE181 => ?_) (fun hE181 => ?_)
                  · refine WL.ung rfl rfl ?_
                    refine WL.y (Y.move rfl) rfl ?_
                    refine WL.ung rfl rfl ?_
                    refine WL.y (Y.not rfl) rfl ?_
                    refine WL.y (Y.pick (b := true) rfl rfl) rfl ?_
                    refine WL.ren (v' := .bool (((decide (r148 = 5)) && r149) && (!r165))) 61 rfl (congrArg Value.bool (andT hE181)) ?_
                    exact WL.nil (At.join () rfl (.cons rfl (.cons rfl .nil)))
                  · refine WL.gS rfl rfl rfl rfl ?_
                    refine WL.gS rfl rfl rfl rfl ?_
                    refine WL.y (Y.pick (b := false) rfl rfl) rfl ?_
                    refine WL.ren (v' := .bool (((decide (r148 = 5)) && r149) && (!r165))) 61 rfl (congrArg Value.bool (andF hE181)) ?_
                    exact WL.nil (At.join () rfl (.cons rfl (.cons rfl .nil)))
                · rintro _ _ rfl
                  refine (show WL _ _ _ _ _ [(2, .pointer (some ⟨p140, 0, none⟩)), (61, .bool (((decide (r148 = 5)) && r149) && (!r165)))] _ from ?_)
                  refine WL.y (Y.move rfl) rfl ?_
                  obtain ⟨p186, h, hk187⟩ := bnd h
                  refine WL.cut 4 (σ := (Bool × Own)) (fun x w' => x.1 = p186 ∧ Stp [] O174 wd172 x.2 w') (fun x => [(66, .bool x.1)]) ?_ ?_
                  · rcases cnd h with ⟨hE188, h⟩ | ⟨hE188, h⟩
                    · refine WL.ren 62 rfl (congrArg Value.bool hE188) ?_
                      refine WL.ung rfl rfl ?_
                      refine WL.y (Y.move rfl) rfl ?_
                      refine WL.ung rfl rfl ?_
                      obtain ⟨r189, hp190, h⟩ := bnd h
                      refine WL.call (vals := [.pointer (some ⟨p140, 0, none⟩)]) kok18 rfl rfl (c_bitio_Reader_Left (A := fun _ => True) (a0 := r166) (Sl.all hf178) hb179.blk trivial hp190) ?_
                      rintro vr193 wd192 ⟨rfl, hm191⟩
                      obtain ⟨O194, hold195, hnew196, hst197⟩ := adoptE O174 (fun k => 1) hm191
                      refine WL.ung rfl rfl ?_
                      refine WL.y (Y.eql_i rfl rfl) rfl ?_
                      refine WL.y (Y.pick (b := true) rfl rfl) rfl ?_
                      exact WL.nil (At.join (σ := (Bool × Own)) (decide (r189 = 2), O194) ⟨some1 h, (Stp.up hst197 rfl)⟩ (.cons rfl .nil))
                    · refine WL.ren 62 rfl (congrArg Value.bool hE188) ?_
                      refine WL.gS rfl rfl rfl rfl ?_
                      refine WL.gS rfl rfl rfl rfl ?_
                      refine WL.gS rfl rfl rfl rfl ?_
                      refine WL.y (Y.pick (b := false) rfl rfl) rfl ?_
                      exact WL.nil (At.join (σ := (Bool × Own)) (false, O174) ⟨some1 h, (Stp.refl _ _ _)⟩ (.cons rfl .nil))
                  · rintro ⟨x182, O183⟩ wd184 ⟨rfl, hst185⟩
                    replace h := hk187
                    try dsimp only at h hst185
                    refine (show WL _ _ _ _ _ [(66, .bool x182)] _ from ?_)
                    refine WL.y (Y.assign rfl) rfl ?_
                    refine WL.nil ?_
                    refine At.then ?_
                    refine WC.ret ?_
                    obtain rfl := some1 h
                    have hs198 : Stp [11, 12, 14] (Lg.O0 (fun _ => False)) w O183 wd184 := (Stp.trans (Stp.up hst23 rfl) (Stp.trans (Stp.up hst38 rfl) (Stp.trans (Stp.up hst49 rfl) (Stp.trans (Stp.up hst79 rfl) (Stp.trans (Stp.up hst98 rfl) (Stp.trans (Stp.up hst110 rfl) (Stp.trans (Stp.up hst115 rfl) (Stp.trans (Stp.up hst161 rfl) (Stp.trans (Stp.up hst177 rfl) (Stp.up hst185 rfl))))))))))
                    exact At.res (.inl rfl) rfl (.tmp rfl .nil) ⟨rfl, (Stp.ext hs198 rfl rfl)⟩

theorem c_law01_BitsBack {A : Nat → Prop} {a0 : List UInt64} {v0 : Value} {a1 : List Int} {v1 : Value} {w : World} (hs0 : Sl Rep.u w A v0 a0) (hs1 : Sl Rep.i w A v1 a1) {r0 : Bool} (h : law01_BitsBack a0 a1 = some r0) : Rets Try.prog 3 [v0, v1] w (fun v w' => v = .bool r0 ∧ Ext w w') := by
  unfold law01_BitsBack at h
  refine Rets.enter Try.func3 rfl rfl ?_
  have hf11 : Sl Rep.u w (imm (Lg.O0 A)) v0 a0 := (Sl.start hs0)
  have hf12 : Sl Rep.i w (imm (Lg.O0 A)) v1 a1 := (Sl.start hs1)
  refine (show WC _ _ _ _ [(0, v0), (1, v1)] _ from ?_)
  refine WC.seq ?_
  refine WC.region ?_
  refine WL.y (Y.assign rfl) rfl ?_
  refine WL.nil ?_
  refine At.then ?_
  refine WC.seq ?_
  refine WC.seq ?_
  refine WC.region ?_
  obtain ⟨r13, hp14, h⟩ := bnd h
  refine WL.call (vals := []) kok11 rfl rfl (c_law01_awake hp14) ?_
  rintro vr17 wd16 ⟨rfl, hm15⟩
  obtain ⟨O18, hold19, hnew20, hst21⟩ := adoptE (Lg.O0 A) (fun k => 1) hm15
  refine WL.y (Y.not rfl) rfl ?_
  refine WL.nil ?_
  refine At.then ?_
  rcases cnd h with ⟨hc22, h⟩ | ⟨hc22, h⟩
  · refine WC.condT' rfl hc22 ?_
    refine WC.seq ?_
    refine WC.region ?_
    refine WL.y (Y.assign rfl) rfl ?_
    refine WL.nil ?_
    refine At.then ?_
    refine WC.ret ?_
    refine At.thenR ?_
    obtain rfl := some1 h
    have hs23 : Stp [] (Lg.O0 A) w O18 wd16 := (Stp.up hst21 rfl)
    exact At.res (.inl rfl) rfl (.tmp rfl .nil) ⟨rfl, (Stp.ext hs23 rfl rfl)⟩
  · refine WC.condF' rfl hc22 ?_
    refine WC.skip ?_
    refine At.then ?_
    refine WC.seq ?_
    refine WC.seq ?_
    refine WC.region ?_
    refine WL.y (Y.move rfl) rfl ?_
    have hf24 := hf11.mono (imm_st hst21 rfl rfl)
    refine WL.y (Y.len ty22 rfl hf24) rfl ?_
    refine WL.y (Y.gtr_i rfl rfl) rfl ?_
    refine WL.y (Y.move rfl) rfl ?_
    refine WL.cut 6 (σ := Unit) (fun _ w' => wd16 = w') (fun _ => [(0, v0), (1, v1), (26, .bool ((decide (100 < (a0.length : Int))) || (decide ((a1.length : Int) < (a0.length : Int)))))]) ?_ ?_
    · refine WL.part 20 rfl (fun hE25 => ?_) (fun hE25 => ?_)
      · refine WL.gS rfl rfl rfl rfl ?_
        refine WL.gS rfl rfl rfl rfl ?_
        refine WL.gS rfl rfl rfl rfl ?_
        refine WL.gS rfl rfl rfl rfl ?_
        refine WL.gS rfl rfl rfl rfl ?_
        refine WL.y (Y.pick (b := true) rfl rfl) rfl ?_
        refine WL.ren (v' := .bool ((decide (100 < (a0.length : Int))) || (decide ((a1.length : Int) < (a0.length : Int))))) 26 rfl (congrArg Value.bool (orT hE25)) ?_
        exact WL.nil (At.join () rfl (.cons rfl (.cons rfl (.cons rfl .nil))))
      · refine WL.ung rfl rfl ?_
        refine WL.y (Y.move rfl) rfl ?_
        refine WL.ung rfl rfl ?_
        have hf26 := hf12.mono (imm_st hst21 rfl rfl)
        refine WL.y (Y.len ty23 rfl hf26) rfl ?_
        refine WL.ung rfl rfl ?_
        refine WL.y (Y.move rfl) rfl ?_
        refine WL.ung rfl rfl ?_
        refine WL.y (Y.len ty22 rfl hf24) rfl ?_
        refine WL.ung rfl rfl ?_
        refine WL.y (Y.lss_i rfl rfl) rfl ?_
        refine WL.y (Y.pick (b := false) rfl rfl) rfl ?_
        refine WL.ren (v' := .bool ((decide (100 < (a0.length : Int))) || (decide ((a1.length : Int) < (a0.length : Int))))) 26 rfl (congrArg Value.bool (orF hE25)) ?_
        exact WL.nil (At.join () rfl (.cons rfl (.cons rfl (.cons rfl .nil))))
    · rintro _ _ rfl
      refine (show WL _ _ _ _ _ [(0, v0), (1, v1), (26, .bool ((decide (100 < (a0.length : Int))) || (decide ((a1.length : Int) < (a0.length : Int)))))] _ from ?_)
      refine WL.nil ?_
      refine At.then ?_
      rcases cnd h with ⟨hc27, h⟩ | ⟨hc27, h⟩
      · refine WC.condT' rfl hc27 ?_
        refine WC.seq ?_
        refine WC.region ?_
        refine WL.y (Y.assign rfl) rfl ?_
        refine WL.nil ?_
        refine At.then ?_
        refine WC.ret ?_
        refine At.thenR ?_
        obtain rfl := some1 h
        have hs28 : Stp [] (Lg.O0 A) w O18 wd16 := (Stp.up hst21 rfl)
        exact At.res (.inl rfl) rfl (.tmp rfl .nil) ⟨rfl, (Stp.ext hs28 rfl rfl)⟩
      · refine WC.condF' rfl hc27 ?_
        refine WC.skip ?_
        refine At.then ?_
        refine WC.seq ?_
        refine WC.region ?_
        obtain ⟨r29, hp30, h⟩ := bnd h
        refine WL.call (vals := []) kok12 rfl rfl (c_bitio_NewWriter hp30) ?_
        rintro vr37 wd36 ⟨p31, u32, rfl, hm35, f33, f34⟩
        obtain ⟨O38, hold39, hnew40, hst41⟩ := adoptE O18 (fun k => if k = p31 then 11 else if Value.ownBlock u32 = some k then 12 else 1) hm35
        have hf43 : OwnSl 12 Rep.b 5 O38 wd36 u32 r29.b := RowF.adopt 12 Flat.b f34.1 hnew40 (fun k hk => (if_neg (fun (e : k = p31) => f34.2 (e ▸ hk))).trans (if_pos hk))
        have hb42 : Blk 11 O38 wd36 p31 73 [u32, vi r29.n] := Blk.new f33 hnew40 (if_pos rfl)
        refine WL.y (Y.assign rfl) rfl ?_
        refine WL.nil ?_
        refine At.then ?_
        refine WC.seq ?_
        refine WC.region ?_
        refine WL.y (Y.assign rfl) rfl ?_
        refine WL.nil ?_
        refine At.then ?_
        refine WC.seq ?_
        refine WC.seq ?_
        refine WC.region ?_
        refine WL.y (Y.assign rfl) rfl ?_
        refine WL.nil ?_
        refine At.then ?_
        obtain ⟨p55, h, hk56⟩ := bnd h
        refine WC.join (σ := (List UInt8 × Int × List Bool × Own × Value × Value)) (fun x w' => (x.1, x.2.1, x.2.2.1) = p55 ∧ Stp [11, 12, 14, 1001, 1002, 1003, 1004] O38 wd36 x.2.2.2.1 w' ∧ OwnSl 1007 Rep.b 5 x.2.2.2.1 w' x.2.2.2.2.1 x.1 ∧ Blk 11 x.2.2.2.1 w' p31 73 [x.2.2.2.2.1, vi x.2.1] ∧ OwnSl 1008 Rep.B 4 x.2.2.2.1 w' x.2.2.2.2.2 x.2.2.1) (fun x => [(0, v0), (1, v1), (5, .pointer (some ⟨p31, 0, none⟩)), (6, x.2.2.2.2.2)]) ?_ ?_
        · refine WC.block ?_
          obtain ⟨p80, h, hk82⟩ := flow1 h
          obtain ⟨k81, h⟩ := loop_some h
          refine WC.joinB 0 (σ := (List UInt8 × Int × List Bool × Own × Value × Value)) (fun x w' => p80 = .go (x.1, x.2.1, x.2.2.1) ∧ Stp [11, 12, 14, 1001, 1002] O38 wd36 x.2.2.2.1 w' ∧ OwnSl 1003 Rep.b 5 x.2.2.2.1 w' x.2.2.2.2.1 x.1 ∧ Blk 11 x.2.2.2.1 w' p31 73 [x.2.2.2.2.1, vi x.2.1] ∧ OwnSl 1004 Rep.B 4 x.2.2.2.1 w' x.2.2.2.2.2 x.2.2.1) (fun x => [(0, v0), (1, v1), (5, .pointer (some ⟨p31, 0, none⟩)), (6, x.2.2.2.2.2)]) ?_ ?_
          · obtain ⟨O83, hst84, ho85⟩ := OwnSl.rlb 1001 rfl hf43
            have hf86 := hb42.st hst84 rfl
            refine WC.loop (σ := (List UInt8 × Int × List Bool × Int × Own × Value × Value)) (fun x k w' => loopN k (law01_BitsBack_lp1 a0 a1) (x.1, x.2.1, x.2.2.1, x.2.2.2.1) = some p80 ∧ Stp [11, 12, 14, 1001, 1002] O38 wd36 x.2.2.2.2.1 w' ∧ OwnSl 1001 Rep.b 5 x.2.2.2.2.1 w' x.2.2.2.2.2.1 x.1 ∧ Blk 11 x.2.2.2.2.1 w' p31 73 [x.2.2.2.2.2.1, vi x.2.1] ∧ OwnSl 1002 Rep.B 4 x.2.2.2.2.1 w' x.2.2.2.2.2.2 x.2.2.1) (fun x => [(0, v0), (1, v1), (5, .pointer (some ⟨p31, 0, none⟩)), (6, x.2.2.2.2.2.2), (7, vi x.2.2.2.1)]) (r29.b, r29.n, [], 0, O83, u32, .slice none 0 0) k81 (.cons rfl (.cons rfl (.cons rfl (.cons rfl (.cons rfl .nil))))) ⟨h, (Stp.up hst84 rfl), ho85, hf86, (OwnSl.nil 1002 Rep.B 4)⟩ ?_
            rintro ⟨c58, c61, is62, i65, O66, v59, v63⟩ k81 wd67 ⟨h, hst68, hf60, hb57, hf64⟩
            obtain ⟨j87, q88, rfl, h, hn89⟩ := rnd1 h
            unfold law01_BitsBack_lp1 at h
            try dsimp only at h hst68 hf60 hb57 hf64
            refine (show WC _ _ _ _ [(0, v0), (1, v1), (5, .pointer (some ⟨p31, 0, none⟩)), (6, v63), (7, vi i65)] _ from ?_)
            refine WC.seq ?_
            refine WC.seq ?_
            refine WC.region ?_
            refine WL.y (Y.move rfl) rfl ?_
            refine WL.y (Y.move rfl) rfl ?_
            have hf90 := hf24.mono (imm_st hst41 rfl rfl)
            have hf91 := hf90.mono (imm_st hst68 rfl rfl)
            refine WL.y (Y.len ty22 rfl hf91) rfl ?_
            refine WL.y (Y.lss_i rfl rfl) rfl ?_
            refine WL.nil ?_
            refine At.then ?_
            rcases cnd h with ⟨hc92, h⟩ | ⟨hc92, h⟩
            · refine WC.condT' rfl hc92 ?_
              refine WC.skip ?_
              refine At.then ?_
              refine WC.seq ?_
              refine WC.block ?_
              refine WC.drawH [11, 1001, 1002] O66 14 fmix rfl ?_
              intro wd93 hst94
              refine WD.y 0 rfl (by kernel_rfl) (fun _ _ _ => Y.move rfl) rfl ?_
              refine WD.y 1 rfl (by kernel_rfl) (fun _ _ _ => Y.move rfl) rfl ?_
              refine WD.y 2 rfl (by kernel_rfl) (fun _ _ _ => Y.move rfl) rfl ?_
              refine WD.y 3 rfl (by kernel_rfl) (fun _ _ _ => Y.move rfl) rfl ?_
              obtain ⟨e107, he107, h⟩ := bnd h
              have hf116 := hf91.mono (imm_st hst94 rfl rfl)
              obtain ⟨b108, off117, cap115, cs114, hv109, hi110, hl111, hc112, hok113, hA118⟩ := Sl.at2 hf116 he107
              obtain rfl := hok113
              replace hc112 : CellsAt _ _ _ [vu e107] := hc112
              have hca119 := CAt.imm hc112 hA118
              refine WD.y 4 rfl (by kernel_rfl) (fun _ _ _ => Y.indexAddr ty22 ty29 rfl hv109 rfl hi110 hl111) rfl ?_
              refine WD.y 5 rfl (by kernel_rfl) (fun wd124 O123 hst125 => have hf126 := hca119.st hst125 rfl; Y.loadSc ty29 rfl rfl hf126.at_) rfl ?_
              refine WD.y 6 rfl (by kernel_rfl) (fun _ _ _ => Y.move rfl) rfl ?_
              refine WD.y 7 rfl (by kernel_rfl) (fun _ _ _ => Y.move rfl) rfl ?_
              obtain ⟨e133, he133, h⟩ := bnd h
              have hf142 := hf12.mono (imm_st hst21 rfl rfl)
              have hf143 := hf142.mono (imm_st hst41 rfl rfl)
              have hf144 := hf143.mono (imm_st hst68 rfl rfl)
              have hf145 := hf144.mono (imm_st hst94 rfl rfl)
              obtain ⟨b134, off146, cap141, cs140, hv135, hi136, hl137, hc138, hok139, hA147⟩ := Sl.at2 hf145 he133
              obtain rfl := hok139
              replace hc138 : CellsAt _ _ _ [vi e133] := hc138
              have hca148 := CAt.imm hc138 hA147
              refine WD.y 8 rfl (by kernel_rfl) (fun _ _ _ => Y.indexAddr ty23 ty3 rfl hv135 rfl hi136 hl137) rfl ?_
              refine WD.y 9 rfl (by kernel_rfl) (fun wd153 O152 hst154 => have hf155 := hca148.st hst154 rfl; Y.loadSc ty3 rfl rfl hf155.at_) rfl ?_
              refine WD.heavy 10 rfl (by kernel_rfl) ?_
              have hf156 := hf60.st hst94 rfl rfl rfl
              have hf157 := hb57.st hst94 rfl
              obtain ⟨⟨r158, r159⟩, hp160, h⟩ := bnd h
              refine WL.call (vals := [.pointer (some ⟨p31, 0, none⟩), vu e107, vi e133]) kok13 rfl rfl (c_bitio_Writer_Put (a0 := (bitio_Writer.mk c58 c61)) hf156.row hf157.blk (ne_lab hf156 hf157.lab rfl) hp160) ?_
              rintro vr166 wd165 ⟨z161, rfl, hm164, f162, f163⟩
              obtain ⟨O167, hold168, hnew169, hst170⟩ := adopt O66 (fun k => if Value.ownBlock z161 = some k then 1001 else 1) [11, 1001] hm164 (memOr (memB hf157.lab rfl) (memV hf156.labs rfl))
              have ho171 : OwnSl 1001 Rep.b 5 O167 wd165 z161 r159.b := RowG.adopt Flat.b hf156.labs f162 hold168 hnew169 (fun k hk => if_pos hk)
              have hb172 : Blk 11 O167 wd165 p31 73 [z161, vi r159.n] := Blk.adopt hf157 hold168 f163
              refine WL.nil ?_
              refine At.dq (Stp.up hst170 rfl) ?_
              refine WD.heavy 11 rfl (by kernel_rfl) ?_
              refine WL.buildSlice (O := O167) (R := Rep.B) (vals := [(0, .bool r158)]) 13 [.bool r158] (xs := [r158]) (by decide) ty27 ty4 (by decide) (by decide) (Fits.evalp rfl) (by kernel_rfl) rfl ⟨[.bool r158], [], rfl, rfl, rfl⟩ rfl ?_
              intro v173 O175 wd176 hst177 ho174
              refine WL.nil ?_
              refine At.dq (Stp.up hst177 rfl) ?_
              refine WD.heavy 12 rfl (by kernel_rfl) ?_
              obtain ⟨xs178, hxs178, h⟩ := bnd h
              have hf179 := hf64.st hst94 rfl rfl rfl
              have hf180 := hf179.st hst170 rfl rfl rfl
              have hf181 := hf180.st hst177 rfl rfl rfl
              refine WL.append (by decide) ty27 ty4 rfl (by decide) rfl rfl hf181 ho174.src hxs178 rfl ?_
              intro v185 O182 wd183 hst184 ho186
              refine WL.nil ?_
              refine At.dq (Stp.up hst184 rfl) ?_
              refine WD.y 13 rfl (by kernel_rfl) (fun _ _ _ => Y.assign rfl) rfl ?_
              refine WD.done_ (by kernel_rfl) ?_
              refine At.inBlock ?_
              refine At.then ?_
              refine WC.region ?_
              refine WL.y (Y.move rfl) rfl ?_
              refine WL.y (Y.add_i rfl rfl) rfl ?_
              obtain ⟨i190, hi190, h⟩ := lt1 h
              refine WL.yE (Y.assign rfl) (congrArg vi hi190.symm) rfl ?_
              refine WL.nil ?_
              have hf191 := ho171.st hst177 rfl rfl rfl
              have hf192 := hf191.st hst184 rfl rfl rfl
              have hf193 := hb172.st hst177 rfl
              have hf194 := hf193.st hst184 rfl
              exact At.round (r159.b, r159.n, xs178, i190, O182, z161, v185) j87 (Nat.lt_succ_self _) ⟨next1 h hn89, (Stp.trans (Stp.up hst68 rfl) (Stp.trans (Stp.up hst94 rfl) (Stp.trans (Stp.up hst170 rfl) (Stp.trans (Stp.up hst177 rfl) (Stp.up hst184 rfl))))), hf192, hf194, ho186⟩ (.cons rfl (.cons rfl (.cons rfl (.cons rfl (.cons rfl .nil)))))
            · refine WC.condF' rfl hc92 ?_
              refine WC.exit ?_
              refine At.thenX ?_
              refine At.loopX ?_
              obtain ⟨O195, hst196, ho197⟩ := OwnSl.rlb 1003 rfl hf60
              have hf198 := hf64.st hst196 rfl rfl rfl
              obtain ⟨O199, hst200, ho201⟩ := OwnSl.rlb 1004 rfl hf198
              have hf202 := ho197.st hst200 rfl rfl rfl
              have hf203 := hb57.st hst196 rfl
              have hf204 := hf203.st hst200 rfl
              exact At.hitB (σ := (List UInt8 × Int × List Bool × Own × Value × Value)) (c58, c61, is62, O199, v59, v63) ⟨brk1 h hn89, (Stp.trans (Stp.up hst68 rfl) (Stp.trans (Stp.up hst196 rfl) (Stp.up hst200 rfl))), hf202, hf204, ho201⟩ (.cons rfl (.cons rfl (.cons rfl (.cons rfl .nil))))
          · rintro ⟨c70, c73, is74, O77, v71, v75⟩ wd78 ⟨rfl, hst79, hf72, hb69, hf76⟩
            replace h := flowK_go hk82
            try dsimp only at h hst79 hf72 hb69 hf76
            refine (show At _ _ _ [(0, v0), (1, v1), (5, .pointer (some ⟨p31, 0, none⟩)), (6, v75)] _ from ?_)
            refine At.inBlockHit ?_
            obtain ⟨O205, hst206, ho207⟩ := OwnSl.rlb 1007 rfl hf72
            have hf208 := hf76.st hst206 rfl rfl rfl
            obtain ⟨O209, hst210, ho211⟩ := OwnSl.rlb 1008 rfl hf208
            have hf212 := ho207.st hst210 rfl rfl rfl
            have hf213 := hb69.st hst206 rfl
            have hf214 := hf213.st hst210 rfl
            exact At.join (σ := (List UInt8 × Int × List Bool × Own × Value × Value)) (c70, c73, is74, O209, v71, v75) ⟨some1 h, (Stp.trans (Stp.up hst79 rfl) (Stp.trans (Stp.up hst206 rfl) (Stp.up hst210 rfl))), hf212, hf214, ho211⟩ (.cons rfl (.cons rfl (.cons rfl (.cons rfl .nil))))
        · rintro ⟨c45, c48, is49, O52, v46, v50⟩ wd53 ⟨rfl, hst54, hf47, hb44, hf51⟩
          replace h := hk56
          try dsimp only at h hst54 hf47 hb44 hf51
          refine (show At _ _ _ [(0, v0), (1, v1), (5, .pointer (some ⟨p31, 0, none⟩)), (6, v50)] _ from ?_)
          refine At.then ?_
          refine WC.seq ?_
          refine WC.region ?_
          refine WL.y (Y.move rfl) rfl ?_
          obtain ⟨r215, hp216, h⟩ := bnd h
          refine WL.call (vals := [.pointer (some ⟨p31, 0, none⟩)]) kok14 rfl rfl (c_bitio_Writer_Bytes (A := fun _ => True) (a0 := (bitio_Writer.mk c45 c48)) (hf47.src.sl) hb44.blk trivial hp216) ?_
          rintro vr221 wd220 ⟨_, rfl, hm219, f218⟩
          obtain ⟨O222, hold223, hnew224, hst225⟩ := adoptE O52 (fun k => if Value.ownBlock vr221 = some k then 14 else 1) hm219
          have hf226 : OwnSl 14 Rep.b 5 O222 wd220 vr221 r215 := RowF.adopt 14 Flat.b f218 hnew224 (fun k hk => if_pos hk)
          refine WL.y (Y.assign rfl) rfl ?_
          refine WL.nil ?_
          refine At.then ?_
          refine WC.seq ?_
          refine WC.region ?_
          refine WL.y (Y.move rfl) rfl ?_
          refine WL.y (Y.move rfl) rfl ?_
          have hf227 := hb44.st hst225 rfl
          have hf228 := hf47.st hst225 rfl rfl rfl
          obtain ⟨r229, hp230, h⟩ := bnd h
          refine WL.call (vals := [.pointer (some ⟨p31, 0, none⟩)]) kok16 rfl rfl (c_bitio_Writer_Len (A := fun _ => True) (a0 := (bitio_Writer.mk c45 c48)) (hf228.src.sl) hf227.blk trivial hp230) ?_
          rintro vr233 wd232 ⟨rfl, hm231⟩
          obtain ⟨O234, hold235, hnew236, hst237⟩ := adoptE O222 (fun k => 1) hm231
          have hf238 := hf226.st hst237 rfl rfl rfl
          obtain ⟨⟨r239, r240⟩, hp241, h⟩ := bnd h
          refine WL.call (vals := [vr221, vi r229]) kok15 rfl rfl (c_bitio_NewReader (A := fun _ => True) (hf238.src.sl) hp241) ?_
          rintro vr246 wd245 ⟨u242, rfl, hm244, f243⟩
          obtain ⟨O247, hold248, hnew249, hst250⟩ := adoptE O234 (labP u242 15) hm244
          refine WL.y (Y.move rfl) rfl ?_
          refine WL.y (Y.extract rfl rfl) rfl ?_
          refine WL.y (Y.extract rfl rfl) rfl ?_
          refine WL.y (Y.assign rfl) rfl ?_
          refine WL.y (Y.assign rfl) rfl ?_
          refine WL.nil ?_
          refine At.then ?_
          refine WC.seq ?_
          refine WC.seq ?_
          refine WC.region ?_
          refine WL.y (Y.move rfl) rfl ?_
          refine WL.y (Y.eql_opt ty32.u rfl rfl f243 (fun d hd => by obtain ⟨_, _, e, _⟩ := hd; exact ⟨_, e⟩)) rfl ?_
          refine WL.y (Y.move rfl) rfl ?_
          refine WL.cut 3 (σ := Unit) (fun _ w' => wd245 = w') (fun _ => [(0, v0), (1, v1), (5, .pointer (some ⟨p31, 0, none⟩)), (6, v50), (8, vr221), (9, u242), (61, .bool (r239.isNone || (!decide (r240 = 0))))]) ?_ ?_
          · refine WL.part 58 rfl (fun hE251 => ?_) (fun hE251 => ?_)
            · refine WL.gS rfl rfl rfl rfl ?_
              refine WL.gS rfl rfl rfl rfl ?_
              refine WL.y (Y.pick (b := true) rfl rfl) rfl ?_
              refine WL.ren (v' := .bool (r239.isNone || (!decide (r240 = 0)))) 61 rfl (congrArg Value.bool (orT hE251)) ?_
              exact WL.nil (At.join () rfl (.cons rfl (.cons rfl (.cons rfl (.cons rfl (.cons rfl (.cons rfl (.cons rfl .nil))))))))
            · refine WL.ung rfl rfl ?_
              refine WL.y (Y.move rfl) rfl ?_
              refine WL.ung rfl rfl ?_
              refine WL.y (Y.neq_i rfl rfl) rfl ?_
              refine WL.y (Y.pick (b := false) rfl rfl) rfl ?_
              refine WL.ren (v' := .bool (r239.isNone || (!decide (r240 = 0)))) 61 rfl (congrArg Value.bool (orF hE251)) ?_
              exact WL.nil (At.join () rfl (.cons rfl (.cons rfl (.cons rfl (.cons rfl (.cons rfl (.cons rfl (.cons rfl .nil))))))))
          · rintro _ _ rfl
            refine (show WL _ _ _ _ _ [(0, v0), (1, v1), (5, .pointer (some ⟨p31, 0, none⟩)), (6, v50), (8, vr221), (9, u242), (61, .bool (r239.isNone || (!decide (r240 = 0))))] _ from ?_)
            refine WL.nil ?_
            refine At.then ?_
            rcases cnd h with ⟨hc252, h⟩ | ⟨hc252, h⟩
            · refine WC.condT' rfl hc252 ?_
              refine WC.seq ?_
              refine WC.region ?_
              refine WL.y (Y.assign rfl) rfl ?_
              refine WL.nil ?_
              refine At.then ?_
              refine WC.ret ?_
              refine At.thenR ?_
              obtain rfl := some1 h
              have hs253 : Stp [11, 12, 14, 1001, 1002, 1003, 1004] (Lg.O0 A) w O247 wd245 := (Stp.trans (Stp.up hst21 rfl) (Stp.trans (Stp.up hst41 rfl) (Stp.trans (Stp.up hst54 rfl) (Stp.trans (Stp.up hst225 rfl) (Stp.trans (Stp.up hst237 rfl) (Stp.up hst250 rfl))))))
              exact At.res (.inl rfl) rfl (.tmp rfl .nil) ⟨rfl, (Stp.ext hs253 rfl rfl)⟩
            · refine WC.condF' rfl hc252 ?_
              refine WC.skip ?_
              refine At.then ?_
              refine WC.seq ?_
              refine WC.seq ?_
              refine WC.region ?_
              refine WL.y (Y.assign rfl) rfl ?_
              refine WL.nil ?_
              refine At.then ?_
              obtain ⟨p264, h, hk265⟩ := flow1 h
              refine WC.join (σ := (List UInt8 × Int × Int × Own × Nat × Value)) (fun x w' => p264 = .go (x.1, x.2.1, x.2.2.1) ∧ Stp [15] O247 wd245 x.2.2.2.1 w' ∧ Sl Rep.b w' (imm x.2.2.2.1) x.2.2.2.2.2 x.1 ∧ Blk 1010 x.2.2.2.1 w' x.2.2.2.2.1 77 [x.2.2.2.2.2, vi x.2.1, vi x.2.2.1]) (fun x => [(5, .pointer (some ⟨p31, 0, none⟩)), (8, vr221), (9, .pointer (some ⟨x.2.2.2.2.1, 0, none⟩))]) ?_ ?_
              · refine WC.block ?_
                obtain ⟨d266, hd266, h⟩ := bnd h
                obtain ⟨p267, v268, rfl, fb270, f269⟩ := OptP.some f243 hd266
                have hf271 : Sl Rep.b wd245 (frs O247) v268 d266.b := Sl.adoptF f269 (fun k hk => ⟨hk.1, labP_ne hk.2⟩) hnew249
                have hb272 : Blk 15 O247 wd245 p267 77 [v268, vi d266.n, vi d266.at_] := Blk.new fb270 hnew249 (labP_at p267 15)
                obtain ⟨p292, h, hk294⟩ := flow1 h
                obtain ⟨k293, h⟩ := loop_some h
                refine WC.joinB 2 (σ := (List UInt8 × Int × Int × Own × Value)) (fun x w' => p292 = .go (x.1, x.2.1, x.2.2.1) ∧ Stp [15] O247 wd245 x.2.2.2.1 w' ∧ Sl Rep.b w' (imm x.2.2.2.1) x.2.2.2.2 x.1 ∧ Blk 15 x.2.2.2.1 w' p267 77 [x.2.2.2.2, vi x.2.1, vi x.2.2.1]) (fun x => [(5, .pointer (some ⟨p31, 0, none⟩)), (8, vr221), (9, .pointer (some ⟨p267, 0, none⟩))]) ?_ ?_
                · refine WC.loop (σ := (List UInt8 × Int × Int × Int × Own × Value)) (fun x k w' => loopN k (law01_BitsBack_lp2 a0 a1 is49) (x.1, x.2.1, x.2.2.1, x.2.2.2.1) = some p292 ∧ Stp [15] O247 wd245 x.2.2.2.2.1 w' ∧ Sl Rep.b w' (imm x.2.2.2.2.1) x.2.2.2.2.2 x.1 ∧ Blk 15 x.2.2.2.2.1 w' p267 77 [x.2.2.2.2.2, vi x.2.1, vi x.2.2.1]) (fun x => [(0, v0), (1, v1), (5, .pointer (some ⟨p31, 0, none⟩)), (6, v50), (8, vr221), (9, .pointer (some ⟨p267, 0, none⟩)), (11, vi x.2.2.2.1)]) (d266.b, d266.n, d266.at_, 0, O247, v268) k293 (.cons rfl (.cons rfl (.cons rfl (.cons rfl (.cons rfl (.cons rfl (.cons rfl .nil))))))) ⟨h, (Stp.refl _ _ _), (Sl.mono hf271 frs_imm), hb272⟩ ?_
                  rintro ⟨c274, c277, c278, i279, O280, v275⟩ k293 wd281 ⟨h, hst282, hf276, hb273⟩
                  obtain ⟨j295, q296, rfl, h, hn297⟩ := rnd1 h
                  unfold law01_BitsBack_lp2 at h
                  try dsimp only at h hst282 hf276 hb273
                  refine (show WC _ _ _ _ [(0, v0), (1, v1), (5, .pointer (some ⟨p31, 0, none⟩)), (6, v50), (8, vr221), (9, .pointer (some ⟨p267, 0, none⟩)), (11, vi i279)] _ from ?_)
                  refine WC.seq ?_
                  refine WC.seq ?_
                  refine WC.region ?_
                  refine WL.y (Y.move rfl) rfl ?_
                  refine WL.y (Y.move rfl) rfl ?_
                  have hf298 := hf24.mono (imm_st hst41 rfl rfl)
                  have hf299 := hf298.mono (imm_st hst54 rfl rfl)
                  have hf300 := hf299.mono (imm_st hst225 rfl rfl)
                  have hf301 := hf300.mono (imm_st hst237 rfl rfl)
                  have hf302 := hf301.mono (imm_st hst250 rfl rfl)
                  have hf303 := hf302.mono (imm_st hst282 rfl rfl)
                  refine WL.y (Y.len ty22 rfl hf303) rfl ?_
                  refine WL.y (Y.lss_i rfl rfl) rfl ?_
                  refine WL.nil ?_
                  refine At.then ?_
                  rcases cnd h with ⟨hc304, h⟩ | ⟨hc304, h⟩
                  · refine WC.condT' rfl hc304 ?_
                    refine WC.skip ?_
                    refine At.then ?_
                    refine WC.seq ?_
                    obtain ⟨p314, h, hk315⟩ := flow1 h
                    refine WC.join (σ := (List UInt8 × Int × Int × Own × Value)) (fun x w' => p314 = .go (x.1, x.2.1, x.2.2.1) ∧ Stp [15] O280 wd281 x.2.2.2.1 w' ∧ Sl Rep.b w' (imm x.2.2.2.1) x.2.2.2.2 x.1 ∧ Blk 15 x.2.2.2.1 w' p267 77 [x.2.2.2.2, vi x.2.1, vi x.2.2.1]) (fun x => [(0, v0), (1, v1), (5, .pointer (some ⟨p31, 0, none⟩)), (6, v50), (8, vr221), (9, .pointer (some ⟨p267, 0, none⟩)), (11, vi i279)]) ?_ ?_
                    · refine WC.block ?_
                      refine WC.seq ?_
                      refine WC.seq ?_
                      refine WC.region ?_
                      refine WL.y (Y.move rfl) rfl ?_
                      refine WL.y (Y.move rfl) rfl ?_
                      obtain ⟨e316, he316, h⟩ := bnd h
                      have hf325 := hf51.st hst225 rfl rfl rfl
                      have hf326 := hf325.st hst237 rfl rfl rfl
                      have hf327 := hf326.st hst250 rfl rfl rfl
                      have hf328 := hf327.st hst282 rfl rfl rfl
                      obtain ⟨b317, cap324, cs323, hv318, hi319, hl320, hc321, hok322⟩ := OwnSl.at hf328 he316
                      obtain rfl := hok322
                      replace hc321 : CellsAt _ _ _ [.bool e316] := hc321
                      have hca329 := CAt.own hf328 hv318 hc321
                      refine WL.y (Y.indexAddr ty27 ty4 rfl hv318 rfl hi319 hl320) rfl ?_
                      refine WL.y (Y.loadSc ty4 rfl rfl hca329.at_) rfl ?_
                      refine WL.y (Y.not rfl) rfl ?_
                      refine WL.nil ?_
                      refine At.then ?_
                      rcases cnd h with ⟨hc330, h⟩ | ⟨hc330, h⟩
                      · refine WC.condT' rfl hc330 ?_
                        refine WC.exit ?_
                        refine At.thenX ?_
                        refine At.inBlockHit ?_
                        exact At.join (σ := (List UInt8 × Int × Int × Own × Value)) (c274, c277, c278, O280, v275) ⟨go2 h, (Stp.refl _ _ _), hf276, hb273⟩ (.cons rfl (.cons rfl (.cons rfl (.cons rfl (.cons rfl (.cons rfl (.cons rfl .nil)))))))
                      · refine WC.condF' rfl hc330 ?_
                        refine WC.skip ?_
                        refine At.then ?_
                        refine WC.seq ?_
                        refine WC.region ?_
                        refine WL.y (Y.move rfl) rfl ?_
                        refine WL.y (Y.move rfl) rfl ?_
                        refine WL.y (Y.move rfl) rfl ?_
                        obtain ⟨e331, he331, h⟩ := bnd h
                        have hf340 := hf12.mono (imm_st hst21 rfl rfl)
                        have hf341 := hf340.mono (imm_st hst41 rfl rfl)
                        have hf342 := hf341.mono (imm_st hst54 rfl rfl)
                        have hf343 := hf342.mono (imm_st hst225 rfl rfl)
                        have hf344 := hf343.mono (imm_st hst237 rfl rfl)
                        have hf345 := hf344.mono (imm_st hst250 rfl rfl)
                        have hf346 := hf345.mono (imm_st hst282 rfl rfl)
                        obtain ⟨b332, off347, cap339, cs338, hv333, hi334, hl335, hc336, hok337, hA348⟩ := Sl.at2 hf346 he331
                        obtain rfl := hok337
                        replace hc336 : CellsAt _ _ _ [vi e331] := hc336
                        have hca349 := CAt.imm hc336 hA348
                        refine WL.y (Y.indexAddr ty23 ty3 rfl hv333 rfl hi334 hl335) rfl ?_
                        refine WL.y (Y.loadSc ty3 rfl rfl hca349.at_) rfl ?_
                        obtain ⟨⟨r350, r351, r352⟩, hp353, h⟩ := bnd h
                        refine WL.call (vals := [.pointer (some ⟨p267, 0, none⟩), vi e331]) kok17 rfl rfl (c_bitio_Reader_Take (A := imm O280) (a0 := (bitio_Reader.mk c274 c277 c278)) hf276 hb273.blk (fun k hk => imm_ne hb273.lab rfl k hk) hp353) ?_
                        rintro vr359 wd358 ⟨z354, rfl, hm357, f355, f356⟩
                        obtain ⟨O360, hold361, hnew362, hst363⟩ := adopt O280 (fun k => 1) [15] hm357 (memB hb273.lab rfl)
                        have hf364 : Sl Rep.b wd358 (imm O360) z354 r352.b := Sl.adoptI (O := O280) f355 (fun _ hk => hk) (fun _ _ => Nat.le_refl _) hold361 hnew362
                        have hb365 : Blk 15 O360 wd358 p267 77 [z354, vi r352.n, vi r352.at_] := Blk.adopt hb273 hold361 f356
                        refine WL.y (Y.move rfl) rfl ?_
                        refine WL.y (Y.extract rfl rfl) rfl ?_
                        refine WL.y (Y.extract rfl rfl) rfl ?_
                        refine WL.y (Y.assign rfl) rfl ?_
                        refine WL.y (Y.assign rfl) rfl ?_
                        refine WL.nil ?_
                        refine At.then ?_
                        refine WC.seq ?_
                        refine WC.region ?_
                        refine WL.y (Y.move rfl) rfl ?_
                        refine WL.y (Y.not rfl) rfl ?_
                        refine WL.y (Y.move rfl) rfl ?_
                        obtain ⟨p367, h, hk368⟩ := bnd h
                        refine WL.cut 7 (σ := Bool) (fun x w' => x = p367 ∧ wd358 = w') (fun x => [(0, v0), (1, v1), (5, .pointer (some ⟨p31, 0, none⟩)), (6, v50), (8, vr221), (9, .pointer (some ⟨p267, 0, none⟩)), (11, vi i279), (91, .bool x)]) ?_ ?_
                        · rcases cnd h with ⟨hE369, h⟩ | ⟨hE369, h⟩
                          · refine WL.ren 84 rfl (congrArg Value.bool hE369) ?_
                            refine WL.gS rfl rfl rfl rfl ?_
                            refine WL.gS rfl rfl rfl rfl ?_
                            refine WL.gS rfl rfl rfl rfl ?_
                            refine WL.gS rfl rfl rfl rfl ?_
                            refine WL.gS rfl rfl rfl rfl ?_
                            refine WL.gS rfl rfl rfl rfl ?_
                            refine WL.y (Y.pick (b := true) rfl rfl) rfl ?_
                            exact WL.nil (At.join (σ := Bool) true ⟨some1 h, rfl⟩ (.cons rfl (.cons rfl (.cons rfl (.cons rfl (.cons rfl (.cons rfl (.cons rfl (.cons rfl .nil)))))))))
                          · refine WL.ren 84 rfl (congrArg Value.bool hE369) ?_
                            refine WL.ung rfl rfl ?_
                            refine WL.y (Y.move rfl) rfl ?_
                            refine WL.ung rfl rfl ?_
                            refine WL.y (Y.move rfl) rfl ?_
                            refine WL.ung rfl rfl ?_
                            refine WL.y (Y.move rfl) rfl ?_
                            refine WL.ung rfl rfl ?_
                            obtain ⟨e370, he370, h⟩ := bnd h
                            have hf379 := hf303.mono (imm_st hst363 rfl rfl)
                            obtain ⟨b371, off380, cap378, cs377, hv372, hi373, hl374, hc375, hok376, hA381⟩ := Sl.at2 hf379 he370
                            obtain rfl := hok376
                            replace hc375 : CellsAt _ _ _ [vu e370] := hc375
                            have hca382 := CAt.imm hc375 hA381
                            refine WL.y (Y.indexAddr ty22 ty29 rfl hv372 rfl hi373 hl374) rfl ?_
                            refine WL.ung rfl rfl ?_
                            refine WL.y (Y.loadSc ty29 rfl rfl hca382.at_) rfl ?_
                            refine WL.ung rfl rfl ?_
                            refine WL.y (Y.neq_u rfl rfl) rfl ?_
                            refine WL.y (Y.pick (b := false) rfl rfl) rfl ?_
                            exact WL.nil (At.join (σ := Bool) (!decide (r350 = e370)) ⟨some1 h, rfl⟩ (.cons rfl (.cons rfl (.cons rfl (.cons rfl (.cons rfl (.cons rfl (.cons rfl (.cons rfl .nil)))))))))
                        · rintro x366 _ ⟨rfl, rfl⟩
                          replace h := hk368
                          try dsimp only at h
                          refine (show WL _ _ _ _ _ [(0, v0), (1, v1), (5, .pointer (some ⟨p31, 0, none⟩)), (6, v50), (8, vr221), (9, .pointer (some ⟨p267, 0, none⟩)), (11, vi i279), (91, .bool x366)] _ from ?_)
                          refine WL.nil ?_
                          refine At.then ?_
                          rcases cnd h with ⟨hc383, h⟩ | ⟨hc383, h⟩
                          · refine WC.condT' rfl hc383 ?_
                            refine WC.seq ?_
                            refine WC.region ?_
                            refine WL.y (Y.assign rfl) rfl ?_
                            refine WL.nil ?_
                            refine At.then ?_
                            refine WC.ret ?_
                            refine At.inBlockR ?_
                            have h := outs1 h hk315
                            refine At.joinR ?_
                            refine At.thenR ?_
                            refine At.loopR ?_
                            have h := outr1 h hn297 hk294
                            refine At.joinBR ?_
                            refine At.inBlockR ?_
                            have h := outs1 h hk265
                            refine At.joinR ?_
                            refine At.thenR ?_
                            obtain rfl := some1 h
                            have hs384 : Stp [11, 12, 14, 15, 1001, 1002, 1003, 1004] (Lg.O0 A) w O360 wd358 := (Stp.trans (Stp.up hst21 rfl) (Stp.trans (Stp.up hst41 rfl) (Stp.trans (Stp.up hst54 rfl) (Stp.trans (Stp.up hst225 rfl) (Stp.trans (Stp.up hst237 rfl) (Stp.trans (Stp.up hst250 rfl) (Stp.trans (Stp.up hst282 rfl) (Stp.up hst363 rfl))))))))
                            exact At.res (.inl rfl) rfl (.tmp rfl .nil) ⟨rfl, (Stp.ext hs384 rfl rfl)⟩
                          · refine WC.condF' rfl hc383 ?_
                            refine WC.skip ?_
                            refine At.inBlock ?_
                            exact At.join (σ := (List UInt8 × Int × Int × Own × Value)) (r352.b, r352.n, r352.at_, O360, z354) ⟨go2 h, (Stp.up hst363 rfl), hf364, hb365⟩ (.cons rfl (.cons rfl (.cons rfl (.cons rfl (.cons rfl (.cons rfl (.cons rfl .nil)))))))
                    · rintro ⟨c306, c309, c310, O311, v307⟩ wd312 ⟨rfl, hst313, hf308, hb305⟩
                      replace h := flowK_go hk315
                      try dsimp only at h hst313 hf308 hb305
                      refine (show At _ _ _ [(0, v0), (1, v1), (5, .pointer (some ⟨p31, 0, none⟩)), (6, v50), (8, vr221), (9, .pointer (some ⟨p267, 0, none⟩)), (11, vi i279)] _ from ?_)
                      refine At.then ?_
                      refine WC.region ?_
                      refine WL.y (Y.move rfl) rfl ?_
                      refine WL.y (Y.add_i rfl rfl) rfl ?_
                      obtain ⟨i385, hi385, h⟩ := lt1 h
                      refine WL.yE (Y.assign rfl) (congrArg vi hi385.symm) rfl ?_
                      refine WL.nil ?_
                      exact At.round (c306, c309, c310, i385, O311, v307) j295 (Nat.lt_succ_self _) ⟨next1 h hn297, (Stp.trans (Stp.up hst282 rfl) (Stp.up hst313 rfl)), hf308, hb305⟩ (.cons rfl (.cons rfl (.cons rfl (.cons rfl (.cons rfl (.cons rfl (.cons rfl .nil)))))))
                  · refine WC.condF' rfl hc304 ?_
                    refine WC.exit ?_
                    refine At.thenX ?_
                    refine At.loopX ?_
                    exact At.hitB (σ := (List UInt8 × Int × Int × Own × Value)) (c274, c277, c278, O280, v275) ⟨brk1 h hn297, (Stp.up hst282 rfl), hf276, hb273⟩ (.cons rfl (.cons rfl (.cons rfl .nil)))
                · rintro ⟨c284, c287, c288, O289, v285⟩ wd290 ⟨rfl, hst291, hf286, hb283⟩
                  replace h := flowK_go hk294
                  try dsimp only at h hst291 hf286 hb283
                  refine (show At _ _ _ [(5, .pointer (some ⟨p31, 0, none⟩)), (8, vr221), (9, .pointer (some ⟨p267, 0, none⟩))] _ from ?_)
                  refine At.inBlockHit ?_
                  obtain ⟨O386, hst387, hb388⟩ := Blk.rlb 1010 rfl hb283
                  have hf389 := hf286.mono (imm_st hst387 rfl rfl)
                  exact At.join (σ := (List UInt8 × Int × Int × Own × Nat × Value)) (c284, c287, c288, O386, p267, v285) ⟨go2 h, (Stp.trans (Stp.up hst291 rfl) (Stp.up hst387 rfl)), hf389, hb388⟩ (.cons rfl (.cons rfl (.cons rfl .nil)))
              · rintro ⟨c256, c259, c260, O261, b254, v257⟩ wd262 ⟨rfl, hst263, hf258, hb255⟩
                replace h := flowK_go hk265
                try dsimp only at h hst263 hf258 hb255
                refine (show At _ _ _ [(5, .pointer (some ⟨p31, 0, none⟩)), (8, vr221), (9, .pointer (some ⟨b254, 0, none⟩))] _ from ?_)
                refine At.then ?_
                refine WC.seq ?_
                refine WC.seq ?_
                refine WC.region ?_
                refine WL.y (Y.assign rfl) rfl ?_
                refine WL.nil ?_
                refine At.then ?_
                obtain ⟨p396, h, hk397⟩ := bnd h
                refine WC.join (σ := (List UInt8 × Own)) (fun x w' => x.1 = p396 ∧ Stp [14, 1011, 1012] O261 wd262 x.2 w' ∧ OwnSl 1014 Rep.b 5 x.2 w' vr221 x.1) (fun x => [(5, .pointer (some ⟨p31, 0, none⟩)), (8, vr221), (9, .pointer (some ⟨b254, 0, none⟩))]) ?_ ?_
                · refine WC.block ?_
                  obtain ⟨p411, h, hk413⟩ := flow1 h
                  obtain ⟨k412, h⟩ := loop_some h
                  refine WC.joinB 4 (σ := (List UInt8 × Own)) (fun x w' => p411 = .go x.1 ∧ Stp [14, 1011] O261 wd262 x.2 w' ∧ OwnSl 1012 Rep.b 5 x.2 w' vr221 x.1) (fun x => [(5, .pointer (some ⟨p31, 0, none⟩)), (8, vr221), (9, .pointer (some ⟨b254, 0, none⟩))]) ?_ ?_
                  · have hf414 := hf238.st hst250 rfl rfl rfl
                    have hf415 := hf414.st hst263 rfl rfl rfl
                    obtain ⟨O416, hst417, ho418⟩ := OwnSl.rlb 1011 rfl hf415
                    refine WC.loop (σ := (List UInt8 × Int × Own)) (fun x k w' => loopN k (law01_BitsBack_lp3) (x.1, x.2.1) = some p411 ∧ Stp [14, 1011] O261 wd262 x.2.2 w' ∧ OwnSl 1011 Rep.b 5 x.2.2 w' vr221 x.1) (fun x => [(5, .pointer (some ⟨p31, 0, none⟩)), (8, vr221), (9, .pointer (some ⟨b254, 0, none⟩)), (14, vi x.2.1)]) (r215, 0, O416) k412 (.cons rfl (.cons rfl (.cons rfl (.cons rfl .nil)))) ⟨h, (Stp.up hst417 rfl), ho418⟩ ?_
                    rintro ⟨b398, i401, O402⟩ k412 wd403 ⟨h, hst404, hf400⟩
                    obtain ⟨j419, q420, rfl, h, hn421⟩ := rnd1 h
                    unfold law01_BitsBack_lp3 at h
                    try dsimp only at h hst404 hf400
                    refine (show WC _ _ _ _ [(5, .pointer (some ⟨p31, 0, none⟩)), (8, vr221), (9, .pointer (some ⟨b254, 0, none⟩)), (14, vi i401)] _ from ?_)
                    refine WC.seq ?_
                    refine WC.seq ?_
                    refine WC.region ?_
                    refine WL.y (Y.move rfl) rfl ?_
                    refine WL.y (Y.move rfl) rfl ?_
                    refine WL.y (Y.len ty30 rfl hf400.src.sl) rfl ?_
                    refine WL.y (Y.lss_i rfl rfl) rfl ?_
                    refine WL.nil ?_
                    refine At.then ?_
                    rcases cnd h with ⟨hc422, h⟩ | ⟨hc422, h⟩
                    · refine WC.condT' rfl hc422 ?_
                      refine WC.skip ?_
                      refine At.then ?_
                      refine WC.seq ?_
                      refine WC.block ?_
                      refine WC.region ?_
                      refine WL.y (Y.move rfl) rfl ?_
                      refine WL.y (Y.move rfl) rfl ?_
                      obtain ⟨e423, he423, h⟩ := bnd h
                      obtain ⟨b424, cap431, cs430, hv425, hi426, hl427, hc428, hok429⟩ := OwnSl.at hf400 he423
                      obtain rfl := hok429
                      replace hc428 : CellsAt _ _ _ [vb e423] := hc428
                      have hca432 := CAt.own hf400 hv425 hc428
                      refine WL.y (Y.indexAddr ty30 ty5 rfl hv425 rfl hi426 hl427) rfl ?_
                      obtain ⟨xs433, hxs433, h⟩ := bnd h
                      refine WL.storeOwn (by decide) ty5 rfl rfl rfl hf400 hv425 hxs433 ?_
                      intro wd434 hst435 ho436
                      refine WL.nil ?_
                      refine At.inBlock ?_
                      refine At.then ?_
                      refine WC.region ?_
                      refine WL.y (Y.move rfl) rfl ?_
                      refine WL.y (Y.add_i rfl rfl) rfl ?_
                      obtain ⟨i437, hi437, h⟩ := lt1 h
                      refine WL.yE (Y.assign rfl) (congrArg vi hi437.symm) rfl ?_
                      refine WL.nil ?_
                      exact At.round (xs433, i437, O402) j419 (Nat.lt_succ_self _) ⟨next1 h hn421, (Stp.trans (Stp.up hst404 rfl) (Stp.up hst435 rfl)), ho436⟩ (.cons rfl (.cons rfl (.cons rfl (.cons rfl .nil))))
                    · refine WC.condF' rfl hc422 ?_
                      refine WC.exit ?_
                      refine At.thenX ?_
                      refine At.loopX ?_
                      obtain ⟨O438, hst439, ho440⟩ := OwnSl.rlb 1012 rfl hf400
                      exact At.hitB (σ := (List UInt8 × Own)) (b398, O438) ⟨brk1 h hn421, (Stp.trans (Stp.up hst404 rfl) (Stp.up hst439 rfl)), ho440⟩ (.cons rfl (.cons rfl (.cons rfl .nil)))
                  · rintro ⟨b405, O408⟩ wd409 ⟨rfl, hst410, hf407⟩
                    replace h := flowK_go hk413
                    try dsimp only at h hst410 hf407
                    refine (show At _ _ _ [(5, .pointer (some ⟨p31, 0, none⟩)), (8, vr221), (9, .pointer (some ⟨b254, 0, none⟩))] _ from ?_)
                    refine At.inBlockHit ?_
                    obtain ⟨O441, hst442, ho443⟩ := OwnSl.rlb 1014 rfl hf407
                    exact At.join (σ := (List UInt8 × Own)) (b405, O441) ⟨some1 h, (Stp.trans (Stp.up hst410 rfl) (Stp.up hst442 rfl)), ho443⟩ (.cons rfl (.cons rfl (.cons rfl .nil)))
                · rintro ⟨b390, O393⟩ wd394 ⟨rfl, hst395, hf392⟩
                  replace h := hk397
                  try dsimp only at h hst395 hf392
                  refine (show At _ _ _ [(5, .pointer (some ⟨p31, 0, none⟩)), (8, vr221), (9, .pointer (some ⟨b254, 0, none⟩))] _ from ?_)
                  refine At.then ?_
                  refine WC.seq ?_
                  refine WC.region ?_
                  refine WL.y (Y.move rfl) rfl ?_
                  have hf444 := hb255.st hst395 rfl
                  have hf445 := hf258.mono (imm_st hst395 rfl rfl)
                  obtain ⟨r446, hp447, h⟩ := bnd h
                  refine WL.call (vals := [.pointer (some ⟨b254, 0, none⟩)]) kok18 rfl rfl (c_bitio_Reader_Left (A := fun _ => True) (a0 := (bitio_Reader.mk c256 c259 c260)) (Sl.all hf445) hf444.blk trivial hp447) ?_
                  rintro vr450 wd449 ⟨rfl, hm448⟩
                  obtain ⟨O451, hold452, hnew453, hst454⟩ := adoptE O393 (fun k => 1) hm448
                  refine WL.y (Y.eql_i rfl rfl) rfl ?_
                  refine WL.y (Y.move rfl) rfl ?_
                  obtain ⟨p459, h, hk460⟩ := bnd h
                  refine WL.cut 13 (σ := (Bool × Own)) (fun x w' => x.1 = p459 ∧ Stp [] O451 wd449 x.2 w') (fun x => [(117, .bool x.1)]) ?_ ?_
                  · rcases cnd h with ⟨hE461, h⟩ | ⟨hE461, h⟩
                    · refine WL.ren 104 rfl (congrArg Value.bool hE461) ?_
                      refine WL.ung rfl rfl ?_
                      refine WL.y (Y.move rfl) rfl ?_
                      refine WL.ung rfl rfl ?_
                      have hf462 := hf392.st hst454 rfl rfl rfl
                      refine WL.y (Y.len ty30 rfl hf462.src.sl) rfl ?_
                      refine WL.ung rfl rfl ?_
                      refine WL.y (Y.eql_i rfl rfl) rfl ?_
                      refine WL.ung rfl rfl ?_
                      refine WL.y (Y.move rfl) rfl ?_
                      obtain ⟨p467, h, hk468⟩ := bnd h
                      refine WL.cut 8 (σ := (Bool × Own)) (fun x w' => x.1 = p467 ∧ Stp [] O451 wd449 x.2 w') (fun x => [(104, .bool true), (116, .bool x.1)]) ?_ ?_
                      · rcases cnd h with ⟨hE469, h⟩ | ⟨hE469, h⟩
                        · refine WL.ren 108 rfl (congrArg Value.bool hE469) ?_
                          refine WL.gS rfl rfl rfl rfl ?_
                          refine WL.gS rfl rfl rfl rfl ?_
                          refine WL.gS rfl rfl rfl rfl ?_
                          refine WL.gS rfl rfl rfl rfl ?_
                          refine WL.gS rfl rfl rfl rfl ?_
                          refine WL.gS rfl rfl rfl rfl ?_
                          refine WL.gS rfl rfl rfl rfl ?_
                          refine WL.ung rfl rfl ?_
                          refine WL.y (Y.pick (b := true) rfl rfl) rfl ?_
                          exact WL.nil (At.join (σ := (Bool × Own)) (true, O451) ⟨some1 h, (Stp.refl _ _ _)⟩ (.cons rfl (.cons rfl .nil)))
                        · refine WL.ren 108 rfl (congrArg Value.bool hE469) ?_
                          refine WL.ung rfl rfl ?_
                          refine WL.y (Y.move rfl) rfl ?_
                          refine WL.ung rfl rfl ?_
                          have hf470 := hf227.st hst237 rfl
                          have hf471 := hf470.st hst250 rfl
                          have hf472 := hf471.st hst263 rfl
                          have hf473 := hf472.st hst395 rfl
                          have hf474 := hf473.st hst454 rfl
                          have hf475 := hf228.st hst237 rfl rfl rfl
                          have hf476 := hf475.st hst250 rfl rfl rfl
                          have hf477 := hf476.st hst263 rfl rfl rfl
                          have hf478 := hf477.st hst395 rfl rfl rfl
                          have hf479 := hf478.st hst454 rfl rfl rfl
                          obtain ⟨r480, hp481, h⟩ := bnd h
                          refine WL.call (vals := [.pointer (some ⟨p31, 0, none⟩)]) kok16 rfl rfl (c_bitio_Writer_Len (A := fun _ => True) (a0 := (bitio_Writer.mk c45 c48)) (hf479.src.sl) hf474.blk trivial hp481) ?_
                          rintro vr484 wd483 ⟨rfl, hm482⟩
                          obtain ⟨O485, hold486, hnew487, hst488⟩ := adoptE O451 (fun k => 1) hm482
                          refine WL.ung rfl rfl ?_
                          refine WL.y (Y.move rfl) rfl ?_
                          refine WL.ung rfl rfl ?_
                          have hf489 := hf462.st hst488 rfl rfl rfl
                          refine WL.y (Y.len ty30 rfl hf489.src.sl) rfl ?_
                          refine WL.ung rfl rfl ?_
                          refine WL.y (Y.mul_i rfl rfl) rfl ?_
                          refine WL.ung rfl rfl ?_
                          refine WL.y (Y.sub_i rfl rfl) rfl ?_
                          refine WL.ung rfl rfl ?_
                          refine WL.y (Y.gtr_i rfl rfl) rfl ?_
                          refine WL.ung rfl rfl ?_
                          refine WL.y (Y.pick (b := false) rfl rfl) rfl ?_
                          exact WL.nil (At.join (σ := (Bool × Own)) (decide (w64 ((w64 (8 * (b390.length : Int))) - 8) < r480), O485) ⟨some1 h, (Stp.up hst488 rfl)⟩ (.cons rfl (.cons rfl .nil)))
                      · rintro ⟨x463, O464⟩ wd465 ⟨rfl, hst466⟩
                        replace h := hk468
                        try dsimp only at h hst466
                        refine (show WL _ _ _ _ _ [(104, .bool true), (116, .bool x463)] _ from ?_)
                        refine WL.y (Y.pick (b := true) rfl rfl) rfl ?_
                        exact WL.nil (At.join (σ := (Bool × Own)) (x463, O464) ⟨some1 h, (Stp.up hst466 rfl)⟩ (.cons rfl .nil))
                    · refine WL.ren 104 rfl (congrArg Value.bool hE461) ?_
                      refine WL.gS rfl rfl rfl rfl ?_
                      refine WL.gS rfl rfl rfl rfl ?_
                      refine WL.gS rfl rfl rfl rfl ?_
                      refine WL.gS rfl rfl rfl rfl ?_
                      refine WL.gS rfl rfl rfl rfl ?_
                      refine WL.gS rfl rfl rfl rfl ?_
                      refine WL.gS rfl rfl rfl rfl ?_
                      refine WL.gS rfl rfl rfl rfl ?_
                      refine WL.gS rfl rfl rfl rfl ?_
                      refine WL.gS rfl rfl rfl rfl ?_
                      refine WL.gS rfl rfl rfl rfl ?_
                      refine WL.gS rfl rfl rfl rfl ?_
                      refine WL.y (Y.pick (b := false) rfl rfl) rfl ?_
                      exact WL.nil (At.join (σ := (Bool × Own)) (false, O451) ⟨some1 h, (Stp.refl _ _ _)⟩ (.cons rfl .nil))
                  · rintro ⟨x455, O456⟩ wd457 ⟨rfl, hst458⟩
                    replace h := hk460
                    try dsimp only at h hst458
                    refine (show WL _ _ _ _ _ [(117, .bool x455)] _ from ?_)
                    refine WL.y (Y.assign rfl) rfl ?_
                    refine WL.nil ?_
                    refine At.then ?_
                    refine WC.ret ?_
                    obtain rfl := some1 h
                    have hs490 : Stp [11, 12, 14, 15, 1001, 1002, 1003, 1004, 1011, 1012] (Lg.O0 A) w O456 wd457 := (Stp.trans (Stp.up hst21 rfl) (Stp.trans (Stp.up hst41 rfl) (Stp.trans (Stp.up hst54 rfl) (Stp.trans (Stp.up hst225 rfl) (Stp.trans (Stp.up hst237 rfl) (Stp.trans (Stp.up hst250 rfl) (Stp.trans (Stp.up hst263 rfl) (Stp.trans (Stp.up hst395 rfl) (Stp.trans (Stp.up hst454 rfl) (Stp.up hst458 rfl))))))))))
                    exact At.res (.inl rfl) rfl (.tmp rfl .nil) ⟨rfl, (Stp.ext hs490 rfl rfl)⟩

end Go.Lg
