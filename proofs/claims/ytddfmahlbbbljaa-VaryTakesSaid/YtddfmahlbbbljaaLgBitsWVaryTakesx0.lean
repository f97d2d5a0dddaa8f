/- The walks of VaryTakes and of what it calls, printed by gen.py. -/
import Derived.Test.YtddfmahlbbbljaaLgBitsP
import Derived.Test.YtddfmahlbbbljaaProg
set_option linter.unusedVariables false
namespace Go.Lg
open Go Go.Proofs
set_option maxRecDepth 100000
theorem fmix : Try.prog.follows .mixedOrders = true := by kernel_rfl
theorem ty3 : TyOk Try.prog 3 (.int .i64) 1 8 (.int .i64 0) := tyOk Try.underlying3 (by kernel_rfl)
theorem ty5 : TyOk Try.prog 5 (.int .u8) 1 1 (.int .u8 0) := tyOk Try.underlying5 (by kernel_rfl)
theorem ty9 : TyOk Try.prog 9 .string 1 16 (.string ⟨#[]⟩) := tyOk Try.underlying9 (by kernel_rfl)
theorem ty23 : TyOk Try.prog 23 (.slice 3) 1 24 (.slice none 0 0) := tyOk Try.underlying23 (by kernel_rfl)
theorem ty25 : TyOk Try.prog 25 (.pointer 73) 1 8 (.pointer none) := tyOk Try.underlying25 (by kernel_rfl)
theorem ty29 : TyOk Try.prog 29 (.int .u64) 1 8 (.int .u64 0) := tyOk Try.underlying29 (by kernel_rfl)
theorem ty30 : TyOk Try.prog 30 (.slice 5) 1 24 (.slice none 0 0) := tyOk Try.underlying30 (by kernel_rfl)
theorem ty32 : TyOk Try.prog 32 (.pointer 77) 1 8 (.pointer none) := tyOk Try.underlying32 (by kernel_rfl)
theorem ty33 : TyOk Try.prog 33 (.int .i64) 1 8 (.int .i64 0) := tyOk Try.underlying33 (by kernel_rfl)
theorem ty59 : TyOk Try.prog 59 (.struct #[(Field.mk "V" 29 0 false "" "" 0), (Field.mk "N" 3 1 false "" "" 8), (Field.mk "E" 33 2 false "" "" 16)]) 3 24 (.agg #[(.int .u64 0), (.int .i64 0), (.int .i64 0)]) := tyOk Try.underlying59 (by kernel_rfl)
theorem ty67 : TyOk Try.prog 67 (.pointer 83) 1 8 (.pointer none) := tyOk Try.underlying67 (by kernel_rfl)
theorem ty74 : TyOk Try.prog 74 (.int .u64) 1 8 (.int .u64 0) := tyOk Try.underlying74 (by kernel_rfl)
theorem ty77 : TyOk Try.prog 77 (.struct #[(Field.mk "b" 30 0 false "" "limnograph/bitio" 0), (Field.mk "n" 3 1 false "" "limnograph/bitio" 24), (Field.mk "at" 3 2 false "" "limnograph/bitio" 32)]) 3 40 (.agg #[(.slice none 0 0), (.int .i64 0), (.int .i64 0)]) := tyOk Try.underlying77 (by kernel_rfl)
theorem ty78 : TyOk Try.prog 78 (.array 4 3) 4 32 (.agg #[(.int .i64 0), (.int .i64 0), (.int .i64 0), (.int .i64 0)]) := tyOk Try.underlying78 (by kernel_rfl)
theorem ty85 : TyOk Try.prog 85 (.array 5 3) 5 40 (.agg #[(.int .i64 0), (.int .i64 0), (.int .i64 0), (.int .i64 0), (.int .i64 0)]) := tyOk Try.underlying85 (by kernel_rfl)
theorem fo59_0 : FieldOk Try.prog 59 0 0 := fieldOk Try.underlying59 rfl rfl (by kernel_rfl)
theorem fo59_1 : FieldOk Try.prog 59 1 1 := fieldOk Try.underlying59 rfl rfl (by kernel_rfl)
theorem fo59_2 : FieldOk Try.prog 59 2 2 := fieldOk Try.underlying59 rfl rfl (by kernel_rfl)
theorem fo73_0 : FieldOk Try.prog 73 0 0 := fieldOk Try.underlying73 rfl rfl (by kernel_rfl)
theorem fo73_1 : FieldOk Try.prog 73 1 1 := fieldOk Try.underlying73 rfl rfl (by kernel_rfl)
theorem fo77_0 : FieldOk Try.prog 77 0 0 := fieldOk Try.underlying77 rfl rfl (by kernel_rfl)
theorem fo77_1 : FieldOk Try.prog 77 1 1 := fieldOk Try.underlying77 rfl rfl (by kernel_rfl)
theorem fo77_2 : FieldOk Try.prog 77 2 2 := fieldOk Try.underlying77 rfl rfl (by kernel_rfl)
theorem fo83_0 : FieldOk Try.prog 83 0 0 := fieldOk Try.underlying83 rfl rfl (by kernel_rfl)
theorem fo83_1 : FieldOk Try.prog 83 1 1 := fieldOk Try.underlying83 rfl rfl (by kernel_rfl)
theorem fo83_2 : FieldOk Try.prog 83 2 2 := fieldOk Try.underlying83 rfl rfl (by kernel_rfl)
theorem kok12 : CallOk Try.prog 12 := callOk Try.func12 (by kernel_rfl) rfl
theorem kok13 : CallOk Try.prog 13 := callOk Try.func13 (by kernel_rfl) rfl
theorem kok14 : CallOk Try.prog 14 := callOk Try.func14 (by kernel_rfl) rfl
theorem kok15 : CallOk Try.prog 15 := callOk Try.func15 (by kernel_rfl) rfl
theorem kok16 : CallOk Try.prog 16 := callOk Try.func16 (by kernel_rfl) rfl
theorem kok17 : CallOk Try.prog 17 := callOk Try.func17 (by kernel_rfl) rfl
theorem kok18 : CallOk Try.prog 18 := callOk Try.func18 (by kernel_rfl) rfl
theorem kok20 : CallOk Try.prog 20 := callOk Try.func20 (by kernel_rfl) rfl
theorem kok21 : CallOk Try.prog 21 := callOk Try.func21 (by kernel_rfl) rfl
theorem kok22 : CallOk Try.prog 22 := callOk Try.func22 (by kernel_rfl) rfl
theorem kok23 : CallOk Try.prog 23 := callOk Try.func23 (by kernel_rfl) rfl
theorem kok24 : CallOk Try.prog 24 := callOk Try.func24 (by kernel_rfl) rfl
theorem kok28 : CallOk Try.prog 28 := callOk Try.func28 (by kernel_rfl) rfl
theorem kok29 : CallOk Try.prog 29 := callOk Try.func29 (by kernel_rfl) rfl
theorem kok30 : CallOk Try.prog 30 := callOk Try.func30 (by kernel_rfl) rfl
theorem kok31 : CallOk Try.prog 31 := callOk Try.func31 (by kernel_rfl) rfl
theorem kok32 : CallOk Try.prog 32 := callOk Try.func32 (by kernel_rfl) rfl
theorem kok35 : CallOk Try.prog 35 := callOk Try.func35 (by kernel_rfl) rfl
theorem kok36 : CallOk Try.prog 36 := callOk Try.func36 (by kernel_rfl) rfl
theorem kok37 : CallOk Try.prog 37 := callOk Try.func37 (by kernel_rfl) rfl
theorem kok38 : CallOk Try.prog 38 := callOk Try.func38 (by kernel_rfl) rfl
theorem kok39 : CallOk Try.prog 39 := callOk Try.func39 (by kernel_rfl) rfl
theorem kok40 : CallOk Try.prog 40 := callOk Try.func40 (by kernel_rfl) rfl
theorem kok41 : CallOk Try.prog 41 := callOk Try.func41 (by kernel_rfl) rfl
theorem kok42 : CallOk Try.prog 42 := callOk Try.func42 (by kernel_rfl) rfl
theorem kok43 : CallOk Try.prog 43 := callOk Try.func43 (by kernel_rfl) rfl
theorem kok46 : CallOk Try.prog 46 := callOk Try.func46 (by kernel_rfl) rfl
theorem kok47 : CallOk Try.prog 47 := callOk Try.func47 (by kernel_rfl) rfl
theorem kok48 : CallOk Try.prog 48 := callOk Try.func48 (by kernel_rfl) rfl
theorem kok49 : CallOk Try.prog 49 := callOk Try.func49 (by kernel_rfl) rfl
theorem kok50 : CallOk Try.prog 50 := callOk Try.func50 (by kernel_rfl) rfl
theorem kok51 : CallOk Try.prog 51 := callOk Try.func51 (by kernel_rfl) rfl
theorem kok52 : CallOk Try.prog 52 := callOk Try.func52 (by kernel_rfl) rfl
theorem kok53 : CallOk Try.prog 53 := callOk Try.func53 (by kernel_rfl) rfl
theorem kok54 : CallOk Try.prog 54 := callOk Try.func54 (by kernel_rfl) rfl
theorem kok55 : CallOk Try.prog 55 := callOk Try.func55 (by kernel_rfl) rfl
theorem kok56 : CallOk Try.prog 56 := callOk Try.func56 (by kernel_rfl) rfl
theorem kok57 : CallOk Try.prog 57 := callOk Try.func57 (by kernel_rfl) rfl
theorem kok58 : CallOk Try.prog 58 := callOk Try.func58 (by kernel_rfl) rfl
theorem kok59 : CallOk Try.prog 59 := callOk Try.func59 (by kernel_rfl) rfl
theorem kok61 : CallOk Try.prog 61 := callOk Try.func61 (by kernel_rfl) rfl
theorem kok62 : CallOk Try.prog 62 := callOk Try.func62 (by kernel_rfl) rfl
theorem kok63 : CallOk Try.prog 63 := callOk Try.func63 (by kernel_rfl) rfl
theorem kok64 : CallOk Try.prog 64 := callOk Try.func64 (by kernel_rfl) rfl

theorem c_bitio_NewWriter {w : World} {r0 : bitio_Writer} (h : bitio_NewWriter = some r0) : Rets Try.prog 12 [] w (fun v w' => ∃ (p0 : Nat) (u0_0 : Value), v = .pointer (some ⟨p0, 0, none⟩) ∧ Ext w w' ∧ (w'.heap[p0]? = some (.cells (List.toArray [u0_0, vi r0.n]) 73 (0, 0)) ∧ w.heap.size ≤ p0) ∧ RowF Rep.b 5 w w' u0_0 r0.b ∧ Value.ownBlock u0_0 ≠ some p0) := by
  unfold bitio_NewWriter at h
  refine Rets.enter Try.func12 rfl rfl ?_
  refine (show WC _ _ _ _ [] _ from ?_)
  refine WC.seq ?_
  refine WC.region ?_
  refine WL.y (Y.assign rfl) rfl ?_
  refine WL.nil ?_
  refine At.then ?_
  refine WC.seq ?_
  refine WC.region ?_
  refine WL.y (Y.build (vals := []) (cells := [.slice none 0 0, vi 0]) (Fits.evalp rfl) (by kernel_rfl)) rfl ?_
  refine WL.box (O := (Lg.O0 (fun _ => False))) 11 [.slice none 0 0, vi 0] rfl rfl rfl ?_
  intro p12 O13 wd14 hst15 hb11
  refine WL.y (Y.assign rfl) rfl ?_
  refine WL.nil ?_
  refine At.then ?_
  refine WC.ret ?_
  obtain rfl := some1 h
  have hs16 : Stp [] (Lg.O0 (fun _ => False)) w O13 wd14 := (Stp.up hst15 rfl)
  exact At.res (.inl rfl) rfl (.tmp rfl .nil) ⟨p12, .slice none 0 0, rfl, (Stp.ext hs16 rfl rfl), (Blk.outF hb11 hs16 low0 rfl), ⟨RowF.nil, (by simp [Value.ownBlock])⟩⟩

theorem c_bytes_Clone {A : Nat → Prop} {a0 : List UInt8} {v0 : Value} {w : World} (hs0 : Sl Rep.b w A v0 a0) {r0 : List UInt8} (h : bytes_Clone a0 = some r0) : Rets Try.prog 47 [v0] w (fun v w' => ∃ (u0 : Value), v = u0 ∧ Ext w w' ∧ RowF Rep.b 5 w w' u0 r0) := by
  unfold bytes_Clone at h
  refine Rets.enter Try.func47 rfl rfl ?_
  refine (show WC _ _ _ _ [(0, v0)] _ from ?_)
  refine WC.seq (WC.region (WL.y (Y.assign rfl) rfl (WL.nil (At.then ?_))))
  refine WC.seq (WC.seq (WC.region ?_))
  refine WL.y (Y.move rfl) rfl ?_
  rcases hs0.nilOr with ⟨rfl, rfl⟩ | ⟨q, n, c, rfl⟩
  · refine WL.y (Y.slnil (p := none) (n := 0) (c := 0) ty30.u rfl rfl) rfl (WL.nil (At.then ?_))
    refine WC.condT rfl (WC.seq (WC.region (WL.y (Y.assign rfl) rfl (WL.nil (At.then (WC.ret (At.thenR ?_)))))))
    have : r0 = [] := by simpa [app] using h.symm
    subst this
    exact At.res (.inl rfl) rfl (.tmp rfl .nil) ⟨_, rfl, Ext.refl w, RowF.nil⟩
  · refine WL.y (Y.slnil (p := some _) ty30.u rfl rfl) rfl (WL.nil (At.then ?_))
    refine WC.condF rfl (WC.skip (At.then ?_))
    refine WC.seq (WC.region ?_)
    have hs := hs0
    refine WL.buildSlice (O := Lg.O0 A) (R := Rep.b) (vals := []) 11 [] (xs := []) (by decide) ty30 ty5 (by decide) (by decide) (Fits.evalp rfl) (by kernel_rfl) rfl rfl rfl ?_
    intro v O1 w1 hst1 ho1
    refine WL.y (Y.move rfl) rfl ?_
    have hs1 := (Sl.start hs).mono (imm_st hst1 rfl rfl)
    refine WL.append (by decide) ty30 ty5 rfl (by decide) rfl rfl ho1 hs1.src h rfl ?_
    intro v2 O2 w2 hst2 ho2
    refine WL.y (Y.assign rfl) rfl (WL.nil (At.then (WC.ret ?_)))
    have hs9 : Stp [11] (Lg.O0 A) w O2 w2 := (Stp.trans (Stp.up hst1 rfl) hst2)
    exact At.res (.inl rfl) rfl (.tmp rfl .nil) ⟨_, rfl, Stp.ext hs9 rfl rfl, OwnSl.outF ho2 hs9 low0 rfl⟩

theorem c_bitio_Writer_Bytes {A : Nat → Prop} {v0_0 : Value} {a0 : bitio_Writer} {b0 : Nat} {w : World} (hs0_0 : Sl Rep.b w A v0_0 a0.b) (hb0 : w.heap[b0]? = some (.cells (List.toArray [v0_0, vi a0.n]) 73 (0, 0))) (hm0 : A b0) {r0 : List UInt8} (h : bitio_Writer_Bytes a0 = some r0) : Rets Try.prog 14 [.pointer (some ⟨b0, 0, none⟩)] w (fun v w' => ∃ (u0 : Value), v = u0 ∧ Ext w w' ∧ RowF Rep.b 5 w w' u0 r0) := by
  unfold bitio_Writer_Bytes at h
  refine Rets.enter Try.func14 rfl rfl ?_
  have hf11 : Sl Rep.b w (imm (Lg.O0 A)) v0_0 a0.b := (Sl.start hs0_0)
  have hb12 : Blk 0 (Lg.O0 A) w b0 73 [v0_0, vi a0.n] := ⟨(if_pos hm0), hb0⟩
  refine (show WC _ _ _ _ [(0, .pointer (some ⟨b0, 0, none⟩))] _ from ?_)
  refine WC.seq ?_
  refine WC.region ?_
  refine WL.y (Y.assign rfl) rfl ?_
  refine WL.nil ?_
  refine At.then ?_
  refine WC.seq ?_
  refine WC.region ?_
  refine WL.y (Y.move rfl) rfl ?_
  refine WL.y (Y.nilCheck rfl) rfl ?_
  refine WL.y (Y.fieldAddr fo73_0 rfl) rfl ?_
  refine WL.y (Y.loadSc ty30 rfl rfl (hb12.cell 0 _ rfl)) rfl ?_
  obtain ⟨r13, hp14, h⟩ := bnd h
  refine WL.call (vals := [v0_0]) kok47 rfl rfl (c_bytes_Clone (A := fun _ => True) (Sl.all hf11) hp14) ?_
  rintro vr19 wd18 ⟨_, rfl, hm17, f16⟩
  obtain ⟨O20, hold21, hnew22, hst23⟩ := adoptE (Lg.O0 A) (fun k => if Value.ownBlock vr19 = some k then 11 else 1) hm17
  have hf24 : OwnSl 11 Rep.b 5 O20 wd18 vr19 r13 := RowF.adopt 11 Flat.b f16 hnew22 (fun k hk => if_pos hk)
  refine WL.y (Y.assign rfl) rfl ?_
  refine WL.nil ?_
  refine At.then ?_
  refine WC.ret ?_
  obtain rfl := some1 h
  have hs25 : Stp [] (Lg.O0 A) w O20 wd18 := (Stp.up hst23 rfl)
  exact At.res (.inl rfl) rfl (.tmp rfl .nil) ⟨vr19, rfl, (Stp.ext hs25 rfl rfl), (OwnSl.outF hf24 hs25 low0 rfl)⟩

theorem c_bitio_NewReader {A : Nat → Prop} {a0 : List UInt8} {v0 : Value} {a1 : Int} {w : World} (hs0 : Sl Rep.b w A v0 a0) {r0 : Option bitio_Reader} {r1 : Int} (h : bitio_NewReader a0 a1 = some (r0, r1)) : Rets Try.prog 15 [v0, vi a1] w (fun v w' => ∃ (u0 : Value), v = .tuple (List.toArray [u0, vi r1]) ∧ Ext w w' ∧ OptP u0 r0 fun d => ∃ (p0 : Nat) (u0_0 : Value), u0 = .pointer (some ⟨p0, 0, none⟩) ∧ (w'.heap[p0]? = some (.cells (List.toArray [u0_0, vi d.n, vi d.at_]) 77 (0, 0)) ∧ w.heap.size ≤ p0) ∧ Sl Rep.b w' (fun k => w.heap.size ≤ k ∧ k ≠ p0) u0_0 d.b) := by
  unfold bitio_NewReader at h
  refine Rets.enter Try.func15 rfl rfl ?_
  have hf11 : Sl Rep.b w (imm (Lg.O0 A)) v0 a0 := (Sl.start hs0)
  refine (show WC _ _ _ _ [(0, v0), (1, vi a1)] _ from ?_)
  refine WC.seq ?_
  refine WC.region ?_
  refine WL.y (Y.assign rfl) rfl ?_
  refine WL.y (Y.assign rfl) rfl ?_
  refine WL.nil ?_
  refine At.then ?_
  refine WC.seq ?_
  refine WC.block ?_
  refine WC.seq ?_
  refine WC.region ?_
  refine WL.y (Y.move rfl) rfl ?_
  refine WL.y (Y.lss_i rfl rfl) rfl ?_
  obtain ⟨t12, ht12, h⟩ := lt1 h
  refine WL.yE (Y.assign rfl) (congrArg Value.bool ht12.symm) rfl ?_
  refine WL.nil ?_
  refine At.then ?_
  rcases cnd h with ⟨hc13, h⟩ | ⟨hc13, h⟩
  · refine WC.condT' rfl hc13 ?_
    refine WC.seq ?_
    refine WC.region ?_
    refine WL.y (Y.assign rfl) rfl ?_
    refine WL.y (Y.assign rfl) rfl ?_
    refine WL.nil ?_
    refine At.then ?_
    refine WC.ret ?_
    refine At.inBlockR ?_
    refine At.thenR ?_
    obtain ⟨rfl, rfl⟩ := tup2 h
    have hs14 : Stp [] (Lg.O0 A) w (Lg.O0 A) w := (Stp.refl _ _ _)
    exact At.res (.inl rfl) rfl (.tmp rfl (.tmp rfl .nil)) ⟨.pointer none, rfl, (Stp.ext hs14 rfl rfl), rfl⟩
  · refine WC.condF' rfl hc13 ?_
    refine WC.seq ?_
    refine WC.region ?_
    refine WL.y (Y.move rfl) rfl ?_
    refine WL.y (Y.len ty30 rfl hf11) rfl ?_
    refine WL.y (Y.move rfl) rfl ?_
    refine WL.y (Y.quo_i (by decide) rfl rfl) rfl ?_
    refine WL.y (Y.lss_i rfl rfl) rfl ?_
    refine WL.y (Y.move rfl) rfl ?_
    refine WL.cut 11 (σ := Unit) (fun _ w' => w = w') (fun _ => [(0, v0), (1, vi a1), (26, .bool ((decide ((a0.length : Int) < w64 (a1.tdiv 8))) || ((decide ((a0.length : Int) = w64 (a1.tdiv 8))) && (decide (0 < a1.tmod 8)))))]) ?_ ?_
    · refine WL.part 15 rfl (fun hE15 => ?_) (fun hE15 => ?_)
      · refine WL.gS rfl rfl rfl rfl ?_
        refine WL.gS rfl rfl rfl rfl ?_
        refine WL.gS rfl rfl rfl rfl ?_
        refine WL.gS rfl rfl rfl rfl ?_
        refine WL.gS rfl rfl rfl rfl ?_
        refine WL.gS rfl rfl rfl rfl ?_
        refine WL.gS rfl rfl rfl rfl ?_
        refine WL.gS rfl rfl rfl rfl ?_
        refine WL.gS rfl rfl rfl rfl ?_
        refine WL.gS rfl rfl rfl rfl ?_
        refine WL.y (Y.pick (b := true) rfl rfl) rfl ?_
        refine WL.ren (v' := .bool ((decide ((a0.length : Int) < w64 (a1.tdiv 8))) || ((decide ((a0.length : Int) = w64 (a1.tdiv 8))) && (decide (0 < a1.tmod 8))))) 26 rfl (congrArg Value.bool (orT hE15)) ?_
        exact WL.nil (At.join () rfl (.cons rfl (.cons rfl (.cons rfl .nil))))
      · refine WL.ung rfl rfl ?_
        refine WL.y (Y.move rfl) rfl ?_
        refine WL.ung rfl rfl ?_
        refine WL.y (Y.len ty30 rfl hf11) rfl ?_
        refine WL.ung rfl rfl ?_
        refine WL.y (Y.move rfl) rfl ?_
        refine WL.ung rfl rfl ?_
        refine WL.y (Y.quo_i (by decide) rfl rfl) rfl ?_
        refine WL.ung rfl rfl ?_
        refine WL.y (Y.eql_i rfl rfl) rfl ?_
        refine WL.ung rfl rfl ?_
        refine WL.y (Y.move rfl) rfl ?_
        refine WL.cut 4 (σ := Unit) (fun _ w' => w = w') (fun _ => [(0, v0), (1, vi a1), (15, .bool false), (25, .bool ((decide ((a0.length : Int) = w64 (a1.tdiv 8))) && (decide (0 < a1.tmod 8))))]) ?_ ?_
        · refine WL.part 21 rfl (fun hE16 => ?_) (fun hE16 => ?_)
          · refine WL.ung rfl rfl ?_
            refine WL.y (Y.move rfl) rfl ?_
            refine WL.ung rfl rfl ?_
            refine WL.y (Y.rem_i (by decide) rfl rfl) rfl ?_
            refine WL.ung rfl rfl ?_
            refine WL.y (Y.gtr_i rfl rfl) rfl ?_
            refine WL.ung rfl rfl ?_
            refine WL.y (Y.pick (b := true) rfl rfl) rfl ?_
            refine WL.ren (v' := .bool ((decide ((a0.length : Int) = w64 (a1.tdiv 8))) && (decide (0 < a1.tmod 8)))) 25 rfl (congrArg Value.bool (andT hE16)) ?_
            exact WL.nil (At.join () rfl (.cons rfl (.cons rfl (.cons rfl (.cons rfl .nil)))))
          · refine WL.gS rfl rfl rfl rfl ?_
            refine WL.gS rfl rfl rfl rfl ?_
            refine WL.gS rfl rfl rfl rfl ?_
            refine WL.ung rfl rfl ?_
            refine WL.y (Y.pick (b := false) rfl rfl) rfl ?_
            refine WL.ren (v' := .bool ((decide ((a0.length : Int) = w64 (a1.tdiv 8))) && (decide (0 < a1.tmod 8)))) 25 rfl (congrArg Value.bool (andF hE16)) ?_
            exact WL.nil (At.join () rfl (.cons rfl (.cons rfl (.cons rfl (.cons rfl .nil)))))
        · rintro _ _ rfl
          refine (show WL _ _ _ _ _ [(0, v0), (1, vi a1), (15, .bool false), (25, .bool ((decide ((a0.length : Int) = w64 (a1.tdiv 8))) && (decide (0 < a1.tmod 8))))] _ from ?_)
          refine WL.y (Y.pick (b := false) rfl rfl) rfl ?_
          refine WL.ren (v' := .bool ((decide ((a0.length : Int) < w64 (a1.tdiv 8))) || ((decide ((a0.length : Int) = w64 (a1.tdiv 8))) && (decide (0 < a1.tmod 8))))) 26 rfl (congrArg Value.bool (orF hE15)) ?_
          exact WL.nil (At.join () rfl (.cons rfl (.cons rfl (.cons rfl .nil))))
    · rintro _ _ rfl
      refine (show WL _ _ _ _ _ [(0, v0), (1, vi a1), (26, .bool ((decide ((a0.length : Int) < w64 (a1.tdiv 8))) || ((decide ((a0.length : Int) = w64 (a1.tdiv 8))) && (decide (0 < a1.tmod 8)))))] _ from ?_)
      obtain ⟨t17, ht17, h⟩ := lt1 h
      refine WL.yE (Y.assign rfl) (congrArg Value.bool ht17.symm) rfl ?_
      refine WL.nil ?_
      refine At.then ?_
      rcases cnd h with ⟨hc18, h⟩ | ⟨hc18, h⟩
      · refine WC.condT' rfl hc18 ?_
        refine WC.seq ?_
        refine WC.region ?_
        refine WL.y (Y.assign rfl) rfl ?_
        refine WL.y (Y.assign rfl) rfl ?_
        refine WL.nil ?_
        refine At.then ?_
        refine WC.ret ?_
        refine At.inBlockR ?_
        refine At.thenR ?_
        obtain ⟨rfl, rfl⟩ := tup2 h
        have hs19 : Stp [] (Lg.O0 A) w (Lg.O0 A) w := (Stp.refl _ _ _)
        exact At.res (.inl rfl) rfl (.tmp rfl (.tmp rfl .nil)) ⟨.pointer none, rfl, (Stp.ext hs19 rfl rfl), rfl⟩
      · refine WC.condF' rfl hc18 ?_
        refine WC.seq ?_
        refine WC.region ?_
        refine WL.y (Y.move rfl) rfl ?_
        refine WL.y (Y.len ty30 rfl hf11) rfl ?_
        refine WL.y (Y.move rfl) rfl ?_
        refine WL.y (Y.add_i rfl rfl) rfl ?_
        refine WL.y (Y.quo_i (by decide) rfl rfl) rfl ?_
        refine WL.y (Y.gtr_i rfl rfl) rfl ?_
        obtain ⟨t20, ht20, h⟩ := lt1 h
        refine WL.yE (Y.assign rfl) (congrArg Value.bool ht20.symm) rfl ?_
        refine WL.nil ?_
        refine At.then ?_
        rcases cnd h with ⟨hc21, h⟩ | ⟨hc21, h⟩
        · refine WC.condT' rfl hc21 ?_
          refine WC.seq ?_
          refine WC.region ?_
          refine WL.y (Y.assign rfl) rfl ?_
          refine WL.y (Y.assign rfl) rfl ?_
          refine WL.nil ?_
          refine At.then ?_
          refine WC.ret ?_
          refine At.inBlockR ?_
          refine At.thenR ?_
          obtain ⟨rfl, rfl⟩ := tup2 h
          have hs22 : Stp [] (Lg.O0 A) w (Lg.O0 A) w := (Stp.refl _ _ _)
          exact At.res (.inl rfl) rfl (.tmp rfl (.tmp rfl .nil)) ⟨.pointer none, rfl, (Stp.ext hs22 rfl rfl), rfl⟩
        · refine WC.condF' rfl hc21 ?_
          refine WC.seq ?_
          refine WC.region ?_
          refine WL.y (Y.move rfl) rfl ?_
          refine WL.y (Y.rem_i (by decide) rfl rfl) rfl ?_
          refine WL.y (Y.gtr_i rfl rfl) rfl ?_
          refine WL.y (Y.move rfl) rfl ?_
          obtain ⟨p24, h, hk25⟩ := bnd h
          refine WL.cut 11 (σ := Bool) (fun x w' => x = p24 ∧ w = w') (fun x => [(0, v0), (1, vi a1), (49, .bool x)]) ?_ ?_
          · rcases cnd h with ⟨hE26, h⟩ | ⟨hE26, h⟩
            · refine WL.ren 38 rfl (congrArg Value.bool hE26) ?_
              refine WL.ung rfl rfl ?_
              refine WL.y (Y.move rfl) rfl ?_
              refine WL.ung rfl rfl ?_
              refine WL.y (Y.move rfl) rfl ?_
              refine WL.ung rfl rfl ?_
              refine WL.y (Y.quo_i (by decide) rfl rfl) rfl ?_
              refine WL.ung rfl rfl ?_
              obtain ⟨e27, he27, h⟩ := bnd h
              obtain ⟨b28, off36, cap35, cs34, hv29, hi30, hl31, hc32, hok33, hA37⟩ := Sl.at2 hf11 he27
              obtain rfl := hok33
              replace hc32 : CellsAt _ _ _ [vb e27] := hc32
              have hca38 := CAt.imm hc32 hA37
              refine WL.y (Y.indexAddr ty30 ty5 rfl hv29 rfl hi30 hl31) rfl ?_
              refine WL.ung rfl rfl ?_
              refine WL.y (Y.loadSc ty5 rfl rfl hca38.at_) rfl ?_
              refine WL.ung rfl rfl ?_
              refine WL.y (Y.move rfl) rfl ?_
              refine WL.ung rfl rfl ?_
              refine WL.y (Y.rem_i (by decide) rfl rfl) rfl ?_
              refine WL.ung rfl rfl ?_
              refine WL.y (Y.conv_iu ty3.u ty74.u rfl) rfl ?_
              refine WL.ung rfl rfl ?_
              refine WL.y (Y.shl_bu rfl rfl) rfl ?_
              refine WL.ung rfl rfl ?_
              refine WL.y (Y.neq_b (b := 0) rfl rfl) rfl ?_
              refine WL.y (Y.pick (b := true) rfl rfl) rfl ?_
              exact WL.nil (At.join (σ := Bool) (!decide (shlB e27 ((toU64 (a1.tmod 8)).toNat) = 0)) ⟨some1 h, rfl⟩ (.cons rfl (.cons rfl (.cons rfl .nil))))
            · refine WL.ren 38 rfl (congrArg Value.bool hE26) ?_
              refine WL.gS rfl rfl rfl rfl ?_
              refine WL.gS rfl rfl rfl rfl ?_
              refine WL.gS rfl rfl rfl rfl ?_
              refine WL.gS rfl rfl rfl rfl ?_
              refine WL.gS rfl rfl rfl rfl ?_
              refine WL.gS rfl rfl rfl rfl ?_
              refine WL.gS rfl rfl rfl rfl ?_
              refine WL.gS rfl rfl rfl rfl ?_
              refine WL.gS rfl rfl rfl rfl ?_
              refine WL.gS rfl rfl rfl rfl ?_
              refine WL.y (Y.pick (b := false) rfl rfl) rfl ?_
              exact WL.nil (At.join (σ := Bool) false ⟨some1 h, rfl⟩ (.cons rfl (.cons rfl (.cons rfl .nil))))
          · rintro x23 _ ⟨rfl, rfl⟩
            replace h := hk25
            try dsimp only at h
            refine (show WL _ _ _ _ _ [(0, v0), (1, vi a1), (49, .bool x23)] _ from ?_)
            refine WL.y (Y.assign rfl) rfl ?_
            refine WL.nil ?_
            refine At.then ?_
            rcases cnd h with ⟨hc39, h⟩ | ⟨hc39, h⟩
            · refine WC.condT' rfl hc39 ?_
              refine WC.seq ?_
              refine WC.region ?_
              refine WL.y (Y.assign rfl) rfl ?_
              refine WL.y (Y.assign rfl) rfl ?_
              refine WL.nil ?_
              refine At.then ?_
              refine WC.ret ?_
              refine At.inBlockR ?_
              refine At.thenR ?_
              obtain ⟨rfl, rfl⟩ := tup2 h
              have hs40 : Stp [] (Lg.O0 A) w (Lg.O0 A) w := (Stp.refl _ _ _)
              exact At.res (.inl rfl) rfl (.tmp rfl (.tmp rfl .nil)) ⟨.pointer none, rfl, (Stp.ext hs40 rfl rfl), rfl⟩
            · refine WC.condF' rfl hc39 ?_
              refine WC.skip ?_
              refine At.inBlock ?_
              refine At.then ?_
              refine WC.seq ?_
              refine WC.region ?_
              refine WL.y (Y.move rfl) rfl ?_
              obtain ⟨r41, hp42, h⟩ := bnd h
              refine WL.call (vals := [v0]) kok47 rfl rfl (c_bytes_Clone (A := fun _ => True) (Sl.all hf11) hp42) ?_
              rintro vr47 wd46 ⟨_, rfl, hm45, f44⟩
              obtain ⟨O48, hold49, hnew50, hst51⟩ := adoptE (Lg.O0 A) (fun k => if Value.ownBlock vr47 = some k then 11 else 1) hm45
              have hf52 : OwnSl 11 Rep.b 5 O48 wd46 vr47 r41 := RowF.adopt 11 Flat.b f44 hnew50 (fun k hk => if_pos hk)
              refine WL.y (Y.move rfl) rfl ?_
              have hh56 := h
              obtain ⟨p53, m54, c55, rfl⟩ := hf52.shape
              have h := hh56
              refine WL.y (Y.build (vals := [(0, (.slice p53 m54 c55)), (1, vi a1)]) (cells := [(.slice p53 m54 c55), vi a1, vi 0]) (Fits.evalp rfl) (by kernel_rfl)) rfl ?_
              refine WL.box (O := O48) 12 [(.slice p53 m54 c55), vi a1, vi 0] rfl rfl rfl ?_
              intro p58 O59 wd60 hst61 hb57
              refine WL.y (Y.assign rfl) rfl ?_
              refine WL.y (Y.assign rfl) rfl ?_
              refine WL.nil ?_
              refine At.then ?_
              refine WC.ret ?_
              obtain ⟨rfl, rfl⟩ := tup2 h
              have hf62 := hf52.st hst61 rfl rfl rfl
              obtain ⟨O63, hst64, hf65⟩ := OwnSl.giveF rfl Flat.b hf62
              have hs66 : Stp [11] (Lg.O0 A) w O63 wd60 := (Stp.trans (Stp.up hst51 rfl) (Stp.trans (Stp.up hst61 rfl) (Stp.up hst64 rfl)))
              have hf67 := hb57.st hst64 rfl
              exact At.res (.inl rfl) rfl (.tmp rfl (.tmp rfl .nil)) ⟨.pointer (some ⟨p58, 0, none⟩), rfl, (Stp.ext hs66 rfl rfl), ⟨p58, (.slice p53 m54 c55), rfl, (Blk.outF hf67 hs66 low0 rfl), (Sl.outFN hf65 hs66 low0 hf67.lab rfl)⟩⟩

theorem c_bitio_Writer_Len {A : Nat → Prop} {v0_0 : Value} {a0 : bitio_Writer} {b0 : Nat} {w : World} (hs0_0 : Sl Rep.b w A v0_0 a0.b) (hb0 : w.heap[b0]? = some (.cells (List.toArray [v0_0, vi a0.n]) 73 (0, 0))) (hm0 : A b0) {r0 : Int} (h : bitio_Writer_Len a0 = some r0) : Rets Try.prog 16 [.pointer (some ⟨b0, 0, none⟩)] w (fun v w' => v = vi r0 ∧ Ext w w') := by
  unfold bitio_Writer_Len at h
  refine Rets.enter Try.func16 rfl rfl ?_
  have hf11 : Sl Rep.b w (imm (Lg.O0 A)) v0_0 a0.b := (Sl.start hs0_0)
  have hb12 : Blk 0 (Lg.O0 A) w b0 73 [v0_0, vi a0.n] := ⟨(if_pos hm0), hb0⟩
  refine (show WC _ _ _ _ [(0, .pointer (some ⟨b0, 0, none⟩))] _ from ?_)
  refine WC.seq ?_
  refine WC.region ?_
  refine WL.y (Y.assign rfl) rfl ?_
  refine WL.nil ?_
  refine At.then ?_
  refine WC.seq ?_
  refine WC.region ?_
  refine WL.y (Y.move rfl) rfl ?_
  refine WL.y (Y.nilCheck rfl) rfl ?_
  refine WL.y (Y.fieldAddr fo73_1 rfl) rfl ?_
  refine WL.y (Y.loadSc ty3 rfl rfl (hb12.cell 1 _ rfl)) rfl ?_
  refine WL.y (Y.assign rfl) rfl ?_
  refine WL.nil ?_
  refine At.then ?_
  refine WC.ret ?_
  obtain rfl := some1 h
  have hs13 : Stp [] (Lg.O0 A) w (Lg.O0 A) w := (Stp.refl _ _ _)
  exact At.res (.inl rfl) rfl (.tmp rfl .nil) ⟨rfl, (Stp.ext hs13 rfl rfl)⟩

theorem c_bitio_Reader_At {A : Nat → Prop} {v0_0 : Value} {a0 : bitio_Reader} {b0 : Nat} {w : World} (hs0_0 : Sl Rep.b w A v0_0 a0.b) (hb0 : w.heap[b0]? = some (.cells (List.toArray [v0_0, vi a0.n, vi a0.at_]) 77 (0, 0))) (hm0 : A b0) {r0 : Int} (h : bitio_Reader_At a0 = some r0) : Rets Try.prog 20 [.pointer (some ⟨b0, 0, none⟩)] w (fun v w' => v = vi r0 ∧ Ext w w') := by
  unfold bitio_Reader_At at h
  refine Rets.enter Try.func20 rfl rfl ?_
  have hf11 : Sl Rep.b w (imm (Lg.O0 A)) v0_0 a0.b := (Sl.start hs0_0)
  have hb12 : Blk 0 (Lg.O0 A) w b0 77 [v0_0, vi a0.n, vi a0.at_] := ⟨(if_pos hm0), hb0⟩
  refine (show WC _ _ _ _ [(0, .pointer (some ⟨b0, 0, none⟩))] _ from ?_)
  refine WC.seq ?_
  refine WC.region ?_
  refine WL.y (Y.assign rfl) rfl ?_
  refine WL.nil ?_
  refine At.then ?_
  refine WC.seq ?_
  refine WC.region ?_
  refine WL.y (Y.move rfl) rfl ?_
  refine WL.y (Y.nilCheck rfl) rfl ?_
  refine WL.y (Y.fieldAddr fo77_2 rfl) rfl ?_
  refine WL.y (Y.loadSc ty3 rfl rfl (hb12.cell 2 _ rfl)) rfl ?_
  refine WL.y (Y.assign rfl) rfl ?_
  refine WL.nil ?_
  refine At.then ?_
  refine WC.ret ?_
  obtain rfl := some1 h
  have hs13 : Stp [] (Lg.O0 A) w (Lg.O0 A) w := (Stp.refl _ _ _)
  exact At.res (.inl rfl) rfl (.tmp rfl .nil) ⟨rfl, (Stp.ext hs13 rfl rfl)⟩

theorem c_ref01_Bits {A : Nat → Prop} {a0 : List UInt8} {v0 : Value} {w : World} (hs0 : Sl Rep.b w A v0 a0) {r0 : List Int} (h : ref01_Bits a0 = some r0) : Rets Try.prog 21 [v0] w (fun v w' => ∃ (u0 : Value), v = u0 ∧ Ext w w' ∧ RowF Rep.i 3 w w' u0 r0) := by
  unfold ref01_Bits at h
  refine Rets.enter Try.func21 rfl rfl ?_
  have hf11 : Sl Rep.b w (imm (Lg.O0 A)) v0 a0 := (Sl.start hs0)
  refine (show WC _ _ _ _ [(0, v0)] _ from ?_)
  refine WC.seq ?_
  refine WC.region ?_
  refine WL.y (Y.assign rfl) rfl ?_
  refine WL.nil ?_
  refine At.then ?_
  refine WC.seq ?_
  refine WC.region ?_
  refine WL.y (Y.assign rfl) rfl ?_
  refine WL.nil ?_
  refine At.then ?_
  refine WC.seq ?_
  refine WC.seq ?_
  refine WC.region ?_
  refine WL.y (Y.assign rfl) rfl ?_
  refine WL.nil ?_
  refine At.then ?_
  refine WC.block ?_
  obtain ⟨p25, h, hk27⟩ := flow1 h
  obtain ⟨k26, h⟩ := loop_some h
  refine WC.joinB 0 (σ := (List Int × Own × Value)) (fun x w' => p25 = .go x.1 ∧ Stp [12, 1001, 1002, 1004, 1006] (Lg.O0 A) w x.2.1 w' ∧ OwnSl 1010 Rep.i 3 x.2.1 w' x.2.2 x.1) (fun x => [(3, x.2.2)]) ?_ ?_
  · refine WC.loop (σ := (List Int × Int × Own × Value)) (fun x k w' => loopN k (ref01_Bits_lp1 a0) (x.1, x.2.1) = some p25 ∧ Stp [12, 1001, 1002, 1004, 1006] (Lg.O0 A) w x.2.2.1 w' ∧ OwnSl 1006 Rep.i 3 x.2.2.1 w' x.2.2.2 x.1) (fun x => [(0, v0), (3, x.2.2.2), (4, vi x.2.1)]) ([], 0, (Lg.O0 A), .slice none 0 0) k26 (.cons rfl (.cons rfl (.cons rfl .nil))) ⟨h, (Stp.refl _ _ _), (OwnSl.nil 1006 Rep.i 3)⟩ ?_
    rintro ⟨out12, i15, O16, v13⟩ k26 wd17 ⟨h, hst18, hf14⟩
    obtain ⟨j28, q29, rfl, h, hn30⟩ := rnd1 h
    unfold ref01_Bits_lp1 at h
    try dsimp only at h hst18 hf14
    refine (show WC _ _ _ _ [(0, v0), (3, v13), (4, vi i15)] _ from ?_)
    refine WC.seq ?_
    refine WC.seq ?_
    refine WC.region ?_
    refine WL.y (Y.move rfl) rfl ?_
    refine WL.y (Y.move rfl) rfl ?_
    have hf31 := hf11.mono (imm_st hst18 rfl rfl)
    refine WL.y (Y.len ty30 rfl hf31) rfl ?_
    refine WL.y (Y.lss_i rfl rfl) rfl ?_
    refine WL.nil ?_
    refine At.then ?_
    rcases cnd h with ⟨hc32, h⟩ | ⟨hc32, h⟩
    · refine WC.condT' rfl hc32 ?_
      refine WC.skip ?_
      refine At.then ?_
      refine WC.seq ?_
      refine WC.block ?_
      refine WC.seq ?_
      refine WC.region ?_
      refine WL.y (Y.move rfl) rfl ?_
      refine WL.y (Y.move rfl) rfl ?_
      obtain ⟨e33, he33, h⟩ := bnd h
      obtain ⟨b34, off42, cap41, cs40, hv35, hi36, hl37, hc38, hok39, hA43⟩ := Sl.at2 hf31 he33
      obtain rfl := hok39
      replace hc38 : CellsAt _ _ _ [vb e33] := hc38
      have hca44 := CAt.imm hc38 hA43
      refine WL.y (Y.indexAddr ty30 ty5 rfl hv35 rfl hi36 hl37) rfl ?_
      refine WL.y (Y.loadSc ty5 rfl rfl hca44.at_) rfl ?_
      refine WL.y (Y.conv_bi ty5.u ty3.u rfl) rfl ?_
      obtain ⟨x45, hx45, h⟩ := lt1 h
      refine WL.yE (Y.assign rfl) (congrArg vi hx45.symm) rfl ?_
      refine WL.nil ?_
      refine At.then ?_
      refine WC.seq ?_
      refine WC.region ?_
      refine WL.y (Y.assign rfl) rfl ?_
      refine WL.nil ?_
      refine At.then ?_
      obtain ⟨p52, h, hk53⟩ := bnd h
      refine WC.join (σ := (List Int × Own × Value)) (fun x w' => x.1 = p52 ∧ Stp [1001, 1002, 1006] O16 wd17 x.2.1 w' ∧ OwnSl 1004 Rep.i 3 x.2.1 w' x.2.2 x.1) (fun x => [(0, v0), (3, x.2.2), (4, vi i15)]) ?_ ?_
      · refine WC.block ?_
        obtain ⟨p67, h, hk69⟩ := flow1 h
        obtain ⟨k68, h⟩ := loop_some h
        refine WC.joinB 2 (σ := (List Int × Own × Value)) (fun x w' => p67 = .go x.1 ∧ Stp [1001, 1006] O16 wd17 x.2.1 w' ∧ OwnSl 1002 Rep.i 3 x.2.1 w' x.2.2 x.1) (fun x => [(0, v0), (3, x.2.2), (4, vi i15)]) ?_ ?_
        · obtain ⟨O70, hst71, ho72⟩ := OwnSl.rlb 1001 rfl hf14
          refine WC.loop (σ := (List Int × Int × Own × Value)) (fun x k w' => loopN k (ref01_Bits_lp2 x45) (x.1, x.2.1) = some p67 ∧ Stp [1001, 1006] O16 wd17 x.2.2.1 w' ∧ OwnSl 1001 Rep.i 3 x.2.2.1 w' x.2.2.2 x.1) (fun x => [(0, v0), (3, x.2.2.2), (4, vi i15), (5, vi x45), (6, vi x.2.1)]) (out12, 128, O70, v13) k68 (.cons rfl (.cons rfl (.cons rfl (.cons rfl (.cons rfl .nil))))) ⟨h, (Stp.up hst71 rfl), ho72⟩ ?_
          rintro ⟨out54, k57, O58, v55⟩ k68 wd59 ⟨h, hst60, hf56⟩
          obtain ⟨j73, q74, rfl, h, hn75⟩ := rnd1 h
          unfold ref01_Bits_lp2 at h
          try dsimp only at h hst60 hf56
          refine (show WC _ _ _ _ [(0, v0), (3, v55), (4, vi i15), (5, vi x45), (6, vi k57)] _ from ?_)
          refine WC.seq ?_
          refine WC.seq ?_
          refine WC.region ?_
          refine WL.y (Y.move rfl) rfl ?_
          refine WL.y (Y.gtr_i rfl rfl) rfl ?_
          refine WL.nil ?_
          refine At.then ?_
          rcases cnd h with ⟨hc76, h⟩ | ⟨hc76, h⟩
          · refine WC.condT' rfl hc76 ?_
            refine WC.skip ?_
            refine At.then ?_
            refine WC.seq ?_
            refine WC.block ?_
            refine WC.region ?_
            refine WL.y (Y.move rfl) rfl ?_
            refine WL.y (Y.move rfl) rfl ?_
            refine WL.y (Y.move rfl) rfl ?_
            obtain ⟨hc77, h⟩ := chk1 h
            refine WL.y (Y.quo_i (ne_of_chk hc77) rfl rfl) rfl ?_
            refine WL.y (Y.rem_i (by decide) rfl rfl) rfl ?_
            refine WL.buildSlice (O := O58) (R := Rep.i) (vals := [(0, vi ((w64 (x45.tdiv k57)).tmod 2))]) 11 [vi ((w64 (x45.tdiv k57)).tmod 2)] (xs := [(w64 (x45.tdiv k57)).tmod 2]) (by decide) ty23 ty3 (by decide) (by decide) (Fits.evalp rfl) (by kernel_rfl) rfl ⟨[vi ((w64 (x45.tdiv k57)).tmod 2)], [], rfl, rfl, rfl⟩ rfl ?_
            intro v78 O80 wd81 hst82 ho79
            obtain ⟨xs83, hxs83, h⟩ := bnd h
            have hf84 := hf56.st hst82 rfl rfl rfl
            refine WL.append (by decide) ty23 ty3 rfl (by decide) rfl rfl hf84 ho79.src hxs83 rfl ?_
            intro v88 O85 wd86 hst87 ho89
            refine WL.y (Y.assign rfl) rfl ?_
            refine WL.nil ?_
            refine At.inBlock ?_
            refine At.then ?_
            refine WC.region ?_
            refine WL.y (Y.move rfl) rfl ?_
            refine WL.y (Y.quo_i (by decide) rfl rfl) rfl ?_
            obtain ⟨k90, hk90, h⟩ := lt1 h
            refine WL.yE (Y.assign rfl) (congrArg vi hk90.symm) rfl ?_
            refine WL.nil ?_
            exact At.round (xs83, k90, O85, v88) j73 (Nat.lt_succ_self _) ⟨next1 h hn75, (Stp.trans (Stp.up hst60 rfl) (Stp.trans (Stp.up hst82 rfl) (Stp.up hst87 rfl))), ho89⟩ (.cons rfl (.cons rfl (.cons rfl (.cons rfl (.cons rfl .nil)))))
          · refine WC.condF' rfl hc76 ?_
            refine WC.exit ?_
            refine At.thenX ?_
            refine At.loopX ?_
            obtain ⟨O91, hst92, ho93⟩ := OwnSl.rlb 1002 rfl hf56
            exact At.hitB (σ := (List Int × Own × Value)) (out54, O91, v55) ⟨brk1 h hn75, (Stp.trans (Stp.up hst60 rfl) (Stp.up hst92 rfl)), ho93⟩ (.cons rfl (.cons rfl (.cons rfl .nil)))
        · rintro ⟨out61, O64, v62⟩ wd65 ⟨rfl, hst66, hf63⟩
          replace h := flowK_go hk69
          try dsimp only at h hst66 hf63
          refine (show At _ _ _ [(0, v0), (3, v62), (4, vi i15)] _ from ?_)
          refine At.inBlockHit ?_
          obtain ⟨O94, hst95, ho96⟩ := OwnSl.rlb 1004 rfl hf63
          exact At.join (σ := (List Int × Own × Value)) (out61, O94, v62) ⟨some1 h, (Stp.trans (Stp.up hst66 rfl) (Stp.up hst95 rfl)), ho96⟩ (.cons rfl (.cons rfl (.cons rfl .nil)))
      · rintro ⟨out46, O49, v47⟩ wd50 ⟨rfl, hst51, hf48⟩
        replace h := hk53
        try dsimp only at h hst51 hf48
        refine (show At _ _ _ [(0, v0), (3, v47), (4, vi i15)] _ from ?_)
        refine At.inBlock ?_
        refine At.then ?_
        refine WC.region ?_
        refine WL.y (Y.move rfl) rfl ?_
        refine WL.y (Y.add_i rfl rfl) rfl ?_
        obtain ⟨i97, hi97, h⟩ := lt1 h
        refine WL.yE (Y.assign rfl) (congrArg vi hi97.symm) rfl ?_
        refine WL.nil ?_
        obtain ⟨O98, hst99, ho100⟩ := OwnSl.rlb 1006 rfl hf48
        exact At.round (out46, i97, O98, v47) j28 (Nat.lt_succ_self _) ⟨next1 h hn30, (Stp.trans (Stp.up hst18 rfl) (Stp.trans (Stp.up hst51 rfl) (Stp.up hst99 rfl))), ho100⟩ (.cons rfl (.cons rfl (.cons rfl .nil)))
    · refine WC.condF' rfl hc32 ?_
      refine WC.exit ?_
      refine At.thenX ?_
      refine At.loopX ?_
      obtain ⟨O101, hst102, ho103⟩ := OwnSl.rlb 1010 rfl hf14
      exact At.hitB (σ := (List Int × Own × Value)) (out12, O101, v13) ⟨brk1 h hn30, (Stp.trans (Stp.up hst18 rfl) (Stp.up hst102 rfl)), ho103⟩ (.cons rfl .nil)
  · rintro ⟨out19, O22, v20⟩ wd23 ⟨rfl, hst24, hf21⟩
    replace h := flowK_go hk27
    try dsimp only at h hst24 hf21
    refine (show At _ _ _ [(3, v20)] _ from ?_)
    refine At.inBlockHit ?_
    refine At.then ?_
    refine WC.seq ?_
    refine WC.region ?_
    refine WL.y (Y.move rfl) rfl ?_
    refine WL.y (Y.assign rfl) rfl ?_
    refine WL.nil ?_
    refine At.then ?_
    refine WC.ret ?_
    obtain rfl := some1 h
    have hs104 : Stp [12, 1001, 1002, 1004, 1006] (Lg.O0 A) w O22 wd23 := (Stp.up hst24 rfl)
    exact At.res (.inl rfl) rfl (.tmp rfl .nil) ⟨v20, rfl, (Stp.ext hs104 rfl rfl), (OwnSl.outF hf21 hs104 low0 rfl)⟩

theorem c_ref01_Bytes {A : Nat → Prop} {a0 : List Int} {v0 : Value} {w : World} (hs0 : Sl Rep.i w A v0 a0) {r0 : List UInt8} (h : ref01_Bytes a0 = some r0) : Rets Try.prog 29 [v0] w (fun v w' => ∃ (u0 : Value), v = u0 ∧ Ext w w' ∧ RowF Rep.b 5 w w' u0 r0) := by
  unfold ref01_Bytes at h
  refine Rets.enter Try.func29 rfl rfl ?_
  have hf11 : Sl Rep.i w (imm (Lg.O0 A)) v0 a0 := (Sl.start hs0)
  refine (show WC _ _ _ _ [(0, v0)] _ from ?_)
  refine WC.seq ?_
  refine WC.region ?_
  refine WL.y (Y.assign rfl) rfl ?_
  refine WL.nil ?_
  refine At.then ?_
  refine WC.seq ?_
  refine WC.region ?_
  refine WL.y (Y.assign rfl) rfl ?_
  refine WL.nil ?_
  refine At.then ?_
  refine WC.seq ?_
  refine WC.seq ?_
  refine WC.region ?_
  refine WL.y (Y.assign rfl) rfl ?_
  refine WL.nil ?_
  refine At.then ?_
  refine WC.block ?_
  obtain ⟨p25, h, hk27⟩ := flow1 h
  obtain ⟨k26, h⟩ := loop_some h
  refine WC.joinB 0 (σ := (List UInt8 × Own × Value)) (fun x w' => p25 = .go x.1 ∧ Stp [12, 1001] (Lg.O0 A) w x.2.1 w' ∧ OwnSl 1002 Rep.b 5 x.2.1 w' x.2.2 x.1) (fun x => [(3, x.2.2)]) ?_ ?_
  · refine WC.loop (σ := (List UInt8 × Int × Own × Value)) (fun x k w' => loopN k (ref01_Bytes_lp1 a0) (x.1, x.2.1) = some p25 ∧ Stp [12, 1001] (Lg.O0 A) w x.2.2.1 w' ∧ OwnSl 1001 Rep.b 5 x.2.2.1 w' x.2.2.2 x.1) (fun x => [(0, v0), (3, x.2.2.2), (4, vi x.2.1)]) ([], 0, (Lg.O0 A), .slice none 0 0) k26 (.cons rfl (.cons rfl (.cons rfl .nil))) ⟨h, (Stp.refl _ _ _), (OwnSl.nil 1001 Rep.b 5)⟩ ?_
    rintro ⟨out12, i15, O16, v13⟩ k26 wd17 ⟨h, hst18, hf14⟩
    obtain ⟨j28, q29, rfl, h, hn30⟩ := rnd1 h
    unfold ref01_Bytes_lp1 at h
    try dsimp only at h hst18 hf14
    refine (show WC _ _ _ _ [(0, v0), (3, v13), (4, vi i15)] _ from ?_)
    refine WC.seq ?_
    refine WC.seq ?_
    refine WC.region ?_
    refine WL.y (Y.move rfl) rfl ?_
    refine WL.y (Y.move rfl) rfl ?_
    have hf31 := hf11.mono (imm_st hst18 rfl rfl)
    refine WL.y (Y.len ty23 rfl hf31) rfl ?_
    refine WL.y (Y.lss_i rfl rfl) rfl ?_
    refine WL.nil ?_
    refine At.then ?_
    rcases cnd h with ⟨hc32, h⟩ | ⟨hc32, h⟩
    · refine WC.condT' rfl hc32 ?_
      refine WC.skip ?_
      refine At.then ?_
      refine WC.seq ?_
      refine WC.block ?_
      refine WC.seq ?_
      refine WC.region ?_
      refine WL.y (Y.assign rfl) rfl ?_
      refine WL.nil ?_
      refine At.then ?_
      refine WC.seq ?_
      refine WC.seq ?_
      refine WC.region ?_
      refine WL.y (Y.assign rfl) rfl ?_
      refine WL.nil ?_
      refine At.then ?_
      obtain ⟨p34, h, hk35⟩ := bnd h
      refine WC.join (σ := Int) (fun x w' => x = p34 ∧ wd17 = w') (fun x => [(0, v0), (3, v13), (4, vi i15), (5, vi x)]) ?_ ?_
      · refine WC.block ?_
        obtain ⟨p39, h, hk41⟩ := flow1 h
        obtain ⟨k40, h⟩ := loop_some h
        refine WC.joinB 2 (σ := Int) (fun x w' => p39 = .go x ∧ wd17 = w') (fun x => [(0, v0), (3, v13), (4, vi i15), (5, vi x)]) ?_ ?_
        · refine WC.loop (σ := (Int × Int)) (fun x k w' => loopN k (ref01_Bytes_lp2 a0 i15) (x.1, x.2) = some p39 ∧ wd17 = w') (fun x => [(0, v0), (3, v13), (4, vi i15), (5, vi x.1), (6, vi x.2)]) (0, 0) k40 (.cons rfl (.cons rfl (.cons rfl (.cons rfl (.cons rfl .nil))))) ⟨h, rfl⟩ ?_
          rintro ⟨x36, k37⟩ k40 _ ⟨h, rfl⟩
          obtain ⟨j42, q43, rfl, h, hn44⟩ := rnd1 h
          unfold ref01_Bytes_lp2 at h
          try dsimp only at h
          refine (show WC _ _ _ _ [(0, v0), (3, v13), (4, vi i15), (5, vi x36), (6, vi k37)] _ from ?_)
          refine WC.seq ?_
          refine WC.seq ?_
          refine WC.region ?_
          refine WL.y (Y.move rfl) rfl ?_
          refine WL.y (Y.lss_i rfl rfl) rfl ?_
          refine WL.nil ?_
          refine At.then ?_
          rcases cnd h with ⟨hc45, h⟩ | ⟨hc45, h⟩
          · refine WC.condT' rfl hc45 ?_
            refine WC.skip ?_
            refine At.then ?_
            refine WC.seq ?_
            obtain ⟨p47, h, hk48⟩ := bnd h
            refine WC.join (σ := Int) (fun x w' => x = p47 ∧ wd17 = w') (fun x => [(0, v0), (3, v13), (4, vi i15), (5, vi x), (6, vi k37)]) ?_ ?_
            · refine WC.block ?_
              refine WC.seq ?_
              refine WC.region ?_
              refine WL.y (Y.move rfl) rfl ?_
              refine WL.y (Y.mul_i rfl rfl) rfl ?_
              obtain ⟨x49, hx49, h⟩ := lt1 h
              refine WL.yE (Y.assign rfl) (congrArg vi hx49.symm) rfl ?_
              refine WL.nil ?_
              refine At.then ?_
              refine WC.seq ?_
              refine WC.region ?_
              refine WL.y (Y.move rfl) rfl ?_
              refine WL.y (Y.move rfl) rfl ?_
              refine WL.y (Y.add_i rfl rfl) rfl ?_
              refine WL.y (Y.move rfl) rfl ?_
              refine WL.y (Y.len ty23 rfl hf31) rfl ?_
              refine WL.y (Y.lss_i rfl rfl) rfl ?_
              refine WL.nil ?_
              refine At.then ?_
              rcases cnd h with ⟨hc50, h⟩ | ⟨hc50, h⟩
              · refine WC.condT' rfl hc50 ?_
                refine WC.region ?_
                refine WL.y (Y.move rfl) rfl ?_
                refine WL.y (Y.move rfl) rfl ?_
                refine WL.y (Y.move rfl) rfl ?_
                refine WL.y (Y.move rfl) rfl ?_
                refine WL.y (Y.add_i rfl rfl) rfl ?_
                obtain ⟨e51, he51, h⟩ := bnd h
                obtain ⟨b52, off60, cap59, cs58, hv53, hi54, hl55, hc56, hok57, hA61⟩ := Sl.at2 hf31 he51
                obtain rfl := hok57
                replace hc56 : CellsAt _ _ _ [vi e51] := hc56
                have hca62 := CAt.imm hc56 hA61
                refine WL.y (Y.indexAddr ty23 ty3 rfl hv53 rfl hi54 hl55) rfl ?_
                refine WL.y (Y.loadSc ty3 rfl rfl hca62.at_) rfl ?_
                refine WL.y (Y.add_i rfl rfl) rfl ?_
                obtain ⟨x63, hx63, h⟩ := lt1 h
                refine WL.yE (Y.assign rfl) (congrArg vi hx63.symm) rfl ?_
                refine WL.nil ?_
                refine At.inBlock ?_
                exact At.join (σ := Int) x63 ⟨some1 h, rfl⟩ (.cons rfl (.cons rfl (.cons rfl (.cons rfl (.cons rfl .nil)))))
              · refine WC.condF' rfl hc50 ?_
                refine WC.skip ?_
                refine At.inBlock ?_
                exact At.join (σ := Int) x49 ⟨some1 h, rfl⟩ (.cons rfl (.cons rfl (.cons rfl (.cons rfl (.cons rfl .nil)))))
            · rintro x46 _ ⟨rfl, rfl⟩
              replace h := hk48
              try dsimp only at h
              refine (show At _ _ _ [(0, v0), (3, v13), (4, vi i15), (5, vi x46), (6, vi k37)] _ from ?_)
              refine At.then ?_
              refine WC.region ?_
              refine WL.y (Y.move rfl) rfl ?_
              refine WL.y (Y.add_i rfl rfl) rfl ?_
              obtain ⟨k64, hk64, h⟩ := lt1 h
              refine WL.yE (Y.assign rfl) (congrArg vi hk64.symm) rfl ?_
              refine WL.nil ?_
              exact At.round (x46, k64) j42 (Nat.lt_succ_self _) ⟨next1 h hn44, rfl⟩ (.cons rfl (.cons rfl (.cons rfl (.cons rfl (.cons rfl .nil)))))
          · refine WC.condF' rfl hc45 ?_
            refine WC.exit ?_
            refine At.thenX ?_
            refine At.loopX ?_
            exact At.hitB (σ := Int) x36 ⟨brk1 h hn44, rfl⟩ (.cons rfl (.cons rfl (.cons rfl (.cons rfl .nil))))
        · rintro x38 _ ⟨rfl, rfl⟩
          replace h := flowK_go hk41
          try dsimp only at h
          refine (show At _ _ _ [(0, v0), (3, v13), (4, vi i15), (5, vi x38)] _ from ?_)
          refine At.inBlockHit ?_
          exact At.join (σ := Int) x38 ⟨some1 h, rfl⟩ (.cons rfl (.cons rfl (.cons rfl (.cons rfl .nil))))
      · rintro x33 _ ⟨rfl, rfl⟩
        replace h := hk35
        try dsimp only at h
        refine (show At _ _ _ [(0, v0), (3, v13), (4, vi i15), (5, vi x33)] _ from ?_)
        refine At.then ?_
        refine WC.region ?_
        refine WL.y (Y.move rfl) rfl ?_
        refine WL.y (Y.move rfl) rfl ?_
        refine WL.y (Y.conv_ib ty3.u ty5.u rfl) rfl ?_
        refine WL.buildSlice (O := O16) (R := Rep.b) (vals := [(0, vb (toU8 x33))]) 11 [vb (toU8 x33)] (xs := [toU8 x33]) (by decide) ty30 ty5 (by decide) (by decide) (Fits.evalp rfl) (by kernel_rfl) rfl ⟨[vb (toU8 x33)], [], rfl, rfl, rfl⟩ rfl ?_
        intro v65 O67 wd68 hst69 ho66
        obtain ⟨xs70, hxs70, h⟩ := bnd h
        have hf71 := hf14.st hst69 rfl rfl rfl
        refine WL.append (by decide) ty30 ty5 rfl (by decide) rfl rfl hf71 ho66.src hxs70 rfl ?_
        intro v75 O72 wd73 hst74 ho76
        refine WL.y (Y.assign rfl) rfl ?_
        refine WL.nil ?_
        refine At.inBlock ?_
        refine At.then ?_
        refine WC.region ?_
        refine WL.y (Y.move rfl) rfl ?_
        refine WL.y (Y.add_i rfl rfl) rfl ?_
        obtain ⟨i77, hi77, h⟩ := lt1 h
        refine WL.yE (Y.assign rfl) (congrArg vi hi77.symm) rfl ?_
        refine WL.nil ?_
        exact At.round (xs70, i77, O72, v75) j28 (Nat.lt_succ_self _) ⟨next1 h hn30, (Stp.trans (Stp.up hst18 rfl) (Stp.trans (Stp.up hst69 rfl) (Stp.up hst74 rfl))), ho76⟩ (.cons rfl (.cons rfl (.cons rfl .nil)))
    · refine WC.condF' rfl hc32 ?_
      refine WC.exit ?_
      refine At.thenX ?_
      refine At.loopX ?_
      obtain ⟨O78, hst79, ho80⟩ := OwnSl.rlb 1002 rfl hf14
      exact At.hitB (σ := (List UInt8 × Own × Value)) (out12, O78, v13) ⟨brk1 h hn30, (Stp.trans (Stp.up hst18 rfl) (Stp.up hst79 rfl)), ho80⟩ (.cons rfl .nil)
  · rintro ⟨out19, O22, v20⟩ wd23 ⟨rfl, hst24, hf21⟩
    replace h := flowK_go hk27
    try dsimp only at h hst24 hf21
    refine (show At _ _ _ [(3, v20)] _ from ?_)
    refine At.inBlockHit ?_
    refine At.then ?_
    refine WC.seq ?_
    refine WC.region ?_
    refine WL.y (Y.move rfl) rfl ?_
    refine WL.y (Y.assign rfl) rfl ?_
    refine WL.nil ?_
    refine At.then ?_
    refine WC.ret ?_
    obtain rfl := some1 h
    have hs81 : Stp [12, 1001] (Lg.O0 A) w O22 wd23 := (Stp.up hst24 rfl)
    exact At.res (.inl rfl) rfl (.tmp rfl .nil) ⟨v20, rfl, (Stp.ext hs81 rfl rfl), (OwnSl.outF hf21 hs81 low0 rfl)⟩

theorem c_bitio_Writer_Cut {v0_0 : Value} {a0 : bitio_Writer} {b0 : Nat} {a1 : Int} {w : World} (hs0_0 : Row Rep.b 5 w v0_0 a0.b) (hb0 : w.heap[b0]? = some (.cells (List.toArray [v0_0, vi a0.n]) 73 (0, 0))) (hne0_1 : Value.ownBlock v0_0 ≠ some b0) {r0 : Bool} {q0 : bitio_Writer} (h : bitio_Writer_Cut a0 a1 = some (r0, q0)) : Rets Try.prog 28 [.pointer (some ⟨b0, 0, none⟩), vi a1] w (fun v w' => ∃ (z0_0 : Value), v = .bool r0 ∧ Mod (fun k => k = b0 ∨ Value.ownBlock v0_0 = some k) w w' ∧ RowG Rep.b 5 w w' v0_0 z0_0 q0.b ∧ w'.heap[b0]? = some (.cells (List.toArray [z0_0, vi q0.n]) 73 (0, 0))) := by
  unfold bitio_Writer_Cut at h
  refine Rets.enter Try.func28 rfl rfl ?_
  have ho11 : OwnSl 4 Rep.b 5 (Lg.OB b0 3 (Lg.OV v0_0 4 (Lg.O0 (fun _ => False)))) w v0_0 a0.b := Row.start Flat.b hs0_0 (fun k hk => ((if_neg (fun (e : k = b0) => hne0_1 (e ▸ hk))).trans (if_pos hk)))
  have hb12 : Blk 3 (Lg.OB b0 3 (Lg.OV v0_0 4 (Lg.O0 (fun _ => False)))) w b0 73 [v0_0, vi a0.n] := ⟨(if_pos rfl), hb0⟩
  refine (show WC _ _ _ _ [(0, .pointer (some ⟨b0, 0, none⟩)), (1, vi a1)] _ from ?_)
  refine WC.seq ?_
  refine WC.region ?_
  refine WL.y (Y.assign rfl) rfl ?_
  refine WL.nil ?_
  refine At.then ?_
  refine WC.seq ?_
  refine WC.seq ?_
  refine WC.region ?_
  refine WL.y (Y.move rfl) rfl ?_
  refine WL.y (Y.lss_i rfl rfl) rfl ?_
  refine WL.y (Y.move rfl) rfl ?_
  refine WL.cut 7 (σ := Unit) (fun _ w' => w = w') (fun _ => [(0, .pointer (some ⟨b0, 0, none⟩)), (1, vi a1), (15, .bool ((decide (a1 < 0)) || (decide (a0.n < a1))))]) ?_ ?_
  · refine WL.part 8 rfl (fun hE13 => ?_) (fun hE13 => ?_)
    · refine WL.gS rfl rfl rfl rfl ?_
      refine WL.gS rfl rfl rfl rfl ?_
      refine WL.gS rfl rfl rfl rfl ?_
      refine WL.gS rfl rfl rfl rfl ?_
      refine WL.gS rfl rfl rfl rfl ?_
      refine WL.gS rfl rfl rfl rfl ?_
      refine WL.y (Y.pick (b := true) rfl rfl) rfl ?_
      refine WL.ren (v' := .bool ((decide (a1 < 0)) || (decide (a0.n < a1)))) 15 rfl (congrArg Value.bool (orT hE13)) ?_
      exact WL.nil (At.join () rfl (.cons rfl (.cons rfl (.cons rfl .nil))))
    · refine WL.ung rfl rfl ?_
      refine WL.y (Y.move rfl) rfl ?_
      refine WL.ung rfl rfl ?_
      refine WL.y (Y.move rfl) rfl ?_
      refine WL.ung rfl rfl ?_
      refine WL.y (Y.nilCheck rfl) rfl ?_
      refine WL.ung rfl rfl ?_
      refine WL.y (Y.fieldAddr fo73_1 rfl) rfl ?_
      refine WL.ung rfl rfl ?_
      refine WL.y (Y.loadSc ty3 rfl rfl (hb12.cell 1 _ rfl)) rfl ?_
      refine WL.ung rfl rfl ?_
      refine WL.y (Y.gtr_i rfl rfl) rfl ?_
      refine WL.y (Y.pick (b := false) rfl rfl) rfl ?_
      refine WL.ren (v' := .bool ((decide (a1 < 0)) || (decide (a0.n < a1)))) 15 rfl (congrArg Value.bool (orF hE13)) ?_
      exact WL.nil (At.join () rfl (.cons rfl (.cons rfl (.cons rfl .nil))))
  · rintro _ _ rfl
    refine (show WL _ _ _ _ _ [(0, .pointer (some ⟨b0, 0, none⟩)), (1, vi a1), (15, .bool ((decide (a1 < 0)) || (decide (a0.n < a1))))] _ from ?_)
    refine WL.nil ?_
    refine At.then ?_
    rcases cnd h with ⟨hc14, h⟩ | ⟨hc14, h⟩
    · refine WC.condT' rfl hc14 ?_
      refine WC.seq ?_
      refine WC.region ?_
      refine WL.y (Y.assign rfl) rfl ?_
      refine WL.nil ?_
      refine At.then ?_
      refine WC.ret ?_
      refine At.thenR ?_
      obtain ⟨rfl, rfl⟩ := tup2 h
      have hs15 : Stp [] (Lg.OB b0 3 (Lg.OV v0_0 4 (Lg.O0 (fun _ => False)))) w (Lg.OB b0 3 (Lg.OV v0_0 4 (Lg.O0 (fun _ => False)))) w := (Stp.refl _ _ _)
      exact At.res (.inl rfl) rfl (.tmp rfl .nil) ⟨v0_0, rfl, (Stp.modL hs15 (sB sV1) rfl rfl), (OwnSl.outG ho11 hs15 (lowB (lowV low0 rfl rfl) rfl rfl) (fun k hk => by unfold Lg.OB Lg.OV Lg.O0 at hk; (repeat' split at hk); all_goals first | assumption | exact absurd hk (by decide))), hb12.blk⟩
    · refine WC.condF' rfl hc14 ?_
      refine WC.skip ?_
      refine At.then ?_
      refine WC.seq ?_
      refine WC.region ?_
      refine WL.y (Y.move rfl) rfl ?_
      refine WL.y (Y.move rfl) rfl ?_
      refine WL.y (Y.nilCheck rfl) rfl ?_
      refine WL.y (Y.fieldAddr fo73_0 rfl) rfl ?_
      refine WL.y (Y.loadSc ty30 rfl rfl (hb12.cell 0 _ rfl)) rfl ?_
      refine WL.y (Y.move rfl) rfl ?_
      refine WL.y (Y.add_i rfl rfl) rfl ?_
      refine WL.y (Y.quo_i (by decide) rfl rfl) rfl ?_
      obtain ⟨t16, ht16, h⟩ := bnd h
      refine WL.sliceOwn ty30 ty5 rfl rfl rfl ho11 ht16 rfl ?_
      intro v17 hf18
      refine WL.y (Y.nilCheck rfl) rfl ?_
      refine WL.y (Y.fieldAddr fo73_0 rfl) rfl ?_
      have hh22 := h
      obtain ⟨p19, m20, c21, rfl⟩ := hf18.shape
      have h := hh22
      refine WL.store (v := (.slice p19 m20 c21)) (cells' := [(.slice p19 m20 c21), vi a0.n]) ty30 rfl rfl hb12 rfl (Nat.le_of_ble_eq_true rfl) rfl rfl ?_
      intro wd23 hst24 hb25
      refine WL.nil ?_
      refine At.then ?_
      refine WC.seq ?_
      obtain ⟨p32, h, hk33⟩ := bnd h
      refine WC.join (σ := (List UInt8 × Own)) (fun x w' => x.1 = p32 ∧ Stp [4] (Lg.OB b0 3 (Lg.OV v0_0 4 (Lg.O0 (fun _ => False)))) wd23 x.2 w' ∧ OwnSl 4 Rep.b 5 x.2 w' (.slice p19 m20 c21) x.1) (fun x => [(0, .pointer (some ⟨b0, 0, none⟩)), (1, vi a1)]) ?_ ?_
      · refine WC.seq ?_
        refine WC.region ?_
        refine WL.y (Y.move rfl) rfl ?_
        refine WL.y (Y.rem_i (by decide) rfl rfl) rfl ?_
        obtain ⟨rest34, hrest34, h⟩ := lt1 h
        refine WL.yE (Y.assign rfl) (congrArg vi hrest34.symm) rfl ?_
        refine WL.nil ?_
        refine At.then ?_
        refine WC.seq ?_
        refine WC.region ?_
        refine WL.y (Y.move rfl) rfl ?_
        refine WL.y (Y.gtr_i rfl rfl) rfl ?_
        refine WL.nil ?_
        refine At.then ?_
        rcases cnd h with ⟨hc35, h⟩ | ⟨hc35, h⟩
        · refine WC.condT' rfl hc35 ?_
          refine WC.draw 18 (Lg.OB b0 3 (Lg.OV v0_0 4 (Lg.O0 (fun _ => False)))) fmix (by kernel_rfl) ?_
          intro wd36 hst37
          refine WS.y (Y.move rfl) rfl ?_
          refine WS.y (Y.nilCheck rfl) rfl ?_
          refine WS.y (Y.fieldAddr fo73_0 rfl) rfl ?_
          have hf38 := hb25.st hst37 rfl
          refine WS.y (Y.loadSc ty30 rfl rfl (hf38.cell 0 _ rfl)) rfl ?_
          refine WS.y (Y.move rfl) rfl ?_
          refine WS.y (Y.nilCheck rfl) rfl ?_
          refine WS.y (Y.fieldAddr fo73_0 rfl) rfl ?_
          refine WS.y (Y.loadSc ty30 rfl rfl (hf38.cell 0 _ rfl)) rfl ?_
          have hf39 := hf18.st hst24 rfl rfl rfl
          have hf40 := hf39.st hst37 rfl rfl rfl
          refine WS.y (Y.len ty30 rfl hf40.src.sl) rfl ?_
          refine WS.y (Y.sub_i rfl rfl) rfl ?_
          obtain ⟨e41, he41, h⟩ := bnd h
          obtain ⟨b42, cap49, cs48, hv43, hi44, hl45, hc46, hok47⟩ := OwnSl.at hf40 he41
          obtain rfl := hok47
          replace hc46 : CellsAt _ _ _ [vb e41] := hc46
          have hca50 := CAt.own hf40 hv43 hc46
          refine WS.y (Y.indexAddr ty30 ty5 rfl hv43 rfl hi44 hl45) rfl ?_
          refine WS.y (Y.loadSc ty5 rfl rfl hca50.at_) rfl ?_
          refine WS.y (Y.move rfl) rfl ?_
          refine WS.y (Y.sub_i rfl rfl) rfl ?_
          refine WS.y (Y.conv_iu ty3.u ty74.u rfl) rfl ?_
          refine WS.y (Y.shl_bu (a := 255) rfl rfl) rfl ?_
          refine WS.y (Y.and_b rfl rfl) rfl ?_
          obtain ⟨e51, he51, h⟩ := bnd h
          obtain ⟨b52, cap59, cs58, hv53, hi54, hl55, hc56, hok57⟩ := OwnSl.at hf40 he51
          obtain rfl := hok57
          replace hc56 : CellsAt _ _ _ [vb e51] := hc56
          have hca60 := CAt.own hf40 hv53 hc56
          refine WS.y (Y.indexAddr ty30 ty5 rfl hv53 rfl hi54 hl55) rfl ?_
          refine WS.tail ?_
          obtain ⟨t61, ht61, h⟩ := lt1 h
          refine WL.ren 47 rfl (congrArg vb ht61.symm) ?_
          obtain ⟨xs62, hxs62, h⟩ := bnd h
          refine WL.storeOwn (by decide) ty5 rfl rfl rfl hf40 hv53 hxs62 ?_
          intro wd63 hst64 ho65
          refine WL.nil ?_
          exact At.join (σ := (List UInt8 × Own)) (xs62, (Lg.OB b0 3 (Lg.OV v0_0 4 (Lg.O0 (fun _ => False))))) ⟨some1 h, (Stp.trans (Stp.up hst37 rfl) (Stp.up hst64 rfl)), ho65⟩ (.cons rfl (.cons rfl .nil))
        · refine WC.condF' rfl hc35 ?_
          refine WC.skip ?_
          have hf66 := hf18.st hst24 rfl rfl rfl
          exact At.join (σ := (List UInt8 × Own)) (t16, (Lg.OB b0 3 (Lg.OV v0_0 4 (Lg.O0 (fun _ => False))))) ⟨some1 h, (Stp.refl _ _ _), hf66⟩ (.cons rfl (.cons rfl .nil))
      · rintro ⟨c26, O29⟩ wd30 ⟨rfl, hst31, hf28⟩
        replace h := hk33
        try dsimp only at h hst31 hf28
        refine (show At _ _ _ [(0, .pointer (some ⟨b0, 0, none⟩)), (1, vi a1)] _ from ?_)
        refine At.then ?_
        refine WC.seq ?_
        refine WC.region ?_
        refine WL.y (Y.move rfl) rfl ?_
        refine WL.y (Y.move rfl) rfl ?_
        refine WL.y (Y.nilCheck rfl) rfl ?_
        refine WL.y (Y.fieldAddr fo73_1 rfl) rfl ?_
        have hf67 := hb25.st hst31 rfl
        refine WL.store (v := vi a1) (cells' := [(.slice p19 m20 c21), vi a1]) ty3 rfl rfl hf67 rfl (Nat.le_of_ble_eq_true rfl) rfl rfl ?_
        intro wd68 hst69 hb70
        refine WL.nil ?_
        refine At.then ?_
        refine WC.seq ?_
        refine WC.region ?_
        refine WL.y (Y.assign rfl) rfl ?_
        refine WL.nil ?_
        refine At.then ?_
        refine WC.ret ?_
        obtain ⟨rfl, rfl⟩ := tup2 h
        have hs71 : Stp [3, 4] (Lg.OB b0 3 (Lg.OV v0_0 4 (Lg.O0 (fun _ => False)))) w O29 wd68 := (Stp.trans (Stp.up hst24 rfl) (Stp.trans (Stp.up hst31 rfl) (Stp.up hst69 rfl)))
        have hf72 := hf28.st hst69 rfl rfl rfl
        exact At.res (.inl rfl) rfl (.tmp rfl .nil) ⟨(.slice p19 m20 c21), rfl, (Stp.modL hs71 (sB sV1) rfl rfl), (OwnSl.outG hf72 hs71 (lowB (lowV low0 rfl rfl) rfl rfl) (fun k hk => by unfold Lg.OB Lg.OV Lg.O0 at hk; (repeat' split at hk); all_goals first | assumption | exact absurd hk (by decide))), hb70.blk⟩

theorem c_bitio_Writer_room {A : Nat → Prop} {v0_0 : Value} {a0 : bitio_Writer} {b0 : Nat} {w : World} (hs0_0 : Sl Rep.b w A v0_0 a0.b) (hb0 : w.heap[b0]? = some (.cells (List.toArray [v0_0, vi a0.n]) 73 (0, 0))) (hm0 : A b0) {r0 : Int} (h : bitio_Writer_room a0 = some r0) : Rets Try.prog 46 [.pointer (some ⟨b0, 0, none⟩)] w (fun v w' => v = vi r0 ∧ Ext w w') := by
  unfold bitio_Writer_room at h
  refine Rets.enter Try.func46 rfl rfl ?_
  have hf11 : Sl Rep.b w (imm (Lg.O0 A)) v0_0 a0.b := (Sl.start hs0_0)
  have hb12 : Blk 0 (Lg.O0 A) w b0 73 [v0_0, vi a0.n] := ⟨(if_pos hm0), hb0⟩
  refine (show WC _ _ _ _ [(0, .pointer (some ⟨b0, 0, none⟩))] _ from ?_)
  refine WC.seq ?_
  refine WC.region ?_
  refine WL.y (Y.assign rfl) rfl ?_
  refine WL.nil ?_
  refine At.then ?_
  refine WC.seq ?_
  refine WC.draw 11 (Lg.O0 A) fmix (by kernel_rfl) ?_
  intro wd13 hst14
  refine WS.y (Y.move rfl) rfl ?_
  refine WS.y (Y.nilCheck rfl) rfl ?_
  refine WS.y (Y.fieldAddr fo73_0 rfl) rfl ?_
  have hf15 := hb12.st hst14 rfl
  refine WS.y (Y.loadSc ty30 rfl rfl (hf15.cell 0 _ rfl)) rfl ?_
  have hf16 := hf11.mono (imm_st hst14 rfl rfl)
  refine WS.y (Y.len ty30 rfl hf16) rfl ?_
  refine WS.y (Y.mul_i rfl rfl) rfl ?_
  refine WS.y (Y.move rfl) rfl ?_
  refine WS.y (Y.nilCheck rfl) rfl ?_
  refine WS.y (Y.fieldAddr fo73_1 rfl) rfl ?_
  refine WS.y (Y.loadSc ty3 rfl rfl (hf15.cell 1 _ rfl)) rfl ?_
  refine WS.y (Y.sub_i rfl rfl) rfl ?_
  refine WS.tail ?_
  obtain ⟨t17, ht17, h⟩ := lt1 h
  refine WL.yE (Y.assign rfl) (congrArg vi ht17.symm) rfl ?_
  refine WL.nil ?_
  refine At.then ?_
  refine WC.ret ?_
  obtain rfl := some1 h
  have hs18 : Stp [] (Lg.O0 A) w (Lg.O0 A) wd13 := (Stp.up hst14 rfl)
  exact At.res (.inl rfl) rfl (.tmp rfl .nil) ⟨rfl, (Stp.ext hs18 rfl rfl)⟩

theorem c_bitio_Writer_Put {v0_0 : Value} {a0 : bitio_Writer} {b0 : Nat} {a1 : UInt64} {a2 : Int} {w : World} (hs0_0 : Row Rep.b 5 w v0_0 a0.b) (hb0 : w.heap[b0]? = some (.cells (List.toArray [v0_0, vi a0.n]) 73 (0, 0))) (hne0_1 : Value.ownBlock v0_0 ≠ some b0) {r0 : Bool} {q0 : bitio_Writer} (h : bitio_Writer_Put a0 a1 a2 = some (r0, q0)) : Rets Try.prog 13 [.pointer (some ⟨b0, 0, none⟩), vu a1, vi a2] w (fun v w' => ∃ (z0_0 : Value), v = .bool r0 ∧ Mod (fun k => k = b0 ∨ Value.ownBlock v0_0 = some k) w w' ∧ RowG Rep.b 5 w w' v0_0 z0_0 q0.b ∧ w'.heap[b0]? = some (.cells (List.toArray [z0_0, vi q0.n]) 73 (0, 0))) := by
  unfold bitio_Writer_Put at h
  refine Rets.enter Try.func13 rfl rfl ?_
  have ho11 : OwnSl 4 Rep.b 5 (Lg.OB b0 3 (Lg.OV v0_0 4 (Lg.O0 (fun _ => False)))) w v0_0 a0.b := Row.start Flat.b hs0_0 (fun k hk => ((if_neg (fun (e : k = b0) => hne0_1 (e ▸ hk))).trans (if_pos hk)))
  have hb12 : Blk 3 (Lg.OB b0 3 (Lg.OV v0_0 4 (Lg.O0 (fun _ => False)))) w b0 73 [v0_0, vi a0.n] := ⟨(if_pos rfl), hb0⟩
  refine (show WC _ _ _ _ [(0, .pointer (some ⟨b0, 0, none⟩)), (1, vu a1), (2, vi a2)] _ from ?_)
  refine WC.seq ?_
  refine WC.region ?_
  refine WL.y (Y.assign rfl) rfl ?_
  refine WL.nil ?_
  refine At.then ?_
  refine WC.seq ?_
  refine WC.seq ?_
  refine WC.region ?_
  refine WL.y (Y.move rfl) rfl ?_
  refine WL.y (Y.lss_i rfl rfl) rfl ?_
  refine WL.y (Y.move rfl) rfl ?_
  refine WL.cut 3 (σ := Unit) (fun _ w' => w = w') (fun _ => [(0, .pointer (some ⟨b0, 0, none⟩)), (1, vu a1), (2, vi a2), (15, .bool ((decide (a2 < 0)) || (decide (64 < a2))))]) ?_ ?_
  · refine WL.part 12 rfl (fun hE13 => ?_) (fun hE13 => ?_)
    · refine WL.gS rfl rfl rfl rfl ?_
      refine WL.gS rfl rfl rfl rfl ?_
      refine WL.y (Y.pick (b := true) rfl rfl) rfl ?_
      refine WL.ren (v' := .bool ((decide (a2 < 0)) || (decide (64 < a2)))) 15 rfl (congrArg Value.bool (orT hE13)) ?_
      exact WL.nil (At.join () rfl (.cons rfl (.cons rfl (.cons rfl (.cons rfl .nil)))))
    · refine WL.ung rfl rfl ?_
      refine WL.y (Y.move rfl) rfl ?_
      refine WL.ung rfl rfl ?_
      refine WL.y (Y.gtr_i rfl rfl) rfl ?_
      refine WL.y (Y.pick (b := false) rfl rfl) rfl ?_
      refine WL.ren (v' := .bool ((decide (a2 < 0)) || (decide (64 < a2)))) 15 rfl (congrArg Value.bool (orF hE13)) ?_
      exact WL.nil (At.join () rfl (.cons rfl (.cons rfl (.cons rfl (.cons rfl .nil)))))
  · rintro _ _ rfl
    refine (show WL _ _ _ _ _ [(0, .pointer (some ⟨b0, 0, none⟩)), (1, vu a1), (2, vi a2), (15, .bool ((decide (a2 < 0)) || (decide (64 < a2))))] _ from ?_)
    refine WL.y (Y.move rfl) rfl ?_
    refine WL.cut 10 (σ := Unit) (fun _ w' => w = w') (fun _ => [(0, .pointer (some ⟨b0, 0, none⟩)), (1, vu a1), (2, vi a2), (26, .bool (((decide (a2 < 0)) || (decide (64 < a2))) || ((decide (a2 < 64)) && (!decide (shrU a1 ((toU64 a2).toNat) = 0)))))]) ?_ ?_
    · refine WL.part 16 rfl (fun hE14 => ?_) (fun hE14 => ?_)
      · refine WL.gS rfl rfl rfl rfl ?_
        refine WL.gS rfl rfl rfl rfl ?_
        refine WL.gS rfl rfl rfl rfl ?_
        refine WL.gS rfl rfl rfl rfl ?_
        refine WL.gS rfl rfl rfl rfl ?_
        refine WL.gS rfl rfl rfl rfl ?_
        refine WL.gS rfl rfl rfl rfl ?_
        refine WL.gS rfl rfl rfl rfl ?_
        refine WL.gS rfl rfl rfl rfl ?_
        refine WL.y (Y.pick (b := true) rfl rfl) rfl ?_
        refine WL.ren (v' := .bool (((decide (a2 < 0)) || (decide (64 < a2))) || ((decide (a2 < 64)) && (!decide (shrU a1 ((toU64 a2).toNat) = 0))))) 26 rfl (congrArg Value.bool (orT hE14)) ?_
        exact WL.nil (At.join () rfl (.cons rfl (.cons rfl (.cons rfl (.cons rfl .nil)))))
      · refine WL.ung rfl rfl ?_
        refine WL.y (Y.move rfl) rfl ?_
        refine WL.ung rfl rfl ?_
        refine WL.y (Y.lss_i rfl rfl) rfl ?_
        refine WL.ung rfl rfl ?_
        refine WL.y (Y.move rfl) rfl ?_
        refine WL.cut 6 (σ := Unit) (fun _ w' => w = w') (fun _ => [(0, .pointer (some ⟨b0, 0, none⟩)), (1, vu a1), (2, vi a2), (16, .bool false), (25, .bool ((decide (a2 < 64)) && (!decide (shrU a1 ((toU64 a2).toNat) = 0))))]) ?_ ?_
        · refine WL.part 19 rfl (fun hE15 => ?_) (fun hE15 => ?_)
          · refine WL.ung rfl rfl ?_
            refine WL.y (Y.move rfl) rfl ?_
            refine WL.ung rfl rfl ?_
            refine WL.y (Y.move rfl) rfl ?_
            refine WL.ung rfl rfl ?_
            refine WL.y (Y.conv_iu ty3.u ty74.u rfl) rfl ?_
            refine WL.ung rfl rfl ?_
            refine WL.y (Y.shr_uu rfl rfl) rfl ?_
            refine WL.ung rfl rfl ?_
            refine WL.y (Y.neq_u (b := 0) rfl rfl) rfl ?_
            refine WL.ung rfl rfl ?_
            refine WL.y (Y.pick (b := true) rfl rfl) rfl ?_
            refine WL.ren (v' := .bool ((decide (a2 < 64)) && (!decide (shrU a1 ((toU64 a2).toNat) = 0)))) 25 rfl (congrArg Value.bool (andT hE15)) ?_
            exact WL.nil (At.join () rfl (.cons rfl (.cons rfl (.cons rfl (.cons rfl (.cons rfl .nil))))))
          · refine WL.gS rfl rfl rfl rfl ?_
            refine WL.gS rfl rfl rfl rfl ?_
            refine WL.gS rfl rfl rfl rfl ?_
            refine WL.gS rfl rfl rfl rfl ?_
            refine WL.gS rfl rfl rfl rfl ?_
            refine WL.ung rfl rfl ?_
            refine WL.y (Y.pick (b := false) rfl rfl) rfl ?_
            refine WL.ren (v' := .bool ((decide (a2 < 64)) && (!decide (shrU a1 ((toU64 a2).toNat) = 0)))) 25 rfl (congrArg Value.bool (andF hE15)) ?_
            exact WL.nil (At.join () rfl (.cons rfl (.cons rfl (.cons rfl (.cons rfl (.cons rfl .nil))))))
        · rintro _ _ rfl
          refine (show WL _ _ _ _ _ [(0, .pointer (some ⟨b0, 0, none⟩)), (1, vu a1), (2, vi a2), (16, .bool false), (25, .bool ((decide (a2 < 64)) && (!decide (shrU a1 ((toU64 a2).toNat) = 0))))] _ from ?_)
          refine WL.y (Y.pick (b := false) rfl rfl) rfl ?_
          refine WL.ren (v' := .bool (((decide (a2 < 0)) || (decide (64 < a2))) || ((decide (a2 < 64)) && (!decide (shrU a1 ((toU64 a2).toNat) = 0))))) 26 rfl (congrArg Value.bool (orF hE14)) ?_
          exact WL.nil (At.join () rfl (.cons rfl (.cons rfl (.cons rfl (.cons rfl .nil)))))
    · rintro _ _ rfl
      refine (show WL _ _ _ _ _ [(0, .pointer (some ⟨b0, 0, none⟩)), (1, vu a1), (2, vi a2), (26, .bool (((decide (a2 < 0)) || (decide (64 < a2))) || ((decide (a2 < 64)) && (!decide (shrU a1 ((toU64 a2).toNat) = 0)))))] _ from ?_)
      refine WL.nil ?_
      refine At.then ?_
      rcases cnd h with ⟨hc16, h⟩ | ⟨hc16, h⟩
      · refine WC.condT' rfl hc16 ?_
        refine WC.seq ?_
        refine WC.region ?_
        refine WL.y (Y.assign rfl) rfl ?_
        refine WL.nil ?_
        refine At.then ?_
        refine WC.ret ?_
        refine At.thenR ?_
        obtain ⟨rfl, rfl⟩ := tup2 h
        have hs17 : Stp [] (Lg.OB b0 3 (Lg.OV v0_0 4 (Lg.O0 (fun _ => False)))) w (Lg.OB b0 3 (Lg.OV v0_0 4 (Lg.O0 (fun _ => False)))) w := (Stp.refl _ _ _)
        exact At.res (.inl rfl) rfl (.tmp rfl .nil) ⟨v0_0, rfl, (Stp.modL hs17 (sB sV1) rfl rfl), (OwnSl.outG ho11 hs17 (lowB (lowV low0 rfl rfl) rfl rfl) (fun k hk => by unfold Lg.OB Lg.OV Lg.O0 at hk; (repeat' split at hk); all_goals first | assumption | exact absurd hk (by decide))), hb12.blk⟩
      · refine WC.condF' rfl hc16 ?_
        refine WC.skip ?_
        refine At.then ?_
        refine WC.seq ?_
        refine WC.block ?_
        obtain ⟨p35, h, hk37⟩ := flow1 h
        obtain ⟨k36, h⟩ := loop_some h
        refine WC.joinB 0 (σ := (List UInt8 × Int × Own × Value)) (fun x w' => p35 = .go (x.1, x.2.1) ∧ Stp [3, 4] (Lg.OB b0 3 (Lg.OV v0_0 4 (Lg.O0 (fun _ => False)))) w x.2.2.1 w' ∧ OwnSl 4 Rep.b 5 x.2.2.1 w' x.2.2.2 x.1 ∧ Blk 3 x.2.2.1 w' b0 73 [x.2.2.2, vi x.2.1]) (fun x => []) ?_ ?_
        · refine WC.loop (σ := (List UInt8 × Int × Int × Own × Value)) (fun x k w' => loopN k (bitio_Writer_Put_lp1 a1) (x.1, x.2.1, x.2.2.1) = some p35 ∧ Stp [3, 4] (Lg.OB b0 3 (Lg.OV v0_0 4 (Lg.O0 (fun _ => False)))) w x.2.2.2.1 w' ∧ OwnSl 4 Rep.b 5 x.2.2.2.1 w' x.2.2.2.2 x.1 ∧ Blk 3 x.2.2.2.1 w' b0 73 [x.2.2.2.2, vi x.2.1]) (fun x => [(0, .pointer (some ⟨b0, 0, none⟩)), (1, vu a1), (2, vi x.2.2.1)]) (a0.b, a0.n, a2, (Lg.OB b0 3 (Lg.OV v0_0 4 (Lg.O0 (fun _ => False)))), v0_0) k36 (.cons rfl (.cons rfl (.cons rfl .nil))) ⟨h, (Stp.refl _ _ _), ho11, hb12⟩ ?_
          rintro ⟨c19, c22, nv23, O24, v20⟩ k36 wd25 ⟨h, hst26, hf21, hb18⟩
          obtain ⟨j38, q39, rfl, h, hn40⟩ := rnd1 h
          unfold bitio_Writer_Put_lp1 at h
          try dsimp only at h hst26 hf21 hb18
          refine (show WC _ _ _ _ [(0, .pointer (some ⟨b0, 0, none⟩)), (1, vu a1), (2, vi nv23)] _ from ?_)
          refine WC.seq ?_
          refine WC.seq ?_
          refine WC.region ?_
          refine WL.y (Y.move rfl) rfl ?_
          refine WL.y (Y.gtr_i rfl rfl) rfl ?_
          refine WL.nil ?_
          refine At.then ?_
          rcases cnd h with ⟨hc41, h⟩ | ⟨hc41, h⟩
          · refine WC.condT' rfl hc41 ?_
            refine WC.skip ?_
            refine At.then ?_
            obtain ⟨p51, h, hk52⟩ := bnd h
            refine WC.join (σ := (List UInt8 × Int × Int × Own × Value)) (fun x w' => (x.1, x.2.1, x.2.2.1) = p51 ∧ Stp [3, 4] O24 wd25 x.2.2.2.1 w' ∧ OwnSl 4 Rep.b 5 x.2.2.2.1 w' x.2.2.2.2 x.1 ∧ Blk 3 x.2.2.2.1 w' b0 73 [x.2.2.2.2, vi x.2.1]) (fun x => [(0, .pointer (some ⟨b0, 0, none⟩)), (1, vu a1), (2, vi x.2.2.1)]) ?_ ?_
            · refine WC.block ?_
              refine WC.seq ?_
              obtain ⟨p60, h, hk61⟩ := bnd h
              refine WC.join (σ := (List UInt8 × Own × Value)) (fun x w' => x.1 = p60 ∧ Stp [3, 4] O24 wd25 x.2.1 w' ∧ OwnSl 4 Rep.b 5 x.2.1 w' x.2.2 x.1 ∧ Blk 3 x.2.1 w' b0 73 [x.2.2, vi c22]) (fun x => [(0, .pointer (some ⟨b0, 0, none⟩)), (1, vu a1), (2, vi nv23)]) ?_ ?_
              · refine WC.seq ?_
                refine WC.region ?_
                refine WL.y (Y.move rfl) rfl ?_
                obtain ⟨r62, hp63, h⟩ := bnd h
                refine WL.call (vals := [.pointer (some ⟨b0, 0, none⟩)]) kok46 rfl rfl (c_bitio_Writer_room (A := fun _ => True) (a0 := (bitio_Writer.mk c19 c22)) (hf21.src.sl) hb18.blk trivial hp63) ?_
                rintro vr66 wd65 ⟨rfl, hm64⟩
                obtain ⟨O67, hold68, hnew69, hst70⟩ := adoptE O24 (fun k => 1) hm64
                refine WL.y (Y.eql_i rfl rfl) rfl ?_
                refine WL.nil ?_
                refine At.then ?_
                rcases cnd h with ⟨hc71, h⟩ | ⟨hc71, h⟩
                · refine WC.condT' rfl hc71 ?_
                  refine WC.region ?_
                  refine WL.y (Y.move rfl) rfl ?_
                  refine WL.y (Y.move rfl) rfl ?_
                  refine WL.y (Y.nilCheck rfl) rfl ?_
                  refine WL.y (Y.fieldAddr fo73_0 rfl) rfl ?_
                  have hf72 := hb18.st hst70 rfl
                  refine WL.y (Y.loadSc ty30 rfl rfl (hf72.cell 0 _ rfl)) rfl ?_
                  refine WL.buildSlice (O := O67) (R := Rep.b) (vals := [(0, vb 0)]) 11 [vb 0] (xs := [0]) (by decide) ty30 ty5 (by decide) (by decide) (Fits.evalp rfl) (by kernel_rfl) rfl ⟨[vb 0], [], rfl, rfl, rfl⟩ rfl ?_
                  intro v73 O75 wd76 hst77 ho74
                  obtain ⟨xs78, hxs78, h⟩ := bnd h
                  have hf79 := hf21.st hst70 rfl rfl rfl
                  have hf80 := hf79.st hst77 rfl rfl rfl
                  refine WL.append (by decide) ty30 ty5 rfl (by decide) rfl rfl hf80 ho74.src hxs78 rfl ?_
                  intro v84 O81 wd82 hst83 ho85
                  refine WL.y (Y.nilCheck rfl) rfl ?_
                  refine WL.y (Y.fieldAddr fo73_0 rfl) rfl ?_
                  have hh89 := h
                  obtain ⟨p86, m87, c88, rfl⟩ := ho85.shape
                  have h := hh89
                  have hf90 := hf72.st hst77 rfl
                  have hf91 := hf90.st hst83 rfl
                  refine WL.store (v := (.slice p86 m87 c88)) (cells' := [(.slice p86 m87 c88), vi c22]) ty30 rfl rfl hf91 rfl (Nat.le_of_ble_eq_true rfl) rfl rfl ?_
                  intro wd92 hst93 hb94
                  refine WL.nil ?_
                  have hf95 := ho85.st hst93 rfl rfl rfl
                  exact At.join (σ := (List UInt8 × Own × Value)) (xs78, O81, (.slice p86 m87 c88)) ⟨some1 h, (Stp.trans (Stp.up hst70 rfl) (Stp.trans (Stp.up hst77 rfl) (Stp.trans (Stp.up hst83 rfl) (Stp.up hst93 rfl)))), hf95, hb94⟩ (.cons rfl (.cons rfl (.cons rfl .nil)))
                · refine WC.condF' rfl hc71 ?_
                  refine WC.skip ?_
                  have hf96 := hf21.st hst70 rfl rfl rfl
                  have hf97 := hb18.st hst70 rfl
                  exact At.join (σ := (List UInt8 × Own × Value)) (c19, O67, v20) ⟨some1 h, (Stp.up hst70 rfl), hf96, hf97⟩ (.cons rfl (.cons rfl (.cons rfl .nil)))
              · rintro ⟨c54, O57, v55⟩ wd58 ⟨rfl, hst59, hf56, hb53⟩
                replace h := hk61
                try dsimp only at h hst59 hf56 hb53
                refine (show At _ _ _ [(0, .pointer (some ⟨b0, 0, none⟩)), (1, vu a1), (2, vi nv23)] _ from ?_)
                refine At.then ?_
                refine WC.seq ?_
                refine WC.region ?_
                refine WL.y (Y.move rfl) rfl ?_
                obtain ⟨r98, hp99, h⟩ := bnd h
                refine WL.call (vals := [.pointer (some ⟨b0, 0, none⟩)]) kok46 rfl rfl (c_bitio_Writer_room (A := fun _ => True) (a0 := (bitio_Writer.mk c54 c22)) (hf56.src.sl) hb53.blk trivial hp99) ?_
                rintro vr102 wd101 ⟨rfl, hm100⟩
                obtain ⟨O103, hold104, hnew105, hst106⟩ := adoptE O57 (fun k => 1) hm100
                refine WL.y (Y.assign rfl) rfl ?_
                refine WL.nil ?_
                refine At.then ?_
                refine WC.seq ?_
                refine WC.region ?_
                refine WL.y (Y.move rfl) rfl ?_
                refine WL.y (Y.move rfl) rfl ?_
                refine WL.y (Y.min_i rfl rfl) rfl ?_
                obtain ⟨k107, hk107, h⟩ := lt1 h
                refine WL.yE (Y.assign rfl) (congrArg vi hk107.symm) rfl ?_
                refine WL.nil ?_
                refine At.then ?_
                refine WC.seq ?_
                refine WC.region ?_
                refine WL.y (Y.move rfl) rfl ?_
                refine WL.y (Y.move rfl) rfl ?_
                refine WL.y (Y.move rfl) rfl ?_
                refine WL.y (Y.sub_i rfl rfl) rfl ?_
                refine WL.y (Y.conv_iu ty3.u ty74.u rfl) rfl ?_
                refine WL.y (Y.shr_uu rfl rfl) rfl ?_
                obtain ⟨piece108, hpiece108, h⟩ := lt1 h
                refine WL.yE (Y.assign rfl) (congrArg vu hpiece108.symm) rfl ?_
                refine WL.nil ?_
                refine At.then ?_
                refine WC.seq ?_
                obtain ⟨p110, h, hk111⟩ := bnd h
                refine WC.join (σ := UInt64) (fun x w' => x = p110 ∧ wd101 = w') (fun x => [(0, .pointer (some ⟨b0, 0, none⟩)), (1, vu a1), (2, vi nv23), (7, vi r98), (8, vi k107), (9, vu x)]) ?_ ?_
                · refine WC.seq ?_
                  refine WC.region ?_
                  refine WL.y (Y.move rfl) rfl ?_
                  refine WL.y (Y.lss_i rfl rfl) rfl ?_
                  refine WL.nil ?_
                  refine At.then ?_
                  rcases cnd h with ⟨hc112, h⟩ | ⟨hc112, h⟩
                  · refine WC.condT' rfl hc112 ?_
                    refine WC.region ?_
                    refine WL.y (Y.move rfl) rfl ?_
                    refine WL.y (Y.move rfl) rfl ?_
                    refine WL.y (Y.conv_iu ty3.u ty74.u rfl) rfl ?_
                    refine WL.y (Y.shl_uu (a := 1) rfl rfl) rfl ?_
                    refine WL.y (Y.sub_u (b := 1) rfl rfl) rfl ?_
                    refine WL.y (Y.and_u rfl rfl) rfl ?_
                    obtain ⟨piece113, hpiece113, h⟩ := lt1 h
                    refine WL.yE (Y.assign rfl) (congrArg vu hpiece113.symm) rfl ?_
                    refine WL.nil ?_
                    exact At.join (σ := UInt64) piece113 ⟨some1 h, rfl⟩ (.cons rfl (.cons rfl (.cons rfl (.cons rfl (.cons rfl (.cons rfl .nil))))))
                  · refine WC.condF' rfl hc112 ?_
                    refine WC.skip ?_
                    exact At.join (σ := UInt64) piece108 ⟨some1 h, rfl⟩ (.cons rfl (.cons rfl (.cons rfl (.cons rfl (.cons rfl (.cons rfl .nil))))))
                · rintro piece109 _ ⟨rfl, rfl⟩
                  replace h := hk111
                  try dsimp only at h
                  refine (show At _ _ _ [(0, .pointer (some ⟨b0, 0, none⟩)), (1, vu a1), (2, vi nv23), (7, vi r98), (8, vi k107), (9, vu piece109)] _ from ?_)
                  refine At.then ?_
                  refine WC.seq ?_
                  refine WC.draw 21 O103 fmix (by kernel_rfl) ?_
                  intro wd114 hst115
                  refine WS.y (Y.move rfl) rfl ?_
                  refine WS.y (Y.nilCheck rfl) rfl ?_
                  refine WS.y (Y.fieldAddr fo73_0 rfl) rfl ?_
                  have hf116 := hb53.st hst106 rfl
                  have hf117 := hf116.st hst115 rfl
                  refine WS.y (Y.loadSc ty30 rfl rfl (hf117.cell 0 _ rfl)) rfl ?_
                  refine WS.y (Y.move rfl) rfl ?_
                  refine WS.y (Y.nilCheck rfl) rfl ?_
                  refine WS.y (Y.fieldAddr fo73_0 rfl) rfl ?_
                  refine WS.y (Y.loadSc ty30 rfl rfl (hf117.cell 0 _ rfl)) rfl ?_
                  have hf118 := hf56.st hst106 rfl rfl rfl
                  have hf119 := hf118.st hst115 rfl rfl rfl
                  refine WS.y (Y.len ty30 rfl hf119.src.sl) rfl ?_
                  refine WS.y (Y.sub_i rfl rfl) rfl ?_
                  obtain ⟨e120, he120, h⟩ := bnd h
                  obtain ⟨b121, cap128, cs127, hv122, hi123, hl124, hc125, hok126⟩ := OwnSl.at hf119 he120
                  obtain rfl := hok126
                  replace hc125 : CellsAt _ _ _ [vb e120] := hc125
                  have hca129 := CAt.own hf119 hv122 hc125
                  refine WS.y (Y.indexAddr ty30 ty5 rfl hv122 rfl hi123 hl124) rfl ?_
                  refine WS.y (Y.loadSc ty5 rfl rfl hca129.at_) rfl ?_
                  refine WS.y (Y.move rfl) rfl ?_
                  refine WS.y (Y.move rfl) rfl ?_
                  refine WS.y (Y.move rfl) rfl ?_
                  refine WS.y (Y.sub_i rfl rfl) rfl ?_
                  refine WS.y (Y.conv_iu ty3.u ty74.u rfl) rfl ?_
                  refine WS.y (Y.shl_uu rfl rfl) rfl ?_
                  refine WS.y (Y.conv_ub ty29.u ty5.u rfl) rfl ?_
                  refine WS.y (Y.or_b rfl rfl) rfl ?_
                  obtain ⟨e130, he130, h⟩ := bnd h
                  obtain ⟨b131, cap138, cs137, hv132, hi133, hl134, hc135, hok136⟩ := OwnSl.at hf119 he130
                  obtain rfl := hok136
                  replace hc135 : CellsAt _ _ _ [vb e130] := hc135
                  have hca139 := CAt.own hf119 hv132 hc135
                  refine WS.y (Y.indexAddr ty30 ty5 rfl hv132 rfl hi133 hl134) rfl ?_
                  refine WS.tail ?_
                  obtain ⟨t140, ht140, h⟩ := lt1 h
                  refine WL.ren 79 rfl (congrArg vb ht140.symm) ?_
                  obtain ⟨xs141, hxs141, h⟩ := bnd h
                  refine WL.storeOwn (by decide) ty5 rfl rfl rfl hf119 hv132 hxs141 ?_
                  intro wd142 hst143 ho144
                  refine WL.nil ?_
                  refine At.then ?_
                  refine WC.seq ?_
                  refine WC.region ?_
                  refine WL.y (Y.move rfl) rfl ?_
                  refine WL.y (Y.nilCheck rfl) rfl ?_
                  refine WL.y (Y.fieldAddr fo73_1 rfl) rfl ?_
                  have hf145 := hf117.st hst143 rfl
                  refine WL.y (Y.loadSc ty3 rfl rfl (hf145.cell 1 _ rfl)) rfl ?_
                  refine WL.y (Y.move rfl) rfl ?_
                  refine WL.y (Y.add_i rfl rfl) rfl ?_
                  refine WL.y (Y.nilCheck rfl) rfl ?_
                  refine WL.y (Y.fieldAddr fo73_1 rfl) rfl ?_
                  obtain ⟨t146, ht146, h⟩ := lt1 h
                  refine WL.ren 86 rfl (congrArg vi ht146.symm) ?_
                  refine WL.store (v := vi t146) (cells' := [v55, vi t146]) ty3 rfl rfl hf145 rfl (Nat.le_of_ble_eq_true rfl) rfl rfl ?_
                  intro wd147 hst148 hb149
                  refine WL.nil ?_
                  refine At.then ?_
                  refine WC.region ?_
                  refine WL.y (Y.move rfl) rfl ?_
                  refine WL.y (Y.move rfl) rfl ?_
                  refine WL.y (Y.sub_i rfl rfl) rfl ?_
                  obtain ⟨nv150, hnv150, h⟩ := lt1 h
                  refine WL.yE (Y.assign rfl) (congrArg vi hnv150.symm) rfl ?_
                  refine WL.nil ?_
                  refine At.inBlock ?_
                  have hf151 := ho144.st hst148 rfl rfl rfl
                  exact At.join (σ := (List UInt8 × Int × Int × Own × Value)) (xs141, t146, nv150, O103, v55) ⟨some1 h, (Stp.trans (Stp.up hst59 rfl) (Stp.trans (Stp.up hst106 rfl) (Stp.trans (Stp.up hst115 rfl) (Stp.trans (Stp.up hst143 rfl) (Stp.up hst148 rfl))))), hf151, hb149⟩ (.cons rfl (.cons rfl (.cons rfl .nil)))
            · rintro ⟨c43, c46, nv47, O48, v44⟩ wd49 ⟨rfl, hst50, hf45, hb42⟩
              replace h := hk52
              try dsimp only at h hst50 hf45 hb42
              refine (show At _ _ _ [(0, .pointer (some ⟨b0, 0, none⟩)), (1, vu a1), (2, vi nv47)] _ from ?_)
              exact At.round (c43, c46, nv47, O48, v44) j38 (Nat.lt_succ_self _) ⟨next1 h hn40, (Stp.trans (Stp.up hst26 rfl) (Stp.up hst50 rfl)), hf45, hb42⟩ (.cons rfl (.cons rfl (.cons rfl .nil)))
          · refine WC.condF' rfl hc41 ?_
            refine WC.exit ?_
            refine At.thenX ?_
            refine At.loopX ?_
            exact At.hitB (σ := (List UInt8 × Int × Own × Value)) (c19, c22, O24, v20) ⟨brk1 h hn40, (Stp.up hst26 rfl), hf21, hb18⟩ .nil
        · rintro ⟨c28, c31, O32, v29⟩ wd33 ⟨rfl, hst34, hf30, hb27⟩
          replace h := flowK_go hk37
          try dsimp only at h hst34 hf30 hb27
          refine (show At _ _ _ [] _ from ?_)
          refine At.inBlockHit ?_
          refine At.then ?_
          refine WC.seq ?_
          refine WC.region ?_
          refine WL.y (Y.assign rfl) rfl ?_
          refine WL.nil ?_
          refine At.then ?_
          refine WC.ret ?_
          obtain ⟨rfl, rfl⟩ := tup2 h
          have hs152 : Stp [3, 4] (Lg.OB b0 3 (Lg.OV v0_0 4 (Lg.O0 (fun _ => False)))) w O32 wd33 := (Stp.up hst34 rfl)
          exact At.res (.inl rfl) rfl (.tmp rfl .nil) ⟨v29, rfl, (Stp.modL hs152 (sB sV1) rfl rfl), (OwnSl.outG hf30 hs152 (lowB (lowV low0 rfl rfl) rfl rfl) (fun k hk => by unfold Lg.OB Lg.OV Lg.O0 at hk; (repeat' split at hk); all_goals first | assumption | exact absurd hk (by decide))), hb27.blk⟩

theorem c_vary_sizes {w : World} {r0 : List Int} (h : vary_sizes = some r0) : Rets Try.prog 49 [] w (fun v w' => ∃ (cs0 : List Value), v = .agg (List.toArray cs0) ∧ Ext w w' ∧ Rows' Rep.i w' (fun k => w.heap.size ≤ k) cs0 r0 ∧ r0.length = 4) := by
  unfold vary_sizes at h
  refine Rets.enter Try.func49 rfl rfl ?_
  refine (show WC _ _ _ _ [] _ from ?_)
  refine WC.seq ?_
  refine WC.region ?_
  refine WL.alloc (O := (Lg.O0 (fun _ => False))) 11 [vi 0, vi 0, vi 0, vi 0] ty78 rfl rfl ?_
  intro p12 O13 wd14 hst15 hb11
  refine WL.nil ?_
  refine At.then ?_
  refine WC.seq ?_
  refine WC.region ?_
  refine WL.y (Y.build (vals := [(0, vi 0), (1, vi 7), (2, vi 20), (3, vi 64)]) (cells := [vi 0, vi 7, vi 20, vi 64]) (Fits.evalp rfl) (by kernel_rfl)) rfl ?_
  refine WL.store (v := .agg [vi 0, vi 7, vi 20, vi 64].toArray) (cells' := [vi 0, vi 7, vi 20, vi 64]) ty78 rfl rfl hb11 rfl (Nat.le_of_ble_eq_true rfl) rfl rfl ?_
  intro wd16 hst17 hb18
  refine WL.nil ?_
  refine At.then ?_
  refine WC.ret ?_
  obtain rfl := some1 h
  have hs19 : Stp [11] (Lg.O0 (fun _ => False)) w O13 wd16 := (Stp.trans (Stp.up hst15 rfl) (Stp.up hst17 rfl))
  exact At.res (.inl rfl) rfl (.cell rfl (hb18.runAg 0 [vi 0, vi 7, vi 20, vi 64] ty78 rfl rfl rfl) .nil) ⟨[vi 0, vi 7, vi 20, vi 64], rfl, (Stp.ext hs19 rfl rfl), ⟨[vi 0], [vi 7, vi 20, vi 64], rfl, rfl, ⟨[vi 7], [vi 20, vi 64], rfl, rfl, ⟨[vi 20], [vi 64], rfl, rfl, ⟨[vi 64], [], rfl, rfl, rfl⟩⟩⟩⟩, rfl⟩

theorem c_vary_class {a0 : UInt64} {w : World} {r0 : Int} (h : vary_class a0 = some r0) : Rets Try.prog 48 [vu a0] w (fun v w' => v = vi r0 ∧ Ext w w') := by
  unfold vary_class at h
  refine Rets.enter Try.func48 rfl rfl ?_
  refine (show WC _ _ _ _ [(0, vu a0)] _ from ?_)
  refine WC.seq ?_
  refine WC.region ?_
  refine WL.y (Y.assign rfl) rfl ?_
  refine WL.nil ?_
  refine At.then ?_
  refine WC.seq ?_
  refine WC.seq ?_
  refine WC.region ?_
  obtain ⟨r11, hp12, h⟩ := bnd h
  refine WL.call (vals := []) kok49 rfl rfl (c_vary_sizes hp12) ?_
  rintro vr18 wd17 ⟨cs13, rfl, hm16, f14, f15⟩
  obtain ⟨O19, hold20, hnew21, hst22⟩ := adoptE (Lg.O0 (fun _ => False)) (fun k => 1) hm16
  have hf23 := Rows'.adoptF f14 (fun k hk => ⟨hk, rfl⟩) hnew21
  refine WL.y (Y.move rfl) rfl ?_
  refine WL.nil ?_
  refine At.then ?_
  refine WC.block ?_
  obtain ⟨p25, h, hk27⟩ := flow1 h
  obtain ⟨k26, h⟩ := loop_some h
  refine WC.joinB 0 (σ := Unit) (fun x w' => p25 = .go () ∧ wd17 = w') (fun x => []) ?_ ?_
  · refine WC.loop (σ := Int) (fun x k w' => loopN k (vary_class_lp1 a0 r11) x = some p25 ∧ wd17 = w') (fun x => [(0, vu a0), (5, .agg cs13.toArray), (6, vi x)]) 0 k26 (.cons rfl (.cons rfl (.cons rfl .nil))) ⟨h, rfl⟩ ?_
    rintro x24 k26 _ ⟨h, rfl⟩
    obtain ⟨j28, q29, rfl, h, hn30⟩ := rnd1 h
    unfold vary_class_lp1 at h
    try dsimp only at h
    refine (show WC _ _ _ _ [(0, vu a0), (5, .agg cs13.toArray), (6, vi x24)] _ from ?_)
    refine WC.seq ?_
    refine WC.region ?_
    refine WL.y (Y.lss_i rfl rfl) rfl ?_
    refine WL.nil ?_
    refine At.then ?_
    refine WC.seq ?_
    rcases cnd h with ⟨hc31, h⟩ | ⟨hc31, h⟩
    · refine WC.condT' rfl hc31 ?_
      refine WC.skip ?_
      refine At.then ?_
      refine WC.seq ?_
      refine WC.block ?_
      refine WC.seq ?_
      refine WC.region ?_
      refine WL.y (Y.move rfl) rfl ?_
      obtain ⟨e32, he32, h⟩ := bnd h
      obtain ⟨cs33, hcs34, hok35⟩ := arrAt (R := Rep.i) (w := wd17) (A := imm O19) (cells := cs13) hf23 he32
      obtain rfl := hok35
      replace hcs34 : _ = [vi e32] := hcs34
      refine WL.y (Y.indexArrSc ty78 ty3 rfl rfl hcs34 he32 f15) rfl ?_
      refine WL.y (Y.assign rfl) rfl ?_
      refine WL.y (Y.assign rfl) rfl ?_
      refine WL.nil ?_
      refine At.then ?_
      refine WC.seq ?_
      refine WC.region ?_
      refine WL.y (Y.move rfl) rfl ?_
      refine WL.y (Y.move rfl) rfl ?_
      refine WL.y (Y.conv_iu ty3.u ty74.u rfl) rfl ?_
      refine WL.y (Y.shr_uu rfl rfl) rfl ?_
      refine WL.y (Y.eql_u (b := 0) rfl rfl) rfl ?_
      refine WL.nil ?_
      refine At.then ?_
      rcases cnd h with ⟨hc36, h⟩ | ⟨hc36, h⟩
      · refine WC.condT' rfl hc36 ?_
        refine WC.seq ?_
        refine WC.region ?_
        refine WL.y (Y.move rfl) rfl ?_
        refine WL.y (Y.assign rfl) rfl ?_
        refine WL.nil ?_
        refine At.then ?_
        refine WC.ret ?_
        refine At.inBlockR ?_
        refine At.thenR ?_
        refine At.loopR ?_
        have h := outr1 h hn30 hk27
        refine At.joinBR ?_
        refine At.inBlockR ?_
        refine At.thenR ?_
        obtain rfl := some1 h
        have hs37 : Stp [] (Lg.O0 (fun _ => False)) w O19 wd17 := (Stp.up hst22 rfl)
        exact At.res (.inl rfl) rfl (.tmp rfl .nil) ⟨rfl, (Stp.ext hs37 rfl rfl)⟩
      · refine WC.condF' rfl hc36 ?_
        refine WC.skip ?_
        refine At.inBlock ?_
        refine At.then ?_
        refine WC.region ?_
        refine WL.y (Y.add_i rfl rfl) rfl ?_
        refine WL.y (Y.move rfl) rfl ?_
        refine WL.nil ?_
        exact At.round (w64 (x24 + 1)) j28 (Nat.lt_succ_self _) ⟨next1 h hn30, rfl⟩ (.cons rfl (.cons rfl (.cons rfl .nil)))
    · refine WC.condF' rfl hc31 ?_
      refine WC.exit ?_
      refine At.thenX ?_
      refine At.loopX ?_
      exact At.hitB (σ := Unit) () ⟨brk1 h hn30, rfl⟩ .nil
  · rintro _ _ ⟨rfl, rfl⟩
    replace h := flowK_go hk27
    refine (show At _ _ _ [] _ from ?_)
    refine At.inBlockHit ?_
    refine At.then ?_
    refine WC.seq ?_
    refine WC.region ?_
    refine WL.y (Y.assign rfl) rfl ?_
    refine WL.nil ?_
    refine At.then ?_
    refine WC.ret ?_
    obtain rfl := some1 h
    have hs38 : Stp [] (Lg.O0 (fun _ => False)) w O19 wd17 := (Stp.up hst22 rfl)
    exact At.res (.inl rfl) rfl (.tmp rfl .nil) ⟨rfl, (Stp.ext hs38 rfl rfl)⟩

theorem c_vary_Put {v0_0 : Value} {a0 : bitio_Writer} {b0 : Nat} {a1 : UInt64} {w : World} (hs0_0 : Row Rep.b 5 w v0_0 a0.b) (hb0 : w.heap[b0]? = some (.cells (List.toArray [v0_0, vi a0.n]) 73 (0, 0))) (hne0_1 : Value.ownBlock v0_0 ≠ some b0) {q0 : bitio_Writer} (h : vary_Put a0 a1 = some q0) : Rets Try.prog 31 [.pointer (some ⟨b0, 0, none⟩), vu a1] w (fun v w' => ∃ (z0_0 : Value), v = .tuple (List.toArray []) ∧ Mod (fun k => k = b0 ∨ Value.ownBlock v0_0 = some k) w w' ∧ RowG Rep.b 5 w w' v0_0 z0_0 q0.b ∧ w'.heap[b0]? = some (.cells (List.toArray [z0_0, vi q0.n]) 73 (0, 0))) := by
  unfold vary_Put at h
  refine Rets.enter Try.func31 rfl rfl ?_
  have ho11 : OwnSl 4 Rep.b 5 (Lg.OB b0 3 (Lg.OV v0_0 4 (Lg.O0 (fun _ => False)))) w v0_0 a0.b := Row.start Flat.b hs0_0 (fun k hk => ((if_neg (fun (e : k = b0) => hne0_1 (e ▸ hk))).trans (if_pos hk)))
  have hb12 : Blk 3 (Lg.OB b0 3 (Lg.OV v0_0 4 (Lg.O0 (fun _ => False)))) w b0 73 [v0_0, vi a0.n] := ⟨(if_pos rfl), hb0⟩
  refine (show WC _ _ _ _ [(0, .pointer (some ⟨b0, 0, none⟩)), (1, vu a1)] _ from ?_)
  refine WC.seq ?_
  refine WC.region ?_
  refine WL.y (Y.move rfl) rfl ?_
  obtain ⟨r13, hp14, h⟩ := bnd h
  refine WL.call (vals := [vu a1]) kok48 rfl rfl (c_vary_class hp14) ?_
  rintro vr17 wd16 ⟨rfl, hm15⟩
  obtain ⟨O18, hold19, hnew20, hst21⟩ := adoptE (Lg.OB b0 3 (Lg.OV v0_0 4 (Lg.O0 (fun _ => False)))) (fun k => 1) hm15
  refine WL.y (Y.assign rfl) rfl ?_
  refine WL.nil ?_
  refine At.then ?_
  refine WC.seq ?_
  refine WC.region ?_
  refine WL.y (Y.move rfl) rfl ?_
  refine WL.y (Y.move rfl) rfl ?_
  refine WL.y (Y.conv_iu ty3.u ty29.u rfl) rfl ?_
  have hf22 := ho11.st hst21 rfl rfl rfl
  have hf23 := hb12.st hst21 rfl
  obtain ⟨⟨r24, r25⟩, hp26, h⟩ := bnd h
  refine WL.call (vals := [.pointer (some ⟨b0, 0, none⟩), vu (toU64 r13), vi 2]) kok13 rfl rfl (c_bitio_Writer_Put (a0 := a0) hf22.row hf23.blk (ne_lab hf22 hf23.lab rfl) hp26) ?_
  rintro vr32 wd31 ⟨z27, rfl, hm30, f28, f29⟩
  obtain ⟨O33, hold34, hnew35, hst36⟩ := adopt O18 (fun k => if Value.ownBlock z27 = some k then 4 else 1) [3, 4] hm30 (memOr (memB hf23.lab rfl) (memV hf22.labs rfl))
  have ho37 : OwnSl 4 Rep.b 5 O33 wd31 z27 r25.b := RowG.adopt Flat.b hf22.labs f28 hold34 hnew35 (fun k hk => if_pos hk)
  have hb38 : Blk 3 O33 wd31 b0 73 [z27, vi r25.n] := Blk.adopt hf23 hold34 f29
  refine WL.nil ?_
  refine At.then ?_
  refine WC.region ?_
  refine WL.y (Y.move rfl) rfl ?_
  refine WL.y (Y.move rfl) rfl ?_
  obtain ⟨r39, hp40, h⟩ := bnd h
  refine WL.call (vals := []) kok49 rfl rfl (c_vary_sizes hp40) ?_
  rintro vr46 wd45 ⟨cs41, rfl, hm44, f42, f43⟩
  obtain ⟨O47, hold48, hnew49, hst50⟩ := adoptE O33 (fun k => 1) hm44
  have hf51 := Rows'.adoptF f42 (fun k hk => ⟨hk, rfl⟩) hnew49
  refine WL.y (Y.move rfl) rfl ?_
  obtain ⟨e52, he52, h⟩ := bnd h
  obtain ⟨cs53, hcs54, hok55⟩ := arrAt (R := Rep.i) (w := wd45) (A := imm O47) (cells := cs41) hf51 he52
  obtain rfl := hok55
  replace hcs54 : _ = [vi e52] := hcs54
  refine WL.y (Y.indexArrSc ty78 ty3 rfl rfl hcs54 he52 f43) rfl ?_
  have hf56 := ho37.st hst50 rfl rfl rfl
  have hf57 := hb38.st hst50 rfl
  obtain ⟨⟨r58, r59⟩, hp60, h⟩ := bnd h
  refine WL.call (vals := [.pointer (some ⟨b0, 0, none⟩), vu a1, vi e52]) kok13 rfl rfl (c_bitio_Writer_Put (a0 := r25) hf56.row hf57.blk (ne_lab hf56 hf57.lab rfl) hp60) ?_
  rintro vr66 wd65 ⟨z61, rfl, hm64, f62, f63⟩
  obtain ⟨O67, hold68, hnew69, hst70⟩ := adopt O47 (fun k => if Value.ownBlock z61 = some k then 4 else 1) [3, 4] hm64 (memOr (memB hf57.lab rfl) (memV hf56.labs rfl))
  have ho71 : OwnSl 4 Rep.b 5 O67 wd65 z61 r59.b := RowG.adopt Flat.b hf56.labs f62 hold68 hnew69 (fun k hk => if_pos hk)
  have hb72 : Blk 3 O67 wd65 b0 73 [z61, vi r59.n] := Blk.adopt hf57 hold68 f63
  refine WL.nil ?_
  obtain rfl := some1 h
  have hs73 : Stp [3, 4] (Lg.OB b0 3 (Lg.OV v0_0 4 (Lg.O0 (fun _ => False)))) w O67 wd65 := (Stp.trans (Stp.up hst21 rfl) (Stp.trans (Stp.up hst36 rfl) (Stp.trans (Stp.up hst50 rfl) (Stp.up hst70 rfl))))
  exact At.res (.inr rfl) rfl .nil ⟨z61, rfl, (Stp.modL hs73 (sB sV1) rfl rfl), (OwnSl.outG ho71 hs73 (lowB (lowV low0 rfl rfl) rfl rfl) (fun k hk => by unfold Lg.OB Lg.OV Lg.O0 at hk; (repeat' split at hk); all_goals first | assumption | exact absurd hk (by decide))), hb72.blk⟩

theorem c_vary_NewRow {w : World} {r0 : vary_Row} (h : vary_NewRow = some r0) : Rets Try.prog 39 [] w (fun v w' => ∃ (p0 : Nat), v = .pointer (some ⟨p0, 0, none⟩) ∧ Ext w w' ∧ (w'.heap[p0]? = some (.cells (List.toArray [vi r0.n, vu r0.last, vu r0.step]) 83 (0, 0)) ∧ w.heap.size ≤ p0)) := by
  unfold vary_NewRow at h
  refine Rets.enter Try.func39 rfl rfl ?_
  refine (show WC _ _ _ _ [] _ from ?_)
  refine WC.seq ?_
  refine WC.region ?_
  refine WL.y (Y.assign rfl) rfl ?_
  refine WL.nil ?_
  refine At.then ?_
  refine WC.seq ?_
  refine WC.region ?_
  refine WL.y (Y.build (vals := []) (cells := [vi 0, vu 0, vu 0]) (Fits.evalp rfl) (by kernel_rfl)) rfl ?_
  refine WL.box (O := (Lg.O0 (fun _ => False))) 11 [vi 0, vu 0, vu 0] rfl rfl rfl ?_
  intro p12 O13 wd14 hst15 hb11
  refine WL.y (Y.assign rfl) rfl ?_
  refine WL.nil ?_
  refine At.then ?_
  refine WC.ret ?_
  obtain rfl := some1 h
  have hs16 : Stp [] (Lg.O0 (fun _ => False)) w O13 wd14 := (Stp.up hst15 rfl)
  exact At.res (.inl rfl) rfl (.tmp rfl .nil) ⟨p12, rfl, (Stp.ext hs16 rfl rfl), (Blk.outF hb11 hs16 low0 rfl)⟩

theorem c_vary_Row_Len {A : Nat → Prop} {a0 : vary_Row} {b0 : Nat} {w : World} (hb0 : w.heap[b0]? = some (.cells (List.toArray [vi a0.n, vu a0.last, vu a0.step]) 83 (0, 0))) (hm0 : A b0) {r0 : Int} (h : vary_Row_Len a0 = some r0) : Rets Try.prog 42 [.pointer (some ⟨b0, 0, none⟩)] w (fun v w' => v = vi r0 ∧ Ext w w') := by
  unfold vary_Row_Len at h
  refine Rets.enter Try.func42 rfl rfl ?_
  have hb11 : Blk 0 (Lg.O0 A) w b0 83 [vi a0.n, vu a0.last, vu a0.step] := ⟨(if_pos hm0), hb0⟩
  refine (show WC _ _ _ _ [(0, .pointer (some ⟨b0, 0, none⟩))] _ from ?_)
  refine WC.seq ?_
  refine WC.region ?_
  refine WL.y (Y.assign rfl) rfl ?_
  refine WL.nil ?_
  refine At.then ?_
  refine WC.seq ?_
  refine WC.region ?_
  refine WL.y (Y.move rfl) rfl ?_
  refine WL.y (Y.nilCheck rfl) rfl ?_
  refine WL.y (Y.fieldAddr fo83_0 rfl) rfl ?_
  refine WL.y (Y.loadSc ty3 rfl rfl (hb11.cell 0 _ rfl)) rfl ?_
  refine WL.y (Y.assign rfl) rfl ?_
  refine WL.nil ?_
  refine At.then ?_
  refine WC.ret ?_
  obtain rfl := some1 h
  have hs12 : Stp [] (Lg.O0 A) w (Lg.O0 A) w := (Stp.refl _ _ _)
  exact At.res (.inl rfl) rfl (.tmp rfl .nil) ⟨rfl, (Stp.ext hs12 rfl rfl)⟩

theorem c_pack_Zig {a0 : Int} {w : World} {r0 : UInt64} (h : pack_Zig a0 = some r0) : Rets Try.prog 50 [vi a0] w (fun v w' => v = vu r0 ∧ Ext w w') := by
  unfold pack_Zig at h
  refine Rets.enter Try.func50 rfl rfl ?_
  refine (show WC _ _ _ _ [(0, vi a0)] _ from ?_)
  refine WC.seq ?_
  refine WC.region ?_
  refine WL.y (Y.assign (v := vu 0) rfl) rfl ?_
  refine WL.nil ?_
  refine At.then ?_
  refine WC.seq ?_
  refine WC.region ?_
  refine WL.y (Y.move rfl) rfl ?_
  refine WL.y (Y.conv_iu ty3.u ty29.u rfl) rfl ?_
  refine WL.y (Y.shl_uu (m := 1) rfl rfl) rfl ?_
  refine WL.y (Y.move rfl) rfl ?_
  refine WL.y (Y.shr_iu (m := 63) rfl rfl) rfl ?_
  refine WL.y (Y.conv_iu ty3.u ty29.u rfl) rfl ?_
  refine WL.y (Y.xor_u rfl rfl) rfl ?_
  obtain ⟨t11, ht11, h⟩ := lt1 h
  refine WL.yE (Y.assign rfl) (congrArg vu ht11.symm) rfl ?_
  refine WL.nil ?_
  refine At.then ?_
  refine WC.ret ?_
  obtain rfl := some1 h
  have hs12 : Stp [] (Lg.O0 (fun _ => False)) w (Lg.O0 (fun _ => False)) w := (Stp.refl _ _ _)
  exact At.res (.inl rfl) rfl (.tmp rfl .nil) ⟨rfl, (Stp.ext hs12 rfl rfl)⟩

theorem c_vary_PutInt {v0_0 : Value} {a0 : bitio_Writer} {b0 : Nat} {a1 : Int} {w : World} (hs0_0 : Row Rep.b 5 w v0_0 a0.b) (hb0 : w.heap[b0]? = some (.cells (List.toArray [v0_0, vi a0.n]) 73 (0, 0))) (hne0_1 : Value.ownBlock v0_0 ≠ some b0) {q0 : bitio_Writer} (h : vary_PutInt a0 a1 = some q0) : Rets Try.prog 32 [.pointer (some ⟨b0, 0, none⟩), vi a1] w (fun v w' => ∃ (z0_0 : Value), v = .tuple (List.toArray []) ∧ Mod (fun k => k = b0 ∨ Value.ownBlock v0_0 = some k) w w' ∧ RowG Rep.b 5 w w' v0_0 z0_0 q0.b ∧ w'.heap[b0]? = some (.cells (List.toArray [z0_0, vi q0.n]) 73 (0, 0))) := by
  unfold vary_PutInt at h
  refine Rets.enter Try.func32 rfl rfl ?_
  have ho11 : OwnSl 4 Rep.b 5 (Lg.OB b0 3 (Lg.OV v0_0 4 (Lg.O0 (fun _ => False)))) w v0_0 a0.b := Row.start Flat.b hs0_0 (fun k hk => ((if_neg (fun (e : k = b0) => hne0_1 (e ▸ hk))).trans (if_pos hk)))
  have hb12 : Blk 3 (Lg.OB b0 3 (Lg.OV v0_0 4 (Lg.O0 (fun _ => False)))) w b0 73 [v0_0, vi a0.n] := ⟨(if_pos rfl), hb0⟩
  refine (show WC _ _ _ _ [(0, .pointer (some ⟨b0, 0, none⟩)), (1, vi a1)] _ from ?_)
  refine WC.region ?_
  refine WL.y (Y.move rfl) rfl ?_
  refine WL.y (Y.move rfl) rfl ?_
  obtain ⟨r13, hp14, h⟩ := bnd h
  refine WL.call (vals := [vi a1]) kok50 rfl rfl (c_pack_Zig hp14) ?_
  rintro vr17 wd16 ⟨rfl, hm15⟩
  obtain ⟨O18, hold19, hnew20, hst21⟩ := adoptE (Lg.OB b0 3 (Lg.OV v0_0 4 (Lg.O0 (fun _ => False)))) (fun k => 1) hm15
  have hf22 := ho11.st hst21 rfl rfl rfl
  have hf23 := hb12.st hst21 rfl
  obtain ⟨r24, hp25, h⟩ := bnd h
  refine WL.call (vals := [.pointer (some ⟨b0, 0, none⟩), vu r13]) kok31 rfl rfl (c_vary_Put (a0 := a0) hf22.row hf23.blk (ne_lab hf22 hf23.lab rfl) hp25) ?_
  rintro vr31 wd30 ⟨z26, rfl, hm29, f27, f28⟩
  obtain ⟨O32, hold33, hnew34, hst35⟩ := adopt O18 (fun k => if Value.ownBlock z26 = some k then 4 else 1) [3, 4] hm29 (memOr (memB hf23.lab rfl) (memV hf22.labs rfl))
  have ho36 : OwnSl 4 Rep.b 5 O32 wd30 z26 r24.b := RowG.adopt Flat.b hf22.labs f27 hold33 hnew34 (fun k hk => if_pos hk)
  have hb37 : Blk 3 O32 wd30 b0 73 [z26, vi r24.n] := Blk.adopt hf23 hold33 f28
  refine WL.nil ?_
  obtain rfl := some1 h
  have hs38 : Stp [3, 4] (Lg.OB b0 3 (Lg.OV v0_0 4 (Lg.O0 (fun _ => False)))) w O32 wd30 := (Stp.trans (Stp.up hst21 rfl) (Stp.up hst35 rfl))
  exact At.res (.inr rfl) rfl .nil ⟨z26, rfl, (Stp.modL hs38 (sB sV1) rfl rfl), (OwnSl.outG ho36 hs38 (lowB (lowV low0 rfl rfl) rfl rfl) (fun k hk => by unfold Lg.OB Lg.OV Lg.O0 at hk; (repeat' split at hk); all_goals first | assumption | exact absurd hk (by decide))), hb37.blk⟩

theorem c_vary_Row_follow {a0 : vary_Row} {b0 : Nat} {a1 : UInt64} {w : World} (hb0 : w.heap[b0]? = some (.cells (List.toArray [vi a0.n, vu a0.last, vu a0.step]) 83 (0, 0))) {q0 : vary_Row} (h : vary_Row_follow a0 a1 = some q0) : Rets Try.prog 57 [.pointer (some ⟨b0, 0, none⟩), vu a1] w (fun v w' => v = .tuple (List.toArray []) ∧ Mod (fun k => k = b0) w w' ∧ w'.heap[b0]? = some (.cells (List.toArray [vi q0.n, vu q0.last, vu q0.step]) 83 (0, 0))) := by
  unfold vary_Row_follow at h
  refine Rets.enter Try.func57 rfl rfl ?_
  have hb11 : Blk 3 (Lg.OB b0 3 (Lg.O0 (fun _ => False))) w b0 83 [vi a0.n, vu a0.last, vu a0.step] := ⟨(if_pos rfl), hb0⟩
  refine (show WC _ _ _ _ [(0, .pointer (some ⟨b0, 0, none⟩)), (1, vu a1)] _ from ?_)
  refine WC.seq ?_
  obtain ⟨p17, h, hk18⟩ := bnd h
  refine WC.join (σ := (UInt64 × Own)) (fun x w' => x.1 = p17 ∧ Stp [3] (Lg.OB b0 3 (Lg.O0 (fun _ => False))) w x.2 w' ∧ Blk 3 x.2 w' b0 83 [vi a0.n, vu a0.last, vu x.1]) (fun x => [(0, .pointer (some ⟨b0, 0, none⟩)), (1, vu a1)]) ?_ ?_
  · refine WC.seq ?_
    refine WC.region ?_
    refine WL.y (Y.move rfl) rfl ?_
    refine WL.y (Y.nilCheck rfl) rfl ?_
    refine WL.y (Y.fieldAddr fo83_0 rfl) rfl ?_
    refine WL.y (Y.loadSc ty3 rfl rfl (hb11.cell 0 _ rfl)) rfl ?_
    refine WL.y (Y.gtr_i rfl rfl) rfl ?_
    refine WL.nil ?_
    refine At.then ?_
    rcases cnd h with ⟨hc19, h⟩ | ⟨hc19, h⟩
    · refine WC.condT' rfl hc19 ?_
      refine WC.region ?_
      refine WL.y (Y.move rfl) rfl ?_
      refine WL.y (Y.move rfl) rfl ?_
      refine WL.y (Y.move rfl) rfl ?_
      refine WL.y (Y.nilCheck rfl) rfl ?_
      refine WL.y (Y.fieldAddr fo83_1 rfl) rfl ?_
      refine WL.y (Y.loadSc ty29 rfl rfl (hb11.cell 1 _ rfl)) rfl ?_
      refine WL.y (Y.sub_u rfl rfl) rfl ?_
      refine WL.y (Y.nilCheck rfl) rfl ?_
      refine WL.y (Y.fieldAddr fo83_2 rfl) rfl ?_
      obtain ⟨t20, ht20, h⟩ := lt1 h
      refine WL.ren 15 rfl (congrArg vu ht20.symm) ?_
      refine WL.store (v := vu t20) (cells' := [vi a0.n, vu a0.last, vu t20]) ty29 rfl rfl hb11 rfl (Nat.le_of_ble_eq_true rfl) rfl rfl ?_
      intro wd21 hst22 hb23
      refine WL.nil ?_
      exact At.join (σ := (UInt64 × Own)) (t20, (Lg.OB b0 3 (Lg.O0 (fun _ => False)))) ⟨some1 h, (Stp.up hst22 rfl), hb23⟩ (.cons rfl (.cons rfl .nil))
    · refine WC.condF' rfl hc19 ?_
      refine WC.skip ?_
      exact At.join (σ := (UInt64 × Own)) (a0.step, (Lg.OB b0 3 (Lg.O0 (fun _ => False)))) ⟨some1 h, (Stp.refl _ _ _), hb11⟩ (.cons rfl (.cons rfl .nil))
  · rintro ⟨c13, O14⟩ wd15 ⟨rfl, hst16, hb12⟩
    replace h := hk18
    try dsimp only at h hst16 hb12
    refine (show At _ _ _ [(0, .pointer (some ⟨b0, 0, none⟩)), (1, vu a1)] _ from ?_)
    refine At.then ?_
    refine WC.seq ?_
    refine WC.region ?_
    refine WL.y (Y.move rfl) rfl ?_
    refine WL.y (Y.move rfl) rfl ?_
    refine WL.y (Y.nilCheck rfl) rfl ?_
    refine WL.y (Y.fieldAddr fo83_1 rfl) rfl ?_
    refine WL.store (v := vu a1) (cells' := [vi a0.n, vu a1, vu c13]) ty29 rfl rfl hb12 rfl (Nat.le_of_ble_eq_true rfl) rfl rfl ?_
    intro wd24 hst25 hb26
    refine WL.nil ?_
    refine At.then ?_
    refine WC.region ?_
    refine WL.y (Y.move rfl) rfl ?_
    refine WL.y (Y.nilCheck rfl) rfl ?_
    refine WL.y (Y.fieldAddr fo83_0 rfl) rfl ?_
    refine WL.y (Y.loadSc ty3 rfl rfl (hb26.cell 0 _ rfl)) rfl ?_
    refine WL.y (Y.add_i rfl rfl) rfl ?_
    refine WL.y (Y.nilCheck rfl) rfl ?_
    refine WL.y (Y.fieldAddr fo83_0 rfl) rfl ?_
    obtain ⟨t27, ht27, h⟩ := lt1 h
    refine WL.ren 26 rfl (congrArg vi ht27.symm) ?_
    refine WL.store (v := vi t27) (cells' := [vi t27, vu a1, vu c13]) ty3 rfl rfl hb26 rfl (Nat.le_of_ble_eq_true rfl) rfl rfl ?_
    intro wd28 hst29 hb30
    refine WL.nil ?_
    obtain rfl := some1 h
    have hs31 : Stp [3] (Lg.OB b0 3 (Lg.O0 (fun _ => False))) w O14 wd28 := (Stp.trans (Stp.up hst16 rfl) (Stp.trans (Stp.up hst25 rfl) (Stp.up hst29 rfl)))
    exact At.res (.inr rfl) rfl .nil ⟨rfl, (Stp.modL hs31 sB1 rfl rfl), hb30.blk⟩

theorem c_vary_widths {w : World} {r0 : List Int} (h : vary_widths = some r0) : Rets Try.prog 59 [] w (fun v w' => ∃ (cs0 : List Value), v = .agg (List.toArray cs0) ∧ Ext w w' ∧ Rows' Rep.i w' (fun k => w.heap.size ≤ k) cs0 r0 ∧ r0.length = 5) := by
  unfold vary_widths at h
  refine Rets.enter Try.func59 rfl rfl ?_
  refine (show WC _ _ _ _ [] _ from ?_)
  refine WC.seq ?_
  refine WC.region ?_
  refine WL.alloc (O := (Lg.O0 (fun _ => False))) 11 [vi 0, vi 0, vi 0, vi 0, vi 0] ty85 rfl rfl ?_
  intro p12 O13 wd14 hst15 hb11
  refine WL.nil ?_
  refine At.then ?_
  refine WC.seq ?_
  refine WC.region ?_
  refine WL.y (Y.build (vals := [(0, vi 0), (1, vi 6), (2, vi 10), (3, vi 16), (4, vi 64)]) (cells := [vi 0, vi 6, vi 10, vi 16, vi 64]) (Fits.evalp rfl) (by kernel_rfl)) rfl ?_
  refine WL.store (v := .agg [vi 0, vi 6, vi 10, vi 16, vi 64].toArray) (cells' := [vi 0, vi 6, vi 10, vi 16, vi 64]) ty85 rfl rfl hb11 rfl (Nat.le_of_ble_eq_true rfl) rfl rfl ?_
  intro wd16 hst17 hb18
  refine WL.nil ?_
  refine At.then ?_
  refine WC.ret ?_
  obtain rfl := some1 h
  have hs19 : Stp [11] (Lg.O0 (fun _ => False)) w O13 wd16 := (Stp.trans (Stp.up hst15 rfl) (Stp.up hst17 rfl))
  exact At.res (.inl rfl) rfl (.cell rfl (hb18.runAg 0 [vi 0, vi 6, vi 10, vi 16, vi 64] ty85 rfl rfl rfl) .nil) ⟨[vi 0, vi 6, vi 10, vi 16, vi 64], rfl, (Stp.ext hs19 rfl rfl), ⟨[vi 0], [vi 6, vi 10, vi 16, vi 64], rfl, rfl, ⟨[vi 6], [vi 10, vi 16, vi 64], rfl, rfl, ⟨[vi 10], [vi 16, vi 64], rfl, rfl, ⟨[vi 16], [vi 64], rfl, rfl, ⟨[vi 64], [], rfl, rfl, rfl⟩⟩⟩⟩⟩, rfl⟩

theorem c_vary_fits {a0 : Int} {a1 : Int} {w : World} {r0 : Bool} (h : vary_fits a0 a1 = some r0) : Rets Try.prog 64 [vi a0, vi a1] w (fun v w' => v = .bool r0 ∧ Ext w w') := by
  unfold vary_fits at h
  refine Rets.enter Try.func64 rfl rfl ?_
  refine (show WC _ _ _ _ [(0, vi a0), (1, vi a1)] _ from ?_)
  refine WC.seq ?_
  refine WC.region ?_
  refine WL.y (Y.assign rfl) rfl ?_
  refine WL.nil ?_
  refine At.then ?_
  refine WC.seq ?_
  refine WC.seq ?_
  refine WC.region ?_
  refine WL.y (Y.move rfl) rfl ?_
  refine WL.nil ?_
  refine At.then ?_
  refine WC.block ?_
  refine WC.seq ?_
  refine WC.region ?_
  refine WL.y (Y.eql_i rfl rfl) rfl ?_
  obtain ⟨t11, ht11, h⟩ := lt1 h
  refine WL.yE (Y.assign rfl) (congrArg Value.bool ht11.symm) rfl ?_
  refine WL.nil ?_
  refine At.then ?_
  rcases cnd h with ⟨hc12, h⟩ | ⟨hc12, h⟩
  · refine WC.condT' rfl hc12 ?_
    refine WC.seq ?_
    refine WC.region ?_
    refine WL.y (Y.move rfl) rfl ?_
    refine WL.y (Y.eql_i rfl rfl) rfl ?_
    obtain ⟨t13, ht13, h⟩ := lt1 h
    refine WL.yE (Y.assign rfl) (congrArg Value.bool ht13.symm) rfl ?_
    refine WL.nil ?_
    refine At.then ?_
    refine WC.ret ?_
    refine At.inBlockR ?_
    refine At.thenR ?_
    obtain rfl := some1 h
    have hs14 : Stp [] (Lg.O0 (fun _ => False)) w (Lg.O0 (fun _ => False)) w := (Stp.refl _ _ _)
    exact At.res (.inl rfl) rfl (.tmp rfl .nil) ⟨rfl, (Stp.ext hs14 rfl rfl)⟩
  · refine WC.condF' rfl hc12 ?_
    refine WC.seq ?_
    refine WC.region ?_
    refine WL.y (Y.eql_i rfl rfl) rfl ?_
    obtain ⟨t15, ht15, h⟩ := lt1 h
    refine WL.yE (Y.assign rfl) (congrArg Value.bool ht15.symm) rfl ?_
    refine WL.nil ?_
    refine At.then ?_
    rcases cnd h with ⟨hc16, h⟩ | ⟨hc16, h⟩
    · refine WC.condT' rfl hc16 ?_
      refine WC.seq ?_
      refine WC.region ?_
      refine WL.y (Y.assign rfl) rfl ?_
      refine WL.nil ?_
      refine At.then ?_
      refine WC.ret ?_
      refine At.inBlockR ?_
      refine At.thenR ?_
      obtain rfl := some1 h
      have hs17 : Stp [] (Lg.O0 (fun _ => False)) w (Lg.O0 (fun _ => False)) w := (Stp.refl _ _ _)
      exact At.res (.inl rfl) rfl (.tmp rfl .nil) ⟨rfl, (Stp.ext hs17 rfl rfl)⟩
    · refine WC.condF' rfl hc16 ?_
      refine WC.skip ?_
      refine At.inBlock ?_
      refine At.then ?_
      refine WC.seq ?_
      refine WC.region ?_
      refine WL.y (Y.move rfl) rfl ?_
      refine WL.y (Y.move rfl) rfl ?_
      refine WL.y (Y.sub_i rfl rfl) rfl ?_
      refine WL.y (Y.conv_iu ty3.u ty74.u rfl) rfl ?_
      refine WL.y (Y.shl_iu rfl rfl) rfl ?_
      refine WL.y (Y.geq_i rfl rfl) rfl ?_
      refine WL.y (Y.move rfl) rfl ?_
      refine WL.cut 7 (σ := Unit) (fun _ w' => w = w') (fun _ => [(25, .bool ((decide (shlI (-1) ((toU64 (w64 (a1 - 1))).toNat) ≤ a0)) && (decide (a0 < shlI 1 ((toU64 (w64 (a1 - 1))).toNat)))))]) ?_ ?_
      · refine WL.part 18 rfl (fun hE18 => ?_) (fun hE18 => ?_)
        · refine WL.ung rfl rfl ?_
          refine WL.y (Y.move rfl) rfl ?_
          refine WL.ung rfl rfl ?_
          refine WL.y (Y.move rfl) rfl ?_
          refine WL.ung rfl rfl ?_
          refine WL.y (Y.sub_i rfl rfl) rfl ?_
          refine WL.ung rfl rfl ?_
          refine WL.y (Y.conv_iu ty3.u ty74.u rfl) rfl ?_
          refine WL.ung rfl rfl ?_
          refine WL.y (Y.shl_iu rfl rfl) rfl ?_
          refine WL.ung rfl rfl ?_
          refine WL.y (Y.lss_i rfl rfl) rfl ?_
          refine WL.y (Y.pick (b := true) rfl rfl) rfl ?_
          refine WL.ren (v' := .bool ((decide (shlI (-1) ((toU64 (w64 (a1 - 1))).toNat) ≤ a0)) && (decide (a0 < shlI 1 ((toU64 (w64 (a1 - 1))).toNat))))) 25 rfl (congrArg Value.bool (andT hE18)) ?_
          exact WL.nil (At.join () rfl (.cons rfl .nil))
        · refine WL.gS rfl rfl rfl rfl ?_
          refine WL.gS rfl rfl rfl rfl ?_
          refine WL.gS rfl rfl rfl rfl ?_
          refine WL.gS rfl rfl rfl rfl ?_
          refine WL.gS rfl rfl rfl rfl ?_
          refine WL.gS rfl rfl rfl rfl ?_
          refine WL.y (Y.pick (b := false) rfl rfl) rfl ?_
          refine WL.ren (v' := .bool ((decide (shlI (-1) ((toU64 (w64 (a1 - 1))).toNat) ≤ a0)) && (decide (a0 < shlI 1 ((toU64 (w64 (a1 - 1))).toNat))))) 25 rfl (congrArg Value.bool (andF hE18)) ?_
          exact WL.nil (At.join () rfl (.cons rfl .nil))
      · rintro _ _ rfl
        refine (show WL _ _ _ _ _ [(25, .bool ((decide (shlI (-1) ((toU64 (w64 (a1 - 1))).toNat) ≤ a0)) && (decide (a0 < shlI 1 ((toU64 (w64 (a1 - 1))).toNat)))))] _ from ?_)
        obtain ⟨t19, ht19, h⟩ := lt1 h
        refine WL.yE (Y.assign rfl) (congrArg Value.bool ht19.symm) rfl ?_
        refine WL.nil ?_
        refine At.then ?_
        refine WC.ret ?_
        obtain rfl := some1 h
        have hs20 : Stp [] (Lg.O0 (fun _ => False)) w (Lg.O0 (fun _ => False)) w := (Stp.refl _ _ _)
        exact At.res (.inl rfl) rfl (.tmp rfl .nil) ⟨rfl, (Stp.ext hs20 rfl rfl)⟩

theorem c_vary_way {a0 : Int} {w : World} {r0 : Int} (h : vary_way a0 = some r0) : Rets Try.prog 58 [vi a0] w (fun v w' => v = vi r0 ∧ Ext w w') := by
  unfold vary_way at h
  refine Rets.enter Try.func58 rfl rfl ?_
  refine (show WC _ _ _ _ [(0, vi a0)] _ from ?_)
  refine WC.seq ?_
  refine WC.region ?_
  refine WL.y (Y.assign rfl) rfl ?_
  refine WL.nil ?_
  refine At.then ?_
  refine WC.seq ?_
  refine WC.seq ?_
  refine WC.region ?_
  obtain ⟨r11, hp12, h⟩ := bnd h
  refine WL.call (vals := []) kok59 rfl rfl (c_vary_widths hp12) ?_
  rintro vr18 wd17 ⟨cs13, rfl, hm16, f14, f15⟩
  obtain ⟨O19, hold20, hnew21, hst22⟩ := adoptE (Lg.O0 (fun _ => False)) (fun k => 1) hm16
  have hf23 := Rows'.adoptF f14 (fun k hk => ⟨hk, rfl⟩) hnew21
  refine WL.y (Y.move rfl) rfl ?_
  refine WL.nil ?_
  refine At.then ?_
  refine WC.block ?_
  obtain ⟨p31, h, hk33⟩ := flow1 h
  obtain ⟨k32, h⟩ := loop_some h
  refine WC.joinB 0 (σ := Own) (fun x w' => p31 = .go () ∧ Stp [] O19 wd17 x w') (fun x => []) ?_ ?_
  · refine WC.loop (σ := (Int × Own)) (fun x k w' => loopN k (vary_way_lp1 a0 r11) x.1 = some p31 ∧ Stp [] O19 wd17 x.2 w') (fun x => [(0, vi a0), (5, .agg cs13.toArray), (6, vi x.1)]) (0, O19) k32 (.cons rfl (.cons rfl (.cons rfl .nil))) ⟨h, (Stp.refl _ _ _)⟩ ?_
    rintro ⟨x24, O25⟩ k32 wd26 ⟨h, hst27⟩
    obtain ⟨j34, q35, rfl, h, hn36⟩ := rnd1 h
    unfold vary_way_lp1 at h
    try dsimp only at h hst27
    refine (show WC _ _ _ _ [(0, vi a0), (5, .agg cs13.toArray), (6, vi x24)] _ from ?_)
    refine WC.seq ?_
    refine WC.region ?_
    refine WL.y (Y.lss_i rfl rfl) rfl ?_
    refine WL.nil ?_
    refine At.then ?_
    refine WC.seq ?_
    rcases cnd h with ⟨hc37, h⟩ | ⟨hc37, h⟩
    · refine WC.condT' rfl hc37 ?_
      refine WC.skip ?_
      refine At.then ?_
      refine WC.seq ?_
      refine WC.block ?_
      refine WC.seq ?_
      refine WC.region ?_
      refine WL.y (Y.move rfl) rfl ?_
      have hf38 := Rows'.mono (imm_st hst27 rfl rfl) hf23
      obtain ⟨e39, he39, h⟩ := bnd h
      obtain ⟨cs40, hcs41, hok42⟩ := arrAt (R := Rep.i) (w := wd26) (A := imm O25) (cells := cs13) hf38 he39
      obtain rfl := hok42
      replace hcs41 : _ = [vi e39] := hcs41
      refine WL.y (Y.indexArrSc ty85 ty3 rfl rfl hcs41 he39 f15) rfl ?_
      refine WL.y (Y.assign rfl) rfl ?_
      refine WL.y (Y.assign rfl) rfl ?_
      refine WL.nil ?_
      refine At.then ?_
      refine WC.seq ?_
      refine WC.region ?_
      refine WL.y (Y.move rfl) rfl ?_
      refine WL.y (Y.move rfl) rfl ?_
      obtain ⟨r43, hp44, h⟩ := bnd h
      refine WL.call (vals := [vi a0, vi e39]) kok64 rfl rfl (c_vary_fits hp44) ?_
      rintro vr47 wd46 ⟨rfl, hm45⟩
      obtain ⟨O48, hold49, hnew50, hst51⟩ := adoptE O25 (fun k => 1) hm45
      refine WL.nil ?_
      refine At.then ?_
      rcases cnd h with ⟨hc52, h⟩ | ⟨hc52, h⟩
      · refine WC.condT' rfl hc52 ?_
        refine WC.seq ?_
        refine WC.region ?_
        refine WL.y (Y.move rfl) rfl ?_
        refine WL.y (Y.assign rfl) rfl ?_
        refine WL.nil ?_
        refine At.then ?_
        refine WC.ret ?_
        refine At.inBlockR ?_
        refine At.thenR ?_
        refine At.loopR ?_
        have h := outr1 h hn36 hk33
        refine At.joinBR ?_
        refine At.inBlockR ?_
        refine At.thenR ?_
        obtain rfl := some1 h
        have hs53 : Stp [] (Lg.O0 (fun _ => False)) w O48 wd46 := (Stp.trans (Stp.up hst22 rfl) (Stp.trans (Stp.up hst27 rfl) (Stp.up hst51 rfl)))
        exact At.res (.inl rfl) rfl (.tmp rfl .nil) ⟨rfl, (Stp.ext hs53 rfl rfl)⟩
      · refine WC.condF' rfl hc52 ?_
        refine WC.skip ?_
        refine At.inBlock ?_
        refine At.then ?_
        refine WC.region ?_
        refine WL.y (Y.add_i rfl rfl) rfl ?_
        refine WL.y (Y.move rfl) rfl ?_
        refine WL.nil ?_
        exact At.round (w64 (x24 + 1), O48) j34 (Nat.lt_succ_self _) ⟨next1 h hn36, (Stp.trans (Stp.up hst27 rfl) (Stp.up hst51 rfl))⟩ (.cons rfl (.cons rfl (.cons rfl .nil)))
    · refine WC.condF' rfl hc37 ?_
      refine WC.exit ?_
      refine At.thenX ?_
      refine At.loopX ?_
      exact At.hitB (σ := Own) O25 ⟨brk1 h hn36, (Stp.up hst27 rfl)⟩ .nil
  · rintro O28 wd29 ⟨rfl, hst30⟩
    replace h := flowK_go hk33
    refine (show At _ _ _ [] _ from ?_)
    refine At.inBlockHit ?_
    refine At.then ?_
    refine WC.seq ?_
    refine WC.region ?_
    refine WL.y (Y.assign rfl) rfl ?_
    refine WL.nil ?_
    refine At.then ?_
    refine WC.ret ?_
    obtain rfl := some1 h
    have hs54 : Stp [] (Lg.O0 (fun _ => False)) w O28 wd29 := (Stp.trans (Stp.up hst22 rfl) (Stp.up hst30 rfl))
    exact At.res (.inl rfl) rfl (.tmp rfl .nil) ⟨rfl, (Stp.ext hs54 rfl rfl)⟩

theorem c_vary_Row_Put {a0 : vary_Row} {b0 : Nat} {v1_0 : Value} {a1 : bitio_Writer} {b1 : Nat} {a2 : Int} {w : World} (hb0 : w.heap[b0]? = some (.cells (List.toArray [vi a0.n, vu a0.last, vu a0.step]) 83 (0, 0))) (hs1_0 : Row Rep.b 5 w v1_0 a1.b) (hb1 : w.heap[b1]? = some (.cells (List.toArray [v1_0, vi a1.n]) 73 (0, 0))) (hne0_1 : b0 ≠ b1) (hne0_2 : Value.ownBlock v1_0 ≠ some b0) (hne1_2 : Value.ownBlock v1_0 ≠ some b1) {q0 : vary_Row} {q1 : bitio_Writer} (h : vary_Row_Put a0 a1 a2 = some (q0, q1)) : Rets Try.prog 43 [.pointer (some ⟨b0, 0, none⟩), .pointer (some ⟨b1, 0, none⟩), vi a2] w (fun v w' => ∃ (z1_0 : Value), v = .tuple (List.toArray []) ∧ Mod (fun k => k = b0 ∨ k = b1 ∨ Value.ownBlock v1_0 = some k) w w' ∧ w'.heap[b0]? = some (.cells (List.toArray [vi q0.n, vu q0.last, vu q0.step]) 83 (0, 0)) ∧ RowG Rep.b 5 w w' v1_0 z1_0 q1.b ∧ w'.heap[b1]? = some (.cells (List.toArray [z1_0, vi q1.n]) 73 (0, 0))) := by
  unfold vary_Row_Put at h
  refine Rets.enter Try.func43 rfl rfl ?_
  have hb11 : Blk 3 (Lg.OB b0 3 (Lg.OB b1 4 (Lg.OV v1_0 5 (Lg.O0 (fun _ => False))))) w b0 83 [vi a0.n, vu a0.last, vu a0.step] := ⟨(if_pos rfl), hb0⟩
  have ho12 : OwnSl 5 Rep.b 5 (Lg.OB b0 3 (Lg.OB b1 4 (Lg.OV v1_0 5 (Lg.O0 (fun _ => False))))) w v1_0 a1.b := Row.start Flat.b hs1_0 (fun k hk => ((if_neg (fun (e : k = b0) => hne0_2 (e ▸ hk))).trans ((if_neg (fun (e : k = b1) => hne1_2 (e ▸ hk))).trans (if_pos hk))))
  have hb13 : Blk 4 (Lg.OB b0 3 (Lg.OB b1 4 (Lg.OV v1_0 5 (Lg.O0 (fun _ => False))))) w b1 73 [v1_0, vi a1.n] := ⟨((if_neg (fun (e : b1 = b0) => hne0_1 e.symm)).trans (if_pos rfl)), hb1⟩
  refine (show WC _ _ _ _ [(0, .pointer (some ⟨b0, 0, none⟩)), (1, .pointer (some ⟨b1, 0, none⟩)), (2, vi a2)] _ from ?_)
  refine WC.seq ?_
  refine WC.seq ?_
  refine WC.region ?_
  refine WL.y (Y.move rfl) rfl ?_
  refine WL.y (Y.nilCheck rfl) rfl ?_
  refine WL.y (Y.fieldAddr fo83_0 rfl) rfl ?_
  refine WL.y (Y.loadSc ty3 rfl rfl (hb11.cell 0 _ rfl)) rfl ?_
  refine WL.nil ?_
  refine At.then ?_
  obtain ⟨p22, h, hk23⟩ := bnd h
  refine WC.join (σ := (List UInt8 × Int × Own × Value)) (fun x w' => (x.1, x.2.1) = p22 ∧ Stp [4, 5] (Lg.OB b0 3 (Lg.OB b1 4 (Lg.OV v1_0 5 (Lg.O0 (fun _ => False))))) w x.2.2.1 w' ∧ OwnSl 5 Rep.b 5 x.2.2.1 w' x.2.2.2 x.1 ∧ Blk 4 x.2.2.1 w' b1 73 [x.2.2.2, vi x.2.1]) (fun x => [(0, .pointer (some ⟨b0, 0, none⟩)), (2, vi a2)]) ?_ ?_
  · refine WC.block ?_
    refine WC.seq ?_
    refine WC.region ?_
    refine WL.y (Y.eql_i rfl rfl) rfl ?_
    obtain ⟨t24, ht24, h⟩ := lt1 h
    refine WL.yE (Y.assign rfl) (congrArg Value.bool ht24.symm) rfl ?_
    refine WL.nil ?_
    refine At.then ?_
    rcases cnd h with ⟨hc25, h⟩ | ⟨hc25, h⟩
    · refine WC.condT' rfl hc25 ?_
      refine WC.region ?_
      refine WL.y (Y.move rfl) rfl ?_
      refine WL.y (Y.move rfl) rfl ?_
      obtain ⟨r26, hp27, h⟩ := bnd h
      refine WL.call (vals := [.pointer (some ⟨b1, 0, none⟩), vi a2]) kok32 rfl rfl (c_vary_PutInt (a0 := a1) ho12.row hb13.blk (ne_lab ho12 hb13.lab rfl) hp27) ?_
      rintro vr33 wd32 ⟨z28, rfl, hm31, f29, f30⟩
      obtain ⟨O34, hold35, hnew36, hst37⟩ := adopt (Lg.OB b0 3 (Lg.OB b1 4 (Lg.OV v1_0 5 (Lg.O0 (fun _ => False))))) (fun k => if Value.ownBlock z28 = some k then 5 else 1) [4, 5] hm31 (memOr (memB hb13.lab rfl) (memV ho12.labs rfl))
      have ho38 : OwnSl 5 Rep.b 5 O34 wd32 z28 r26.b := RowG.adopt Flat.b ho12.labs f29 hold35 hnew36 (fun k hk => if_pos hk)
      have hb39 : Blk 4 O34 wd32 b1 73 [z28, vi r26.n] := Blk.adopt hb13 hold35 f30
      refine WL.nil ?_
      refine At.inBlock ?_
      exact At.join (σ := (List UInt8 × Int × Own × Value)) (r26.b, r26.n, O34, z28) ⟨some1 h, (Stp.up hst37 rfl), ho38, hb39⟩ (.cons rfl (.cons rfl .nil))
    · refine WC.condF' rfl hc25 ?_
      refine WC.seq ?_
      refine WC.region ?_
      refine WL.y (Y.eql_i rfl rfl) rfl ?_
      obtain ⟨t40, ht40, h⟩ := lt1 h
      refine WL.yE (Y.assign rfl) (congrArg Value.bool ht40.symm) rfl ?_
      refine WL.nil ?_
      refine At.then ?_
      rcases cnd h with ⟨hc41, h⟩ | ⟨hc41, h⟩
      · refine WC.condT' rfl hc41 ?_
        refine WC.region ?_
        refine WL.y (Y.move rfl) rfl ?_
        refine WL.y (Y.move rfl) rfl ?_
        refine WL.y (Y.conv_iu ty3.u ty29.u rfl) rfl ?_
        refine WL.y (Y.move rfl) rfl ?_
        refine WL.y (Y.nilCheck rfl) rfl ?_
        refine WL.y (Y.fieldAddr fo83_1 rfl) rfl ?_
        refine WL.y (Y.loadSc ty29 rfl rfl (hb11.cell 1 _ rfl)) rfl ?_
        refine WL.y (Y.sub_u rfl rfl) rfl ?_
        refine WL.y (Y.conv_ui ty29.u ty3.u rfl) rfl ?_
        obtain ⟨r42, hp43, h⟩ := bnd h
        refine WL.call (vals := [.pointer (some ⟨b1, 0, none⟩), vi (w64 (((toU64 a2) - a0.last).toNat : Int))]) kok32 rfl rfl (c_vary_PutInt (a0 := a1) ho12.row hb13.blk (ne_lab ho12 hb13.lab rfl) hp43) ?_
        rintro vr49 wd48 ⟨z44, rfl, hm47, f45, f46⟩
        obtain ⟨O50, hold51, hnew52, hst53⟩ := adopt (Lg.OB b0 3 (Lg.OB b1 4 (Lg.OV v1_0 5 (Lg.O0 (fun _ => False))))) (fun k => if Value.ownBlock z44 = some k then 5 else 1) [4, 5] hm47 (memOr (memB hb13.lab rfl) (memV ho12.labs rfl))
        have ho54 : OwnSl 5 Rep.b 5 O50 wd48 z44 r42.b := RowG.adopt Flat.b ho12.labs f45 hold51 hnew52 (fun k hk => if_pos hk)
        have hb55 : Blk 4 O50 wd48 b1 73 [z44, vi r42.n] := Blk.adopt hb13 hold51 f46
        refine WL.nil ?_
        refine At.inBlock ?_
        exact At.join (σ := (List UInt8 × Int × Own × Value)) (r42.b, r42.n, O50, z44) ⟨some1 h, (Stp.up hst53 rfl), ho54, hb55⟩ (.cons rfl (.cons rfl .nil))
      · refine WC.condF' rfl hc41 ?_
        refine WC.seq ?_
        refine WC.draw 13 (Lg.OB b0 3 (Lg.OB b1 4 (Lg.OV v1_0 5 (Lg.O0 (fun _ => False))))) fmix (by kernel_rfl) ?_
        intro wd56 hst57
        refine WS.y (Y.move rfl) rfl ?_
        refine WS.y (Y.conv_iu ty3.u ty29.u rfl) rfl ?_
        refine WS.y (Y.move rfl) rfl ?_
        refine WS.y (Y.nilCheck rfl) rfl ?_
        refine WS.y (Y.fieldAddr fo83_1 rfl) rfl ?_
        have hf58 := hb11.st hst57 rfl
        refine WS.y (Y.loadSc ty29 rfl rfl (hf58.cell 1 _ rfl)) rfl ?_
        refine WS.y (Y.sub_u rfl rfl) rfl ?_
        refine WS.y (Y.move rfl) rfl ?_
        refine WS.y (Y.nilCheck rfl) rfl ?_
        refine WS.y (Y.fieldAddr fo83_2 rfl) rfl ?_
        refine WS.y (Y.loadSc ty29 rfl rfl (hf58.cell 2 _ rfl)) rfl ?_
        refine WS.y (Y.sub_u rfl rfl) rfl ?_
        refine WS.y (Y.conv_ui ty29.u ty3.u rfl) rfl ?_
        refine WS.tail ?_
        obtain ⟨d59, hd59, h⟩ := lt1 h
        refine WL.yE (Y.assign rfl) (congrArg vi hd59.symm) rfl ?_
        refine WL.nil ?_
        refine At.then ?_
        refine WC.seq ?_
        refine WC.region ?_
        refine WL.y (Y.move rfl) rfl ?_
        obtain ⟨r60, hp61, h⟩ := bnd h
        refine WL.call (vals := [vi d59]) kok58 rfl rfl (c_vary_way hp61) ?_
        rintro vr64 wd63 ⟨rfl, hm62⟩
        obtain ⟨O65, hold66, hnew67, hst68⟩ := adoptE (Lg.OB b0 3 (Lg.OB b1 4 (Lg.OV v1_0 5 (Lg.O0 (fun _ => False))))) (fun k => 1) hm62
        refine WL.y (Y.assign rfl) rfl ?_
        refine WL.nil ?_
        refine At.then ?_
        refine WC.seq ?_
        refine WC.seq ?_
        refine WC.region ?_
        refine WL.y (Y.move rfl) rfl ?_
        refine WL.y (Y.move rfl) rfl ?_
        refine WL.nil ?_
        refine At.then ?_
        obtain ⟨p77, h, hk78⟩ := bnd h
        refine WC.join (σ := (List UInt8 × Int × Own × Value)) (fun x w' => (x.1, x.2.1) = p77 ∧ Stp [4, 5] O65 wd63 x.2.2.1 w' ∧ OwnSl 5 Rep.b 5 x.2.2.1 w' x.2.2.2 x.1 ∧ Blk 4 x.2.2.1 w' b1 73 [x.2.2.2, vi x.2.1]) (fun x => [(0, .pointer (some ⟨b0, 0, none⟩)), (1, .pointer (some ⟨b1, 0, none⟩)), (2, vi a2), (6, vi d59), (7, vi r60)]) ?_ ?_
        · refine WC.block ?_
          obtain ⟨p96, h, hk98⟩ := flow1 h
          obtain ⟨k97, h⟩ := loop_some h
          refine WC.joinB 1 (σ := (List UInt8 × Int × Own × Value)) (fun x w' => p96 = .go (x.1, x.2.1) ∧ Stp [4, 5] O65 wd63 x.2.2.1 w' ∧ OwnSl 5 Rep.b 5 x.2.2.1 w' x.2.2.2 x.1 ∧ Blk 4 x.2.2.1 w' b1 73 [x.2.2.2, vi x.2.1]) (fun x => [(0, .pointer (some ⟨b0, 0, none⟩)), (1, .pointer (some ⟨b1, 0, none⟩)), (2, vi a2), (6, vi d59), (7, vi r60)]) ?_ ?_
          · have hf99 := ho12.st hst57 rfl rfl rfl
            have hf100 := hf99.st hst68 rfl rfl rfl
            have hf101 := hb13.st hst57 rfl
            have hf102 := hf101.st hst68 rfl
            refine WC.loop (σ := (List UInt8 × Int × Int × Own × Value)) (fun x k w' => loopN k (vary_Row_Put_lp1 r60) (x.1, x.2.1, x.2.2.1) = some p96 ∧ Stp [4, 5] O65 wd63 x.2.2.2.1 w' ∧ OwnSl 5 Rep.b 5 x.2.2.2.1 w' x.2.2.2.2 x.1 ∧ Blk 4 x.2.2.2.1 w' b1 73 [x.2.2.2.2, vi x.2.1]) (fun x => [(0, .pointer (some ⟨b0, 0, none⟩)), (1, .pointer (some ⟨b1, 0, none⟩)), (2, vi a2), (6, vi d59), (7, vi r60), (28, vi r60), (29, vi x.2.2.1)]) (a1.b, a1.n, 0, O65, v1_0) k97 (.cons rfl (.cons rfl (.cons rfl (.cons rfl (.cons rfl (.cons rfl (.cons rfl .nil))))))) ⟨h, (Stp.refl _ _ _), hf100, hf102⟩ ?_
            rintro ⟨c80, c83, x84, O85, v81⟩ k97 wd86 ⟨h, hst87, hf82, hb79⟩
            obtain ⟨j103, q104, rfl, h, hn105⟩ := rnd1 h
            unfold vary_Row_Put_lp1 at h
            try dsimp only at h hst87 hf82 hb79
            refine (show WC _ _ _ _ [(0, .pointer (some ⟨b0, 0, none⟩)), (1, .pointer (some ⟨b1, 0, none⟩)), (2, vi a2), (6, vi d59), (7, vi r60), (28, vi r60), (29, vi x84)] _ from ?_)
            refine WC.seq ?_
            refine WC.region ?_
            refine WL.y (Y.lss_i rfl rfl) rfl ?_
            refine WL.nil ?_
            refine At.then ?_
            refine WC.seq ?_
            rcases cnd h with ⟨hc106, h⟩ | ⟨hc106, h⟩
            · refine WC.condT' rfl hc106 ?_
              refine WC.skip ?_
              refine At.then ?_
              refine WC.seq ?_
              refine WC.block ?_
              refine WC.region ?_
              refine WL.y (Y.move rfl) rfl ?_
              obtain ⟨⟨r107, r108⟩, hp109, h⟩ := bnd h
              refine WL.call (vals := [.pointer (some ⟨b1, 0, none⟩), vu 1, vi 1]) kok13 rfl rfl (c_bitio_Writer_Put (a0 := (bitio_Writer.mk c80 c83)) hf82.row hb79.blk (ne_lab hf82 hb79.lab rfl) hp109) ?_
              rintro vr115 wd114 ⟨z110, rfl, hm113, f111, f112⟩
              obtain ⟨O116, hold117, hnew118, hst119⟩ := adopt O85 (fun k => if Value.ownBlock z110 = some k then 5 else 1) [4, 5] hm113 (memOr (memB hb79.lab rfl) (memV hf82.labs rfl))
              have ho120 : OwnSl 5 Rep.b 5 O116 wd114 z110 r108.b := RowG.adopt Flat.b hf82.labs f111 hold117 hnew118 (fun k hk => if_pos hk)
              have hb121 : Blk 4 O116 wd114 b1 73 [z110, vi r108.n] := Blk.adopt hb79 hold117 f112
              refine WL.nil ?_
              refine At.inBlock ?_
              refine At.then ?_
              refine WC.region ?_
              refine WL.y (Y.add_i rfl rfl) rfl ?_
              refine WL.y (Y.move rfl) rfl ?_
              refine WL.nil ?_
              exact At.round (r108.b, r108.n, w64 (x84 + 1), O116, z110) j103 (Nat.lt_succ_self _) ⟨next1 h hn105, (Stp.trans (Stp.up hst87 rfl) (Stp.up hst119 rfl)), ho120, hb121⟩ (.cons rfl (.cons rfl (.cons rfl (.cons rfl (.cons rfl (.cons rfl (.cons rfl .nil)))))))
            · refine WC.condF' rfl hc106 ?_
              refine WC.exit ?_
              refine At.thenX ?_
              refine At.loopX ?_
              exact At.hitB (σ := (List UInt8 × Int × Own × Value)) (c80, c83, O85, v81) ⟨brk1 h hn105, (Stp.up hst87 rfl), hf82, hb79⟩ (.cons rfl (.cons rfl (.cons rfl (.cons rfl (.cons rfl .nil)))))
          · rintro ⟨c89, c92, O93, v90⟩ wd94 ⟨rfl, hst95, hf91, hb88⟩
            replace h := flowK_go hk98
            try dsimp only at h hst95 hf91 hb88
            refine (show At _ _ _ [(0, .pointer (some ⟨b0, 0, none⟩)), (1, .pointer (some ⟨b1, 0, none⟩)), (2, vi a2), (6, vi d59), (7, vi r60)] _ from ?_)
            refine At.inBlockHit ?_
            exact At.join (σ := (List UInt8 × Int × Own × Value)) (c89, c92, O93, v90) ⟨some1 h, (Stp.up hst95 rfl), hf91, hb88⟩ (.cons rfl (.cons rfl (.cons rfl (.cons rfl (.cons rfl .nil)))))
        · rintro ⟨c70, c73, O74, v71⟩ wd75 ⟨rfl, hst76, hf72, hb69⟩
          replace h := hk78
          try dsimp only at h hst76 hf72 hb69
          refine (show At _ _ _ [(0, .pointer (some ⟨b0, 0, none⟩)), (1, .pointer (some ⟨b1, 0, none⟩)), (2, vi a2), (6, vi d59), (7, vi r60)] _ from ?_)
          refine At.then ?_
          refine WC.seq ?_
          obtain ⟨p130, h, hk131⟩ := bnd h
          refine WC.join (σ := (List UInt8 × Int × Own × Value)) (fun x w' => (x.1, x.2.1) = p130 ∧ Stp [4, 5] O74 wd75 x.2.2.1 w' ∧ OwnSl 5 Rep.b 5 x.2.2.1 w' x.2.2.2 x.1 ∧ Blk 4 x.2.2.1 w' b1 73 [x.2.2.2, vi x.2.1]) (fun x => [(0, .pointer (some ⟨b0, 0, none⟩)), (1, .pointer (some ⟨b1, 0, none⟩)), (2, vi a2), (6, vi d59), (7, vi r60)]) ?_ ?_
          · refine WC.seq ?_
            refine WC.region ?_
            refine WL.y (Y.move rfl) rfl ?_
            refine WL.y (Y.lss_i rfl rfl) rfl ?_
            refine WL.nil ?_
            refine At.then ?_
            rcases cnd h with ⟨hc132, h⟩ | ⟨hc132, h⟩
            · refine WC.condT' rfl hc132 ?_
              refine WC.region ?_
              refine WL.y (Y.move rfl) rfl ?_
              obtain ⟨⟨r133, r134⟩, hp135, h⟩ := bnd h
              refine WL.call (vals := [.pointer (some ⟨b1, 0, none⟩), vu 0, vi 1]) kok13 rfl rfl (c_bitio_Writer_Put (a0 := (bitio_Writer.mk c70 c73)) hf72.row hb69.blk (ne_lab hf72 hb69.lab rfl) hp135) ?_
              rintro vr141 wd140 ⟨z136, rfl, hm139, f137, f138⟩
              obtain ⟨O142, hold143, hnew144, hst145⟩ := adopt O74 (fun k => if Value.ownBlock z136 = some k then 5 else 1) [4, 5] hm139 (memOr (memB hb69.lab rfl) (memV hf72.labs rfl))
              have ho146 : OwnSl 5 Rep.b 5 O142 wd140 z136 r134.b := RowG.adopt Flat.b hf72.labs f137 hold143 hnew144 (fun k hk => if_pos hk)
              have hb147 : Blk 4 O142 wd140 b1 73 [z136, vi r134.n] := Blk.adopt hb69 hold143 f138
              refine WL.nil ?_
              exact At.join (σ := (List UInt8 × Int × Own × Value)) (r134.b, r134.n, O142, z136) ⟨some1 h, (Stp.up hst145 rfl), ho146, hb147⟩ (.cons rfl (.cons rfl (.cons rfl (.cons rfl (.cons rfl .nil)))))
            · refine WC.condF' rfl hc132 ?_
              refine WC.skip ?_
              exact At.join (σ := (List UInt8 × Int × Own × Value)) (c70, c73, O74, v71) ⟨some1 h, (Stp.refl _ _ _), hf72, hb69⟩ (.cons rfl (.cons rfl (.cons rfl (.cons rfl (.cons rfl .nil)))))
          · rintro ⟨c123, c126, O127, v124⟩ wd128 ⟨rfl, hst129, hf125, hb122⟩
            replace h := hk131
            try dsimp only at h hst129 hf125 hb122
            refine (show At _ _ _ [(0, .pointer (some ⟨b0, 0, none⟩)), (1, .pointer (some ⟨b1, 0, none⟩)), (2, vi a2), (6, vi d59), (7, vi r60)] _ from ?_)
            refine At.then ?_
            refine WC.seq ?_
            refine WC.region ?_
            obtain ⟨r148, hp149, h⟩ := bnd h
            refine WL.call (vals := []) kok59 rfl rfl (c_vary_widths hp149) ?_
            rintro vr155 wd154 ⟨cs150, rfl, hm153, f151, f152⟩
            obtain ⟨O156, hold157, hnew158, hst159⟩ := adoptE O127 (fun k => 1) hm153
            have hf160 := Rows'.adoptF f151 (fun k hk => ⟨hk, rfl⟩) hnew158
            refine WL.y (Y.move rfl) rfl ?_
            obtain ⟨e161, he161, h⟩ := bnd h
            obtain ⟨cs162, hcs163, hok164⟩ := arrAt (R := Rep.i) (w := wd154) (A := imm O156) (cells := cs150) hf160 he161
            obtain rfl := hok164
            replace hcs163 : _ = [vi e161] := hcs163
            refine WL.y (Y.indexArrSc ty85 ty3 rfl rfl hcs163 he161 f152) rfl ?_
            refine WL.y (Y.assign rfl) rfl ?_
            refine WL.nil ?_
            refine At.then ?_
            refine WC.region ?_
            refine WL.y (Y.move rfl) rfl ?_
            refine WL.y (Y.move rfl) rfl ?_
            refine WL.y (Y.conv_iu ty3.u ty29.u rfl) rfl ?_
            refine WL.y (Y.move rfl) rfl ?_
            refine WL.y (Y.sub_i rfl rfl) rfl ?_
            refine WL.y (Y.conv_iu ty3.u ty74.u rfl) rfl ?_
            refine WL.y (Y.shl_uu rfl rfl) rfl ?_
            refine WL.y (Y.move rfl) rfl ?_
            refine WL.y (Y.sub_i rfl rfl) rfl ?_
            refine WL.y (Y.conv_iu ty3.u ty74.u rfl) rfl ?_
            refine WL.y (Y.shr_uu rfl rfl) rfl ?_
            refine WL.y (Y.move rfl) rfl ?_
            have hf165 := hf125.st hst159 rfl rfl rfl
            have hf166 := hb122.st hst159 rfl
            obtain ⟨⟨r167, r168⟩, hp169, h⟩ := bnd h
            refine WL.call (vals := [.pointer (some ⟨b1, 0, none⟩), vu (shrU (shlU (toU64 d59) ((toU64 (w64 (64 - e161))).toNat)) ((toU64 (w64 (64 - e161))).toNat)), vi e161]) kok13 rfl rfl (c_bitio_Writer_Put (a0 := (bitio_Writer.mk c123 c126)) hf165.row hf166.blk (ne_lab hf165 hf166.lab rfl) hp169) ?_
            rintro vr175 wd174 ⟨z170, rfl, hm173, f171, f172⟩
            obtain ⟨O176, hold177, hnew178, hst179⟩ := adopt O156 (fun k => if Value.ownBlock z170 = some k then 5 else 1) [4, 5] hm173 (memOr (memB hf166.lab rfl) (memV hf165.labs rfl))
            have ho180 : OwnSl 5 Rep.b 5 O176 wd174 z170 r168.b := RowG.adopt Flat.b hf165.labs f171 hold177 hnew178 (fun k hk => if_pos hk)
            have hb181 : Blk 4 O176 wd174 b1 73 [z170, vi r168.n] := Blk.adopt hf166 hold177 f172
            refine WL.nil ?_
            refine At.inBlock ?_
            exact At.join (σ := (List UInt8 × Int × Own × Value)) (r168.b, r168.n, O176, z170) ⟨some1 h, (Stp.trans (Stp.up hst57 rfl) (Stp.trans (Stp.up hst68 rfl) (Stp.trans (Stp.up hst76 rfl) (Stp.trans (Stp.up hst129 rfl) (Stp.trans (Stp.up hst159 rfl) (Stp.up hst179 rfl)))))), ho180, hb181⟩ (.cons rfl (.cons rfl .nil))
  · rintro ⟨c15, c18, O19, v16⟩ wd20 ⟨rfl, hst21, hf17, hb14⟩
    replace h := hk23
    try dsimp only at h hst21 hf17 hb14
    refine (show At _ _ _ [(0, .pointer (some ⟨b0, 0, none⟩)), (2, vi a2)] _ from ?_)
    refine At.then ?_
    refine WC.region ?_
    refine WL.y (Y.move rfl) rfl ?_
    refine WL.y (Y.move rfl) rfl ?_
    refine WL.y (Y.conv_iu ty3.u ty29.u rfl) rfl ?_
    have hf182 := hb11.st hst21 rfl
    obtain ⟨r183, hp184, h⟩ := bnd h
    refine WL.call (vals := [.pointer (some ⟨b0, 0, none⟩), vu (toU64 a2)]) kok57 rfl rfl (c_vary_Row_follow (a0 := a0) hf182.blk hp184) ?_
    rintro vr188 wd187 ⟨rfl, hm186, f185⟩
    obtain ⟨O189, hold190, hnew191, hst192⟩ := adopt O19 (fun k => 1) [3] hm186 (memB hf182.lab rfl)
    have hb193 : Blk 3 O189 wd187 b0 83 [vi r183.n, vu r183.last, vu r183.step] := Blk.adopt hf182 hold190 f185
    refine WL.nil ?_
    obtain ⟨rfl, rfl⟩ := tup2 h
    have hs194 : Stp [3, 4, 5] (Lg.OB b0 3 (Lg.OB b1 4 (Lg.OV v1_0 5 (Lg.O0 (fun _ => False))))) w O189 wd187 := (Stp.trans (Stp.up hst21 rfl) (Stp.up hst192 rfl))
    have hf195 := hb14.st hst192 rfl
    have hf196 := hf17.st hst192 rfl rfl rfl
    exact At.res (.inr rfl) rfl .nil ⟨v16, rfl, (Stp.modL hs194 (sB (sB sV1)) rfl rfl), hb193.blk, (OwnSl.outG hf196 hs194 (lowB (lowB (lowV low0 rfl rfl) rfl rfl) rfl rfl) (fun k hk => by unfold Lg.OB Lg.OV Lg.O0 at hk; (repeat' split at hk); all_goals first | assumption | exact absurd hk (by decide))), hf195.blk⟩

theorem c_law06_awake {w : World} {r0 : Bool} (h : law06_awake = some r0) : Rets Try.prog 30 [] w (fun v w' => v = .bool r0 ∧ Ext w w') := by
  unfold law06_awake at h
  refine Rets.enter Try.func30 rfl rfl ?_
  refine (show WC _ _ _ _ [] _ from ?_)
  refine WC.seq ?_
  refine WC.region ?_
  refine WL.y (Y.assign rfl) rfl ?_
  refine WL.nil ?_
  refine At.then ?_
  refine WC.seq ?_
  refine WC.region ?_
  obtain ⟨r11, hp12, h⟩ := bnd h
  refine WL.call (vals := []) kok12 rfl rfl (c_bitio_NewWriter hp12) ?_
  rintro vr19 wd18 ⟨p13, u14, rfl, hm17, f15, f16⟩
  obtain ⟨O20, hold21, hnew22, hst23⟩ := adoptE (Lg.O0 (fun _ => False)) (fun k => if k = p13 then 11 else if Value.ownBlock u14 = some k then 12 else 1) hm17
  have hf25 : OwnSl 12 Rep.b 5 O20 wd18 u14 r11.b := RowF.adopt 12 Flat.b f16.1 hnew22 (fun k hk => (if_neg (fun (e : k = p13) => f16.2 (e ▸ hk))).trans (if_pos hk))
  have hb24 : Blk 11 O20 wd18 p13 73 [u14, vi r11.n] := Blk.new f15 hnew22 (if_pos rfl)
  refine WL.y (Y.assign rfl) rfl ?_
  refine WL.nil ?_
  refine At.then ?_
  refine WC.seq ?_
  refine WC.region ?_
  obtain ⟨r26, hp27, h⟩ := bnd h
  refine WL.call (vals := []) kok39 rfl rfl (c_vary_NewRow hp27) ?_
  rintro vr32 wd31 ⟨p28, rfl, hm30, f29⟩
  obtain ⟨O33, hold34, hnew35, hst36⟩ := adoptE O20 (fun k => if k = p28 then 13 else 1) hm30
  have hb37 : Blk 13 O33 wd31 p28 83 [vi r26.n, vu r26.last, vu r26.step] := Blk.new f29 hnew35 (if_pos rfl)
  refine WL.y (Y.assign rfl) rfl ?_
  refine WL.nil ?_
  refine At.then ?_
  refine WC.seq ?_
  refine WC.seq ?_
  refine WC.region ?_
  refine WL.y (Y.move rfl) rfl ?_
  refine WL.y (Y.eql_nil (r := false) ty25.u rfl rfl rfl) rfl ?_
  refine WL.y (Y.move rfl) rfl ?_
  refine WL.ung rfl rfl ?_
  refine WL.y (Y.move rfl) rfl ?_
  refine WL.ung rfl rfl ?_
  refine WL.y (Y.eql_nil (r := false) ty67.u rfl rfl rfl) rfl ?_
  refine WL.y (Y.pick (b := false) rfl rfl) rfl ?_
  refine WL.nil ?_
  refine At.then ?_
  refine WC.condF rfl ?_
  refine WC.skip ?_
  refine At.then ?_
  refine WC.seq ?_
  refine WC.region ?_
  refine WL.y (Y.move rfl) rfl ?_
  have hf38 := hf25.st hst36 rfl rfl rfl
  have hf39 := hb24.st hst36 rfl
  obtain ⟨r40, hp41, h⟩ := bnd h
  refine WL.call (vals := [.pointer (some ⟨p13, 0, none⟩), vu 5]) kok31 rfl rfl (c_vary_Put (a0 := r11) hf38.row hf39.blk (ne_lab hf38 hf39.lab rfl) hp41) ?_
  rintro vr47 wd46 ⟨z42, rfl, hm45, f43, f44⟩
  obtain ⟨O48, hold49, hnew50, hst51⟩ := adopt O33 (fun k => if Value.ownBlock z42 = some k then 12 else 1) [11, 12] hm45 (memOr (memB hf39.lab rfl) (memV hf38.labs rfl))
  have ho52 : OwnSl 12 Rep.b 5 O48 wd46 z42 r40.b := RowG.adopt Flat.b hf38.labs f43 hold49 hnew50 (fun k hk => if_pos hk)
  have hb53 : Blk 11 O48 wd46 p13 73 [z42, vi r40.n] := Blk.adopt hf39 hold49 f44
  refine WL.nil ?_
  refine At.then ?_
  refine WC.seq ?_
  refine WC.seq ?_
  refine WC.region ?_
  refine WL.y (Y.move rfl) rfl ?_
  obtain ⟨r54, hp55, h⟩ := bnd h
  refine WL.call (vals := [.pointer (some ⟨p13, 0, none⟩)]) kok16 rfl rfl (c_bitio_Writer_Len (A := fun _ => True) (a0 := r40) (ho52.src.sl) hb53.blk trivial hp55) ?_
  rintro vr58 wd57 ⟨rfl, hm56⟩
  obtain ⟨O59, hold60, hnew61, hst62⟩ := adoptE O48 (fun k => 1) hm56
  refine WL.y (Y.neq_i rfl rfl) rfl ?_
  refine WL.y (Y.move rfl) rfl ?_
  obtain ⟨p67, h, hk68⟩ := bnd h
  refine WL.cut 5 (σ := (Bool × Own)) (fun x w' => x.1 = p67 ∧ Stp [] O59 wd57 x.2 w') (fun x => [(1, .pointer (some ⟨p13, 0, none⟩)), (2, .pointer (some ⟨p28, 0, none⟩)), (22, .bool x.1)]) ?_ ?_
  · rcases cnd h with ⟨hE69, h⟩ | ⟨hE69, h⟩
    · refine WL.ren 17 rfl (congrArg Value.bool hE69) ?_
      refine WL.gS rfl rfl rfl rfl ?_
      refine WL.gS rfl rfl rfl rfl ?_
      refine WL.gS rfl rfl rfl rfl ?_
      refine WL.gS rfl rfl rfl rfl ?_
      refine WL.y (Y.pick (b := true) rfl rfl) rfl ?_
      exact WL.nil (At.join (σ := (Bool × Own)) (true, O59) ⟨some1 h, (Stp.refl _ _ _)⟩ (.cons rfl (.cons rfl (.cons rfl .nil))))
    · refine WL.ren 17 rfl (congrArg Value.bool hE69) ?_
      refine WL.ung rfl rfl ?_
      refine WL.y (Y.move rfl) rfl ?_
      refine WL.ung rfl rfl ?_
      have hf70 := hb53.st hst62 rfl
      have hf71 := ho52.st hst62 rfl rfl rfl
      obtain ⟨r72, hp73, h⟩ := bnd h
      refine WL.call (vals := [.pointer (some ⟨p13, 0, none⟩)]) kok14 rfl rfl (c_bitio_Writer_Bytes (A := fun _ => True) (a0 := r40) (hf71.src.sl) hf70.blk trivial hp73) ?_
      rintro vr78 wd77 ⟨_, rfl, hm76, f75⟩
      obtain ⟨O79, hold80, hnew81, hst82⟩ := adoptE O59 (fun k => if Value.ownBlock vr78 = some k then 14 else 1) hm76
      have hf83 : OwnSl 14 Rep.b 5 O79 wd77 vr78 r72 := RowF.adopt 14 Flat.b f75 hnew81 (fun k hk => if_pos hk)
      refine WL.ung rfl rfl ?_
      refine WL.y (Y.b2s ty30 ty5 ty9 rfl hf83.src.sl) rfl ?_
      refine WL.ung rfl rfl ?_
      refine WL.y (Y.neq_s (b := [66, 128]) rfl rfl) rfl ?_
      refine WL.y (Y.pick (b := false) rfl rfl) rfl ?_
      exact WL.nil (At.join (σ := (Bool × Own)) ((!decide (r72 = [66, 128])), O79) ⟨some1 h, (Stp.up hst82 rfl)⟩ (.cons rfl (.cons rfl (.cons rfl .nil))))
  · rintro ⟨x63, O64⟩ wd65 ⟨rfl, hst66⟩
    replace h := hk68
    try dsimp only at h hst66
    refine (show WL _ _ _ _ _ [(1, .pointer (some ⟨p13, 0, none⟩)), (2, .pointer (some ⟨p28, 0, none⟩)), (22, .bool x63)] _ from ?_)
    refine WL.y (Y.move rfl) rfl ?_
    obtain ⟨p93, h, hk94⟩ := bnd h
    refine WL.cut 4 (σ := (List UInt8 × Int × Bool × Own × Value)) (fun x w' => (x.1, x.2.1, x.2.2.1) = p93 ∧ Stp [11, 12] O64 wd65 x.2.2.2.1 w' ∧ OwnSl 1002 Rep.b 5 x.2.2.2.1 w' x.2.2.2.2 x.1 ∧ Blk 11 x.2.2.2.1 w' p13 73 [x.2.2.2.2, vi x.2.1]) (fun x => [(1, .pointer (some ⟨p13, 0, none⟩)), (2, .pointer (some ⟨p28, 0, none⟩)), (27, .bool x.2.2.1)]) ?_ ?_
    · rcases cnd h with ⟨hE95, h⟩ | ⟨hE95, h⟩
      · refine WL.ren 23 rfl (congrArg Value.bool hE95) ?_
        refine WL.gS rfl rfl rfl rfl ?_
        refine WL.gS rfl rfl rfl rfl ?_
        refine WL.gS rfl rfl rfl rfl ?_
        refine WL.y (Y.pick (b := true) rfl rfl) rfl ?_
        have hf96 := ho52.st hst62 rfl rfl rfl
        have hf97 := hf96.st hst66 rfl rfl rfl
        obtain ⟨O98, hst99, ho100⟩ := OwnSl.rlb 1002 rfl hf97
        have hf101 := hb53.st hst62 rfl
        have hf102 := hf101.st hst66 rfl
        have hf103 := hf102.st hst99 rfl
        exact WL.nil (At.join (σ := (List UInt8 × Int × Bool × Own × Value)) (r40.b, r40.n, true, O98, z42) ⟨some1 h, (Stp.up hst99 rfl), ho100, hf103⟩ (.cons rfl (.cons rfl (.cons rfl .nil))))
      · refine WL.ren 23 rfl (congrArg Value.bool hE95) ?_
        refine WL.ung rfl rfl ?_
        refine WL.y (Y.move rfl) rfl ?_
        refine WL.ung rfl rfl ?_
        have hf104 := ho52.st hst62 rfl rfl rfl
        have hf105 := hf104.st hst66 rfl rfl rfl
        have hf106 := hb53.st hst62 rfl
        have hf107 := hf106.st hst66 rfl
        obtain ⟨⟨r108, r109⟩, hp110, h⟩ := bnd h
        refine WL.call (vals := [.pointer (some ⟨p13, 0, none⟩), vi 0]) kok28 rfl rfl (c_bitio_Writer_Cut (a0 := r40) hf105.row hf107.blk (ne_lab hf105 hf107.lab rfl) hp110) ?_
        rintro vr116 wd115 ⟨z111, rfl, hm114, f112, f113⟩
        obtain ⟨O117, hold118, hnew119, hst120⟩ := adopt O64 (fun k => if Value.ownBlock z111 = some k then 12 else 1) [11, 12] hm114 (memOr (memB hf107.lab rfl) (memV hf105.labs rfl))
        have ho121 : OwnSl 12 Rep.b 5 O117 wd115 z111 r109.b := RowG.adopt Flat.b hf105.labs f112 hold118 hnew119 (fun k hk => if_pos hk)
        have hb122 : Blk 11 O117 wd115 p13 73 [z111, vi r109.n] := Blk.adopt hf107 hold118 f113
        refine WL.ung rfl rfl ?_
        refine WL.y (Y.not rfl) rfl ?_
        refine WL.y (Y.pick (b := false) rfl rfl) rfl ?_
        obtain ⟨O123, hst124, ho125⟩ := OwnSl.rlb 1002 rfl ho121
        have hf126 := hb122.st hst124 rfl
        exact WL.nil (At.join (σ := (List UInt8 × Int × Bool × Own × Value)) (r109.b, r109.n, (!r108), O123, z111) ⟨some1 h, (Stp.trans (Stp.up hst120 rfl) (Stp.up hst124 rfl)), ho125, hf126⟩ (.cons rfl (.cons rfl (.cons rfl .nil))))
    · rintro ⟨c85, c88, x89, O90, v86⟩ wd91 ⟨rfl, hst92, hf87, hb84⟩
      replace h := hk94
      try dsimp only at h hst92 hf87 hb84
      refine (show WL _ _ _ _ _ [(1, .pointer (some ⟨p13, 0, none⟩)), (2, .pointer (some ⟨p28, 0, none⟩)), (27, .bool x89)] _ from ?_)
      refine WL.nil ?_
      refine At.then ?_
      rcases cnd h with ⟨hc127, h⟩ | ⟨hc127, h⟩
      · refine WC.condT' rfl hc127 ?_
        refine WC.seq ?_
        refine WC.region ?_
        refine WL.y (Y.assign rfl) rfl ?_
        refine WL.nil ?_
        refine At.then ?_
        refine WC.ret ?_
        refine At.thenR ?_
        obtain rfl := some1 h
        have hs128 : Stp [11, 12] (Lg.O0 (fun _ => False)) w O90 wd91 := (Stp.trans (Stp.up hst23 rfl) (Stp.trans (Stp.up hst36 rfl) (Stp.trans (Stp.up hst51 rfl) (Stp.trans (Stp.up hst62 rfl) (Stp.trans (Stp.up hst66 rfl) (Stp.up hst92 rfl))))))
        exact At.res (.inl rfl) rfl (.tmp rfl .nil) ⟨rfl, (Stp.ext hs128 rfl rfl)⟩
      · refine WC.condF' rfl hc127 ?_
        refine WC.skip ?_
        refine At.then ?_
        refine WC.seq ?_
        refine WC.seq ?_
        refine WC.region ?_
        refine WL.y (Y.assign rfl) rfl ?_
        refine WL.nil ?_
        refine At.then ?_
        obtain ⟨p141, h, hk142⟩ := bnd h
        refine WC.join (σ := (List UInt8 × Int × Int × UInt64 × UInt64 × Own × Value)) (fun x w' => (x.1, x.2.1, x.2.2.1, x.2.2.2.1, x.2.2.2.2.1) = p141 ∧ Stp [11, 13, 1002, 1003, 1004] O90 wd91 x.2.2.2.2.2.1 w' ∧ OwnSl 1006 Rep.b 5 x.2.2.2.2.2.1 w' x.2.2.2.2.2.2 x.1 ∧ Blk 11 x.2.2.2.2.2.1 w' p13 73 [x.2.2.2.2.2.2, vi x.2.1] ∧ Blk 13 x.2.2.2.2.2.1 w' p28 83 [vi x.2.2.1, vu x.2.2.2.1, vu x.2.2.2.2.1]) (fun x => [(1, .pointer (some ⟨p13, 0, none⟩)), (2, .pointer (some ⟨p28, 0, none⟩))]) ?_ ?_
        · refine WC.block ?_
          obtain ⟨p168, h, hk170⟩ := flow1 h
          obtain ⟨k169, h⟩ := loop_some h
          refine WC.joinB 0 (σ := (List UInt8 × Int × Int × UInt64 × UInt64 × Own × Value)) (fun x w' => p168 = .go (x.1, x.2.1, x.2.2.1, x.2.2.2.1, x.2.2.2.2.1) ∧ Stp [11, 13, 1002, 1003] O90 wd91 x.2.2.2.2.2.1 w' ∧ OwnSl 1004 Rep.b 5 x.2.2.2.2.2.1 w' x.2.2.2.2.2.2 x.1 ∧ Blk 11 x.2.2.2.2.2.1 w' p13 73 [x.2.2.2.2.2.2, vi x.2.1] ∧ Blk 13 x.2.2.2.2.2.1 w' p28 83 [vi x.2.2.1, vu x.2.2.2.1, vu x.2.2.2.2.1]) (fun x => [(1, .pointer (some ⟨p13, 0, none⟩)), (2, .pointer (some ⟨p28, 0, none⟩))]) ?_ ?_
          · obtain ⟨O171, hst172, ho173⟩ := OwnSl.rlb 1003 rfl hf87
            have hf174 := hb84.st hst172 rfl
            have hf175 := hb37.st hst51 rfl
            have hf176 := hf175.st hst62 rfl
            have hf177 := hf176.st hst66 rfl
            have hf178 := hf177.st hst92 rfl
            have hf179 := hf178.st hst172 rfl
            refine WC.loop (σ := (List UInt8 × Int × Int × UInt64 × UInt64 × Int × Own × Value)) (fun x k w' => loopN k (law06_awake_lp1) (x.1, x.2.1, x.2.2.1, x.2.2.2.1, x.2.2.2.2.1, x.2.2.2.2.2.1) = some p168 ∧ Stp [11, 13, 1002, 1003] O90 wd91 x.2.2.2.2.2.2.1 w' ∧ OwnSl 1003 Rep.b 5 x.2.2.2.2.2.2.1 w' x.2.2.2.2.2.2.2 x.1 ∧ Blk 11 x.2.2.2.2.2.2.1 w' p13 73 [x.2.2.2.2.2.2.2, vi x.2.1] ∧ Blk 13 x.2.2.2.2.2.2.1 w' p28 83 [vi x.2.2.1, vu x.2.2.2.1, vu x.2.2.2.2.1]) (fun x => [(1, .pointer (some ⟨p13, 0, none⟩)), (2, .pointer (some ⟨p28, 0, none⟩)), (3, vi x.2.2.2.2.2.1)]) (c85, c88, r26.n, r26.last, r26.step, 0, O171, v86) k169 (.cons rfl (.cons rfl (.cons rfl .nil))) ⟨h, (Stp.up hst172 rfl), ho173, hf174, hf179⟩ ?_
            rintro ⟨c144, c147, c149, c150, c151, i152, O153, v145⟩ k169 wd154 ⟨h, hst155, hf146, hb143, hb148⟩
            obtain ⟨j180, q181, rfl, h, hn182⟩ := rnd1 h
            unfold law06_awake_lp1 at h
            try dsimp only at h hst155 hf146 hb143 hb148
            refine (show WC _ _ _ _ [(1, .pointer (some ⟨p13, 0, none⟩)), (2, .pointer (some ⟨p28, 0, none⟩)), (3, vi i152)] _ from ?_)
            refine WC.seq ?_
            refine WC.seq ?_
            refine WC.region ?_
            refine WL.y (Y.move rfl) rfl ?_
            refine WL.y (Y.lss_i rfl rfl) rfl ?_
            refine WL.nil ?_
            refine At.then ?_
            rcases cnd h with ⟨hc183, h⟩ | ⟨hc183, h⟩
            · refine WC.condT' rfl hc183 ?_
              refine WC.skip ?_
              refine At.then ?_
              refine WC.seq ?_
              refine WC.block ?_
              refine WC.region ?_
              refine WL.y (Y.move rfl) rfl ?_
              refine WL.y (Y.move rfl) rfl ?_
              refine WL.buildSlice (O := O153) (R := Rep.i) (vals := [(0, vi 10), (1, vi 20), (2, vi 30), (3, vi 31)]) 15 [vi 10, vi 20, vi 30, vi 31] (xs := [10, 20, 30, 31]) (by decide) ty23 ty3 (by decide) (by decide) (Fits.evalp rfl) (by kernel_rfl) rfl ⟨[vi 10], [vi 20, vi 30, vi 31], rfl, rfl, ⟨[vi 20], [vi 30, vi 31], rfl, rfl, ⟨[vi 30], [vi 31], rfl, rfl, ⟨[vi 31], [], rfl, rfl, rfl⟩⟩⟩⟩ rfl ?_
              intro v184 O186 wd187 hst188 ho185
              refine WL.y (Y.move rfl) rfl ?_
              obtain ⟨e189, he189, h⟩ := bnd h
              obtain ⟨b190, cap197, cs196, hv191, hi192, hl193, hc194, hok195⟩ := OwnSl.at ho185 he189
              obtain rfl := hok195
              replace hc194 : CellsAt _ _ _ [vi e189] := hc194
              have hca198 := CAt.own ho185 hv191 hc194
              refine WL.y (Y.indexAddr ty23 ty3 rfl hv191 rfl hi192 hl193) rfl ?_
              refine WL.y (Y.loadSc ty3 rfl rfl hca198.at_) rfl ?_
              have hf199 := hf146.st hst188 rfl rfl rfl
              have hf200 := hb148.st hst188 rfl
              have hf201 := hb143.st hst188 rfl
              obtain ⟨⟨r202, r203⟩, hp204, h⟩ := bnd h
              refine WL.call (vals := [.pointer (some ⟨p28, 0, none⟩), .pointer (some ⟨p13, 0, none⟩), vi e189]) kok43 rfl rfl (c_vary_Row_Put (a0 := (vary_Row.mk c149 c150 c151)) (a1 := (bitio_Writer.mk c144 c147)) hf200.blk hf199.row hf201.blk (ne_blk hf200.lab hf201.lab rfl) (ne_lab hf199 hf200.lab rfl) (ne_lab hf199 hf201.lab rfl) hp204) ?_
              rintro vr211 wd210 ⟨z205, rfl, hm209, f206, f207, f208⟩
              obtain ⟨O212, hold213, hnew214, hst215⟩ := adopt O186 (fun k => if Value.ownBlock z205 = some k then 1003 else 1) [13, 11, 1003] hm209 (memOr (memB hf200.lab rfl) (memOr (memB hf201.lab rfl) (memV hf199.labs rfl)))
              have hb216 : Blk 13 O212 wd210 p28 83 [vi r202.n, vu r202.last, vu r202.step] := Blk.adopt hf200 hold213 f206
              have ho217 : OwnSl 1003 Rep.b 5 O212 wd210 z205 r203.b := RowG.adopt Flat.b hf199.labs f207 hold213 hnew214 (fun k hk => if_pos hk)
              have hb218 : Blk 11 O212 wd210 p13 73 [z205, vi r203.n] := Blk.adopt hf201 hold213 f208
              refine WL.nil ?_
              refine At.inBlock ?_
              refine At.then ?_
              refine WC.region ?_
              refine WL.y (Y.move rfl) rfl ?_
              refine WL.y (Y.add_i rfl rfl) rfl ?_
              obtain ⟨i219, hi219, h⟩ := lt1 h
              refine WL.yE (Y.assign rfl) (congrArg vi hi219.symm) rfl ?_
              refine WL.nil ?_
              exact At.round (r203.b, r203.n, r202.n, r202.last, r202.step, i219, O212, z205) j180 (Nat.lt_succ_self _) ⟨next1 h hn182, (Stp.trans (Stp.up hst155 rfl) (Stp.trans (Stp.up hst188 rfl) (Stp.up hst215 rfl))), ho217, hb218, hb216⟩ (.cons rfl (.cons rfl (.cons rfl .nil)))
            · refine WC.condF' rfl hc183 ?_
              refine WC.exit ?_
              refine At.thenX ?_
              refine At.loopX ?_
              obtain ⟨O220, hst221, ho222⟩ := OwnSl.rlb 1004 rfl hf146
              have hf223 := hb143.st hst221 rfl
              have hf224 := hb148.st hst221 rfl
              exact At.hitB (σ := (List UInt8 × Int × Int × UInt64 × UInt64 × Own × Value)) (c144, c147, c149, c150, c151, O220, v145) ⟨brk1 h hn182, (Stp.trans (Stp.up hst155 rfl) (Stp.up hst221 rfl)), ho222, hf223, hf224⟩ (.cons rfl (.cons rfl .nil))
          · rintro ⟨c157, c160, c162, c163, c164, O165, v158⟩ wd166 ⟨rfl, hst167, hf159, hb156, hb161⟩
            replace h := flowK_go hk170
            try dsimp only at h hst167 hf159 hb156 hb161
            refine (show At _ _ _ [(1, .pointer (some ⟨p13, 0, none⟩)), (2, .pointer (some ⟨p28, 0, none⟩))] _ from ?_)
            refine At.inBlockHit ?_
            obtain ⟨O225, hst226, ho227⟩ := OwnSl.rlb 1006 rfl hf159
            have hf228 := hb156.st hst226 rfl
            have hf229 := hb161.st hst226 rfl
            exact At.join (σ := (List UInt8 × Int × Int × UInt64 × UInt64 × Own × Value)) (c157, c160, c162, c163, c164, O225, v158) ⟨some1 h, (Stp.trans (Stp.up hst167 rfl) (Stp.up hst226 rfl)), ho227, hf228, hf229⟩ (.cons rfl (.cons rfl .nil))
        · rintro ⟨c130, c133, c135, c136, c137, O138, v131⟩ wd139 ⟨rfl, hst140, hf132, hb129, hb134⟩
          replace h := hk142
          try dsimp only at h hst140 hf132 hb129 hb134
          refine (show At _ _ _ [(1, .pointer (some ⟨p13, 0, none⟩)), (2, .pointer (some ⟨p28, 0, none⟩))] _ from ?_)
          refine At.then ?_
          refine WC.seq ?_
          refine WC.region ?_
          refine WL.y (Y.move rfl) rfl ?_
          obtain ⟨r230, hp231, h⟩ := bnd h
          refine WL.call (vals := [.pointer (some ⟨p13, 0, none⟩)]) kok16 rfl rfl (c_bitio_Writer_Len (A := fun _ => True) (a0 := (bitio_Writer.mk c130 c133)) (hf132.src.sl) hb129.blk trivial hp231) ?_
          rintro vr234 wd233 ⟨rfl, hm232⟩
          obtain ⟨O235, hold236, hnew237, hst238⟩ := adoptE O138 (fun k => 1) hm232
          refine WL.y (Y.eql_i rfl rfl) rfl ?_
          refine WL.y (Y.move rfl) rfl ?_
          obtain ⟨p243, h, hk244⟩ := bnd h
          refine WL.cut 4 (σ := (Bool × Own)) (fun x w' => x.1 = p243 ∧ Stp [] O235 wd233 x.2 w') (fun x => [(1, .pointer (some ⟨p13, 0, none⟩)), (46, .bool x.1)]) ?_ ?_
          · rcases cnd h with ⟨hE245, h⟩ | ⟨hE245, h⟩
            · refine WL.ren 42 rfl (congrArg Value.bool hE245) ?_
              refine WL.ung rfl rfl ?_
              refine WL.y (Y.move rfl) rfl ?_
              refine WL.ung rfl rfl ?_
              have hf246 := hb134.st hst238 rfl
              obtain ⟨r247, hp248, h⟩ := bnd h
              refine WL.call (vals := [.pointer (some ⟨p28, 0, none⟩)]) kok42 rfl rfl (c_vary_Row_Len (A := fun _ => True) (a0 := (vary_Row.mk c135 c136 c137)) hf246.blk trivial hp248) ?_
              rintro vr251 wd250 ⟨rfl, hm249⟩
              obtain ⟨O252, hold253, hnew254, hst255⟩ := adoptE O235 (fun k => 1) hm249
              refine WL.ung rfl rfl ?_
              refine WL.y (Y.eql_i rfl rfl) rfl ?_
              refine WL.y (Y.pick (b := true) rfl rfl) rfl ?_
              exact WL.nil (At.join (σ := (Bool × Own)) (decide (r247 = 4), O252) ⟨some1 h, (Stp.up hst255 rfl)⟩ (.cons rfl (.cons rfl .nil)))
            · refine WL.ren 42 rfl (congrArg Value.bool hE245) ?_
              refine WL.gS rfl rfl rfl rfl ?_
              refine WL.gS rfl rfl rfl rfl ?_
              refine WL.gS rfl rfl rfl rfl ?_
              refine WL.y (Y.pick (b := false) rfl rfl) rfl ?_
              exact WL.nil (At.join (σ := (Bool × Own)) (false, O235) ⟨some1 h, (Stp.refl _ _ _)⟩ (.cons rfl (.cons rfl .nil)))
          · rintro ⟨x239, O240⟩ wd241 ⟨rfl, hst242⟩
            replace h := hk244
            try dsimp only at h hst242
            refine (show WL _ _ _ _ _ [(1, .pointer (some ⟨p13, 0, none⟩)), (46, .bool x239)] _ from ?_)
            refine WL.y (Y.move rfl) rfl ?_
            obtain ⟨p260, h, hk261⟩ := bnd h
            refine WL.cut 5 (σ := (Bool × Own)) (fun x w' => x.1 = p260 ∧ Stp [] O240 wd241 x.2 w') (fun x => [(52, .bool x.1)]) ?_ ?_
            · rcases cnd h with ⟨hE262, h⟩ | ⟨hE262, h⟩
              · refine WL.ren 47 rfl (congrArg Value.bool hE262) ?_
                refine WL.ung rfl rfl ?_
                refine WL.y (Y.move rfl) rfl ?_
                refine WL.ung rfl rfl ?_
                have hf263 := hb129.st hst238 rfl
                have hf264 := hf263.st hst242 rfl
                have hf265 := hf132.st hst238 rfl rfl rfl
                have hf266 := hf265.st hst242 rfl rfl rfl
                obtain ⟨r267, hp268, h⟩ := bnd h
                refine WL.call (vals := [.pointer (some ⟨p13, 0, none⟩)]) kok14 rfl rfl (c_bitio_Writer_Bytes (A := fun _ => True) (a0 := (bitio_Writer.mk c130 c133)) (hf266.src.sl) hf264.blk trivial hp268) ?_
                rintro vr273 wd272 ⟨_, rfl, hm271, f270⟩
                obtain ⟨O274, hold275, hnew276, hst277⟩ := adoptE O240 (fun k => if Value.ownBlock vr273 = some k then 16 else 1) hm271
                have hf278 : OwnSl 16 Rep.b 5 O274 wd272 vr273 r267 := RowF.adopt 16 Flat.b f270 hnew276 (fun k hk => if_pos hk)
                refine WL.ung rfl rfl ?_
                refine WL.y (Y.b2s ty30 ty5 ty9 rfl hf278.src.sl) rfl ?_
                refine WL.ung rfl rfl ?_
                refine WL.y (Y.eql_s (b := [74, 37, 22, 224]) rfl rfl) rfl ?_
                refine WL.y (Y.pick (b := true) rfl rfl) rfl ?_
                exact WL.nil (At.join (σ := (Bool × Own)) (decide (r267 = [74, 37, 22, 224]), O274) ⟨some1 h, (Stp.up hst277 rfl)⟩ (.cons rfl .nil))
              · refine WL.ren 47 rfl (congrArg Value.bool hE262) ?_
                refine WL.gS rfl rfl rfl rfl ?_
                refine WL.gS rfl rfl rfl rfl ?_
                refine WL.gS rfl rfl rfl rfl ?_
                refine WL.gS rfl rfl rfl rfl ?_
                refine WL.y (Y.pick (b := false) rfl rfl) rfl ?_
                exact WL.nil (At.join (σ := (Bool × Own)) (false, O240) ⟨some1 h, (Stp.refl _ _ _)⟩ (.cons rfl .nil))
            · rintro ⟨x256, O257⟩ wd258 ⟨rfl, hst259⟩
              replace h := hk261
              try dsimp only at h hst259
              refine (show WL _ _ _ _ _ [(52, .bool x256)] _ from ?_)
              refine WL.y (Y.assign rfl) rfl ?_
              refine WL.nil ?_
              refine At.then ?_
              refine WC.ret ?_
              obtain rfl := some1 h
              have hs279 : Stp [11, 12, 13, 1002, 1003, 1004] (Lg.O0 (fun _ => False)) w O257 wd258 := (Stp.trans (Stp.up hst23 rfl) (Stp.trans (Stp.up hst36 rfl) (Stp.trans (Stp.up hst51 rfl) (Stp.trans (Stp.up hst62 rfl) (Stp.trans (Stp.up hst66 rfl) (Stp.trans (Stp.up hst92 rfl) (Stp.trans (Stp.up hst140 rfl) (Stp.trans (Stp.up hst238 rfl) (Stp.trans (Stp.up hst242 rfl) (Stp.up hst259 rfl))))))))))
              exact At.res (.inl rfl) rfl (.tmp rfl .nil) ⟨rfl, (Stp.ext hs279 rfl rfl)⟩

theorem c_ref01_Number {A : Nat → Prop} {a0 : List Int} {v0 : Value} {w : World} (hs0 : Sl Rep.i w A v0 a0) {r0 : UInt64} (h : ref01_Number a0 = some r0) : Rets Try.prog 24 [v0] w (fun v w' => v = vu r0 ∧ Ext w w') := by
  unfold ref01_Number at h
  refine Rets.enter Try.func24 rfl rfl ?_
  have hf11 : Sl Rep.i w (imm (Lg.O0 A)) v0 a0 := (Sl.start hs0)
  refine (show WC _ _ _ _ [(0, v0)] _ from ?_)
  refine WC.seq ?_
  refine WC.region ?_
  refine WL.y (Y.assign (v := vu 0) rfl) rfl ?_
  refine WL.nil ?_
  refine At.then ?_
  refine WC.seq ?_
  refine WC.region ?_
  refine WL.y (Y.assign (v := vu 0) rfl) rfl ?_
  refine WL.nil ?_
  refine At.then ?_
  refine WC.seq ?_
  refine WC.seq ?_
  refine WC.region ?_
  refine WL.y (Y.assign rfl) rfl ?_
  refine WL.nil ?_
  refine At.then ?_
  refine WC.block ?_
  obtain ⟨p15, h, hk17⟩ := flow1 h
  obtain ⟨k16, h⟩ := loop_some h
  refine WC.joinB 0 (σ := UInt64) (fun x w' => p15 = .go x ∧ w = w') (fun x => [(3, vu x)]) ?_ ?_
  · refine WC.loop (σ := (UInt64 × Int)) (fun x k w' => loopN k (ref01_Number_lp1 a0) (x.1, x.2) = some p15 ∧ w = w') (fun x => [(0, v0), (3, vu x.1), (4, vi x.2)]) (0, 0) k16 (.cons rfl (.cons rfl (.cons rfl .nil))) ⟨h, rfl⟩ ?_
    rintro ⟨v12, i13⟩ k16 _ ⟨h, rfl⟩
    obtain ⟨j18, q19, rfl, h, hn20⟩ := rnd1 h
    unfold ref01_Number_lp1 at h
    try dsimp only at h
    refine (show WC _ _ _ _ [(0, v0), (3, vu v12), (4, vi i13)] _ from ?_)
    refine WC.seq ?_
    refine WC.seq ?_
    refine WC.region ?_
    refine WL.y (Y.move rfl) rfl ?_
    refine WL.y (Y.move rfl) rfl ?_
    refine WL.y (Y.len ty23 rfl hf11) rfl ?_
    refine WL.y (Y.lss_i rfl rfl) rfl ?_
    refine WL.nil ?_
    refine At.then ?_
    rcases cnd h with ⟨hc21, h⟩ | ⟨hc21, h⟩
    · refine WC.condT' rfl hc21 ?_
      refine WC.skip ?_
      refine At.then ?_
      refine WC.seq ?_
      refine WC.block ?_
      refine WC.region ?_
      refine WL.y (Y.move rfl) rfl ?_
      refine WL.y (Y.mul_u (a := 2) rfl rfl) rfl ?_
      refine WL.y (Y.move rfl) rfl ?_
      refine WL.y (Y.move rfl) rfl ?_
      obtain ⟨e22, he22, h⟩ := bnd h
      obtain ⟨b23, off31, cap30, cs29, hv24, hi25, hl26, hc27, hok28, hA32⟩ := Sl.at2 hf11 he22
      obtain rfl := hok28
      replace hc27 : CellsAt _ _ _ [vi e22] := hc27
      have hca33 := CAt.imm hc27 hA32
      refine WL.y (Y.indexAddr ty23 ty3 rfl hv24 rfl hi25 hl26) rfl ?_
      refine WL.y (Y.loadSc ty3 rfl rfl hca33.at_) rfl ?_
      refine WL.y (Y.conv_iu ty3.u ty29.u rfl) rfl ?_
      refine WL.y (Y.add_u rfl rfl) rfl ?_
      obtain ⟨v34, hv34, h⟩ := lt1 h
      refine WL.yE (Y.assign rfl) (congrArg vu hv34.symm) rfl ?_
      refine WL.nil ?_
      refine At.inBlock ?_
      refine At.then ?_
      refine WC.region ?_
      refine WL.y (Y.move rfl) rfl ?_
      refine WL.y (Y.add_i rfl rfl) rfl ?_
      obtain ⟨i35, hi35, h⟩ := lt1 h
      refine WL.yE (Y.assign rfl) (congrArg vi hi35.symm) rfl ?_
      refine WL.nil ?_
      exact At.round (v34, i35) j18 (Nat.lt_succ_self _) ⟨next1 h hn20, rfl⟩ (.cons rfl (.cons rfl (.cons rfl .nil)))
    · refine WC.condF' rfl hc21 ?_
      refine WC.exit ?_
      refine At.thenX ?_
      refine At.loopX ?_
      exact At.hitB (σ := UInt64) v12 ⟨brk1 h hn20, rfl⟩ (.cons rfl .nil)
  · rintro v14 _ ⟨rfl, rfl⟩
    replace h := flowK_go hk17
    try dsimp only at h
    refine (show At _ _ _ [(3, vu v14)] _ from ?_)
    refine At.inBlockHit ?_
    refine At.then ?_
    refine WC.seq ?_
    refine WC.region ?_
    refine WL.y (Y.move rfl) rfl ?_
    refine WL.y (Y.assign rfl) rfl ?_
    refine WL.nil ?_
    refine At.then ?_
    refine WC.ret ?_
    obtain rfl := some1 h
    have hs36 : Stp [] (Lg.O0 A) w (Lg.O0 A) w := (Stp.refl _ _ _)
    exact At.res (.inl rfl) rfl (.tmp rfl .nil) ⟨rfl, (Stp.ext hs36 rfl rfl)⟩

theorem c_ref06_size {a0 : Int} {w : World} {r0 : Int} (h : ref06_size a0 = some r0) : Rets Try.prog 52 [vi a0] w (fun v w' => v = vi r0 ∧ Ext w w') := by
  unfold ref06_size at h
  refine Rets.enter Try.func52 rfl rfl ?_
  refine (show WC _ _ _ _ [(0, vi a0)] _ from ?_)
  refine WC.seq ?_
  refine WC.region ?_
  refine WL.y (Y.assign rfl) rfl ?_
  refine WL.nil ?_
  refine At.then ?_
  refine WC.seq ?_
  refine WC.region ?_
  refine WL.buildSlice (O := (Lg.O0 (fun _ => False))) (R := Rep.i) (vals := [(0, vi 0), (1, vi 7), (2, vi 20), (3, vi 64)]) 11 [vi 0, vi 7, vi 20, vi 64] (xs := [0, 7, 20, 64]) (by decide) ty23 ty3 (by decide) (by decide) (Fits.evalp rfl) (by kernel_rfl) rfl ⟨[vi 0], [vi 7, vi 20, vi 64], rfl, rfl, ⟨[vi 7], [vi 20, vi 64], rfl, rfl, ⟨[vi 20], [vi 64], rfl, rfl, ⟨[vi 64], [], rfl, rfl, rfl⟩⟩⟩⟩ rfl ?_
  intro v11 O13 wd14 hst15 ho12
  refine WL.y (Y.assign rfl) rfl ?_
  refine WL.nil ?_
  refine At.then ?_
  refine WC.seq ?_
  refine WC.region ?_
  refine WL.y (Y.move rfl) rfl ?_
  refine WL.y (Y.move rfl) rfl ?_
  obtain ⟨e16, he16, h⟩ := bnd h
  obtain ⟨b17, cap24, cs23, hv18, hi19, hl20, hc21, hok22⟩ := OwnSl.at ho12 he16
  obtain rfl := hok22
  replace hc21 : CellsAt _ _ _ [vi e16] := hc21
  have hca25 := CAt.own ho12 hv18 hc21
  refine WL.y (Y.indexAddr ty23 ty3 rfl hv18 rfl hi19 hl20) rfl ?_
  refine WL.y (Y.loadSc ty3 rfl rfl hca25.at_) rfl ?_
  refine WL.y (Y.assign rfl) rfl ?_
  refine WL.nil ?_
  refine At.then ?_
  refine WC.ret ?_
  obtain rfl := some1 h
  have hs26 : Stp [] (Lg.O0 (fun _ => False)) w O13 wd14 := (Stp.up hst15 rfl)
  exact At.res (.inl rfl) rfl (.tmp rfl .nil) ⟨rfl, (Stp.ext hs26 rfl rfl)⟩

theorem c_ref06_power {a0 : Int} {w : World} {r0 : UInt64} (h : ref06_power a0 = some r0) : Rets Try.prog 61 [vi a0] w (fun v w' => v = vu r0 ∧ Ext w w') := by
  unfold ref06_power at h
  refine Rets.enter Try.func61 rfl rfl ?_
  refine (show WC _ _ _ _ [(0, vi a0)] _ from ?_)
  refine WC.seq ?_
  refine WC.region ?_
  refine WL.y (Y.assign (v := vu 0) rfl) rfl ?_
  refine WL.nil ?_
  refine At.then ?_
  refine WC.seq ?_
  refine WC.region ?_
  refine WL.y (Y.assign (v := vu 1) rfl) rfl ?_
  refine WL.nil ?_
  refine At.then ?_
  refine WC.seq ?_
  refine WC.seq ?_
  refine WC.region ?_
  refine WL.y (Y.assign rfl) rfl ?_
  refine WL.nil ?_
  refine At.then ?_
  refine WC.block ?_
  obtain ⟨p14, h, hk16⟩ := flow1 h
  obtain ⟨k15, h⟩ := loop_some h
  refine WC.joinB 0 (σ := UInt64) (fun x w' => p14 = .go x ∧ w = w') (fun x => [(3, vu x)]) ?_ ?_
  · refine WC.loop (σ := (UInt64 × Int)) (fun x k w' => loopN k (ref06_power_lp1 a0) (x.1, x.2) = some p14 ∧ w = w') (fun x => [(0, vi a0), (3, vu x.1), (4, vi x.2)]) (1, 0) k15 (.cons rfl (.cons rfl (.cons rfl .nil))) ⟨h, rfl⟩ ?_
    rintro ⟨p11, i12⟩ k15 _ ⟨h, rfl⟩
    obtain ⟨j17, q18, rfl, h, hn19⟩ := rnd1 h
    unfold ref06_power_lp1 at h
    try dsimp only at h
    refine (show WC _ _ _ _ [(0, vi a0), (3, vu p11), (4, vi i12)] _ from ?_)
    refine WC.seq ?_
    refine WC.seq ?_
    refine WC.region ?_
    refine WL.y (Y.move rfl) rfl ?_
    refine WL.y (Y.move rfl) rfl ?_
    refine WL.y (Y.lss_i rfl rfl) rfl ?_
    refine WL.nil ?_
    refine At.then ?_
    rcases cnd h with ⟨hc20, h⟩ | ⟨hc20, h⟩
    · refine WC.condT' rfl hc20 ?_
      refine WC.skip ?_
      refine At.then ?_
      refine WC.seq ?_
      refine WC.block ?_
      refine WC.region ?_
      refine WL.y (Y.move rfl) rfl ?_
      refine WL.y (Y.mul_u (a := 2) rfl rfl) rfl ?_
      obtain ⟨p21, hp21, h⟩ := lt1 h
      refine WL.yE (Y.assign rfl) (congrArg vu hp21.symm) rfl ?_
      refine WL.nil ?_
      refine At.inBlock ?_
      refine At.then ?_
      refine WC.region ?_
      refine WL.y (Y.move rfl) rfl ?_
      refine WL.y (Y.add_i rfl rfl) rfl ?_
      obtain ⟨i22, hi22, h⟩ := lt1 h
      refine WL.yE (Y.assign rfl) (congrArg vi hi22.symm) rfl ?_
      refine WL.nil ?_
      exact At.round (p21, i22) j17 (Nat.lt_succ_self _) ⟨next1 h hn19, rfl⟩ (.cons rfl (.cons rfl (.cons rfl .nil)))
    · refine WC.condF' rfl hc20 ?_
      refine WC.exit ?_
      refine At.thenX ?_
      refine At.loopX ?_
      exact At.hitB (σ := UInt64) p11 ⟨brk1 h hn19, rfl⟩ (.cons rfl .nil)
  · rintro p13 _ ⟨rfl, rfl⟩
    replace h := flowK_go hk16
    try dsimp only at h
    refine (show At _ _ _ [(3, vu p13)] _ from ?_)
    refine At.inBlockHit ?_
    refine At.then ?_
    refine WC.seq ?_
    refine WC.region ?_
    refine WL.y (Y.move rfl) rfl ?_
    refine WL.y (Y.assign rfl) rfl ?_
    refine WL.nil ?_
    refine At.then ?_
    refine WC.ret ?_
    obtain rfl := some1 h
    have hs23 : Stp [] (Lg.O0 (fun _ => False)) w (Lg.O0 (fun _ => False)) w := (Stp.refl _ _ _)
    exact At.res (.inl rfl) rfl (.tmp rfl .nil) ⟨rfl, (Stp.ext hs23 rfl rfl)⟩

theorem c_ref06_Class {a0 : UInt64} {w : World} {r0 : Int} (h : ref06_Class a0 = some r0) : Rets Try.prog 51 [vu a0] w (fun v w' => v = vi r0 ∧ Ext w w') := by
  unfold ref06_Class at h
  refine Rets.enter Try.func51 rfl rfl ?_
  refine (show WC _ _ _ _ [(0, vu a0)] _ from ?_)
  refine WC.seq ?_
  refine WC.region ?_
  refine WL.y (Y.assign rfl) rfl ?_
  refine WL.nil ?_
  refine At.then ?_
  refine WC.seq ?_
  refine WC.seq ?_
  refine WC.region ?_
  refine WL.y (Y.assign rfl) rfl ?_
  refine WL.nil ?_
  refine At.then ?_
  refine WC.block ?_
  obtain ⟨p18, h, hk20⟩ := flow1 h
  obtain ⟨k19, h⟩ := loop_some h
  refine WC.joinB 0 (σ := Own) (fun x w' => p18 = .go () ∧ Stp [] (Lg.O0 (fun _ => False)) w x w') (fun x => []) ?_ ?_
  · refine WC.loop (σ := (Int × Own)) (fun x k w' => loopN k (ref06_Class_lp1 a0) x.1 = some p18 ∧ Stp [] (Lg.O0 (fun _ => False)) w x.2 w') (fun x => [(0, vu a0), (3, vi x.1)]) (0, (Lg.O0 (fun _ => False))) k19 (.cons rfl (.cons rfl .nil)) ⟨h, (Stp.refl _ _ _)⟩ ?_
    rintro ⟨c11, O12⟩ k19 wd13 ⟨h, hst14⟩
    obtain ⟨j21, q22, rfl, h, hn23⟩ := rnd1 h
    unfold ref06_Class_lp1 at h
    try dsimp only at h hst14
    refine (show WC _ _ _ _ [(0, vu a0), (3, vi c11)] _ from ?_)
    refine WC.seq ?_
    refine WC.seq ?_
    refine WC.region ?_
    refine WL.y (Y.move rfl) rfl ?_
    refine WL.y (Y.lss_i rfl rfl) rfl ?_
    refine WL.nil ?_
    refine At.then ?_
    rcases cnd h with ⟨hc24, h⟩ | ⟨hc24, h⟩
    · refine WC.condT' rfl hc24 ?_
      refine WC.skip ?_
      refine At.then ?_
      refine WC.seq ?_
      refine WC.block ?_
      refine WC.seq ?_
      refine WC.region ?_
      refine WL.y (Y.move rfl) rfl ?_
      refine WL.y (Y.move rfl) rfl ?_
      obtain ⟨r25, hp26, h⟩ := bnd h
      refine WL.call (vals := [vi c11]) kok52 rfl rfl (c_ref06_size hp26) ?_
      rintro vr29 wd28 ⟨rfl, hm27⟩
      obtain ⟨O30, hold31, hnew32, hst33⟩ := adoptE O12 (fun k => 1) hm27
      obtain ⟨r34, hp35, h⟩ := bnd h
      refine WL.call (vals := [vi r25]) kok61 rfl rfl (c_ref06_power hp35) ?_
      rintro vr38 wd37 ⟨rfl, hm36⟩
      obtain ⟨O39, hold40, hnew41, hst42⟩ := adoptE O30 (fun k => 1) hm36
      refine WL.y (Y.lss_u rfl rfl) rfl ?_
      refine WL.nil ?_
      refine At.then ?_
      rcases cnd h with ⟨hc43, h⟩ | ⟨hc43, h⟩
      · refine WC.condT' rfl hc43 ?_
        refine WC.seq ?_
        refine WC.region ?_
        refine WL.y (Y.move rfl) rfl ?_
        refine WL.y (Y.assign rfl) rfl ?_
        refine WL.nil ?_
        refine At.then ?_
        refine WC.ret ?_
        refine At.inBlockR ?_
        refine At.thenR ?_
        refine At.loopR ?_
        have h := outr1 h hn23 hk20
        refine At.joinBR ?_
        refine At.inBlockR ?_
        refine At.thenR ?_
        obtain rfl := some1 h
        have hs44 : Stp [] (Lg.O0 (fun _ => False)) w O39 wd37 := (Stp.trans (Stp.up hst14 rfl) (Stp.trans (Stp.up hst33 rfl) (Stp.up hst42 rfl)))
        exact At.res (.inl rfl) rfl (.tmp rfl .nil) ⟨rfl, (Stp.ext hs44 rfl rfl)⟩
      · refine WC.condF' rfl hc43 ?_
        refine WC.skip ?_
        refine At.inBlock ?_
        refine At.then ?_
        refine WC.region ?_
        refine WL.y (Y.move rfl) rfl ?_
        refine WL.y (Y.add_i rfl rfl) rfl ?_
        obtain ⟨c45, hc45, h⟩ := lt1 h
        refine WL.yE (Y.assign rfl) (congrArg vi hc45.symm) rfl ?_
        refine WL.nil ?_
        exact At.round (c45, O39) j21 (Nat.lt_succ_self _) ⟨next1 h hn23, (Stp.trans (Stp.up hst14 rfl) (Stp.trans (Stp.up hst33 rfl) (Stp.up hst42 rfl)))⟩ (.cons rfl (.cons rfl .nil))
    · refine WC.condF' rfl hc24 ?_
      refine WC.exit ?_
      refine At.thenX ?_
      refine At.loopX ?_
      exact At.hitB (σ := Own) O12 ⟨brk1 h hn23, (Stp.up hst14 rfl)⟩ .nil
  · rintro O15 wd16 ⟨rfl, hst17⟩
    replace h := flowK_go hk20
    refine (show At _ _ _ [] _ from ?_)
    refine At.inBlockHit ?_
    refine At.then ?_
    refine WC.seq ?_
    refine WC.region ?_
    refine WL.y (Y.assign rfl) rfl ?_
    refine WL.nil ?_
    refine At.then ?_
    refine WC.ret ?_
    obtain rfl := some1 h
    have hs46 : Stp [] (Lg.O0 (fun _ => False)) w O15 wd16 := (Stp.up hst17 rfl)
    exact At.res (.inl rfl) rfl (.tmp rfl .nil) ⟨rfl, (Stp.ext hs46 rfl rfl)⟩

theorem c_ref06_GetSmall {A : Nat → Prop} {a0 : List Int} {v0 : Value} {w : World} (hs0 : Sl Rep.i w A v0 a0) {r0 : ref06_Got} (h : ref06_GetSmall a0 = some r0) : Rets Try.prog 35 [v0] w (fun v w' => v = .agg (List.toArray [vu r0.V, vi r0.N, vi r0.E]) ∧ Ext w w') := by
  unfold ref06_GetSmall at h
  refine Rets.enter Try.func35 rfl rfl ?_
  have hf11 : Sl Rep.i w (imm (Lg.O0 A)) v0 a0 := (Sl.start hs0)
  refine (show WC _ _ _ _ [(0, v0)] _ from ?_)
  refine WC.seq ?_
  refine WC.region ?_
  refine WL.alloc (O := (Lg.O0 A)) 11 [vu 0, vi 0, vi 0] ty59 rfl rfl ?_
  intro p13 O14 wd15 hst16 hb12
  refine WL.nil ?_
  refine At.then ?_
  refine WC.seq ?_
  refine WC.seq ?_
  refine WC.region ?_
  refine WL.y (Y.move rfl) rfl ?_
  have hf17 := hf11.mono (imm_st hst16 rfl rfl)
  refine WL.y (Y.len ty23 rfl hf17) rfl ?_
  refine WL.y (Y.lss_i rfl rfl) rfl ?_
  refine WL.nil ?_
  refine At.then ?_
  rcases cnd h with ⟨hc18, h⟩ | ⟨hc18, h⟩
  · refine WC.condT' rfl hc18 ?_
    refine WC.seq ?_
    refine WC.region ?_
    refine WL.y (Y.build (vals := [(2, vi 2)]) (cells := [vu 0, vi 0, vi 2]) (Fits.evalp rfl) (by kernel_rfl)) rfl ?_
    refine WL.store (v := .agg [vu 0, vi 0, vi 2].toArray) (cells' := [vu 0, vi 0, vi 2]) ty59 rfl rfl hb12 rfl (Nat.le_of_ble_eq_true rfl) rfl rfl ?_
    intro wd19 hst20 hb21
    refine WL.nil ?_
    refine At.then ?_
    refine WC.ret ?_
    refine At.thenR ?_
    obtain rfl := some1 h
    have hs22 : Stp [11] (Lg.O0 A) w O14 wd19 := (Stp.trans (Stp.up hst16 rfl) (Stp.up hst20 rfl))
    exact At.res (.inl rfl) rfl (.cell rfl (hb21.runAg 0 [vu 0, vi 0, vi 2] ty59 rfl rfl rfl) .nil) ⟨rfl, (Stp.ext hs22 rfl rfl)⟩
  · refine WC.condF' rfl hc18 ?_
    refine WC.skip ?_
    refine At.then ?_
    refine WC.seq ?_
    refine WC.draw 8 O14 fmix (by kernel_rfl) ?_
    intro wd23 hst24
    refine WS.y (Y.move rfl) rfl ?_
    obtain ⟨e25, he25, h⟩ := bnd h
    have hf34 := hf17.mono (imm_st hst24 rfl rfl)
    obtain ⟨b26, off35, cap33, cs32, hv27, hi28, hl29, hc30, hok31, hA36⟩ := Sl.at2 hf34 he25
    obtain rfl := hok31
    replace hc30 : CellsAt _ _ _ [vi e25] := hc30
    have hca37 := CAt.imm hc30 hA36
    refine WS.y (Y.indexAddr ty23 ty3 rfl hv27 rfl hi28 hl29) rfl ?_
    refine WS.y (Y.loadSc ty3 rfl rfl hca37.at_) rfl ?_
    refine WS.y (Y.mul_i rfl rfl) rfl ?_
    refine WS.y (Y.move rfl) rfl ?_
    obtain ⟨e38, he38, h⟩ := bnd h
    obtain ⟨b39, off47, cap46, cs45, hv40, hi41, hl42, hc43, hok44, hA48⟩ := Sl.at2 hf34 he38
    obtain rfl := hok44
    replace hc43 : CellsAt _ _ _ [vi e38] := hc43
    have hca49 := CAt.imm hc43 hA48
    refine WS.y (Y.indexAddr ty23 ty3 rfl hv40 rfl hi41 hl42) rfl ?_
    refine WS.y (Y.loadSc ty3 rfl rfl hca49.at_) rfl ?_
    refine WS.y (Y.add_i rfl rfl) rfl ?_
    refine WS.tail ?_
    obtain ⟨c50, hc50, h⟩ := lt1 h
    refine WL.yE (Y.assign rfl) (congrArg vi hc50.symm) rfl ?_
    refine WL.nil ?_
    refine At.then ?_
    refine WC.seq ?_
    refine WC.region ?_
    refine WL.y (Y.move rfl) rfl ?_
    obtain ⟨r51, hp52, h⟩ := bnd h
    refine WL.call (vals := [vi c50]) kok52 rfl rfl (c_ref06_size hp52) ?_
    rintro vr55 wd54 ⟨rfl, hm53⟩
    obtain ⟨O56, hold57, hnew58, hst59⟩ := adoptE O14 (fun k => 1) hm53
    refine WL.y (Y.assign rfl) rfl ?_
    refine WL.nil ?_
    refine At.then ?_
    refine WC.seq ?_
    refine WC.seq ?_
    refine WC.region ?_
    refine WL.y (Y.move rfl) rfl ?_
    have hf60 := hf34.mono (imm_st hst59 rfl rfl)
    refine WL.y (Y.len ty23 rfl hf60) rfl ?_
    refine WL.y (Y.sub_i rfl rfl) rfl ?_
    refine WL.y (Y.move rfl) rfl ?_
    refine WL.y (Y.lss_i rfl rfl) rfl ?_
    refine WL.nil ?_
    refine At.then ?_
    rcases cnd h with ⟨hc61, h⟩ | ⟨hc61, h⟩
    · refine WC.condT' rfl hc61 ?_
      refine WC.seq ?_
      refine WC.region ?_
      refine WL.y (Y.build (vals := [(2, vi 2)]) (cells := [vu 0, vi 0, vi 2]) (Fits.evalp rfl) (by kernel_rfl)) rfl ?_
      have hf62 := hb12.st hst24 rfl
      have hf63 := hf62.st hst59 rfl
      refine WL.store (v := .agg [vu 0, vi 0, vi 2].toArray) (cells' := [vu 0, vi 0, vi 2]) ty59 rfl rfl hf63 rfl (Nat.le_of_ble_eq_true rfl) rfl rfl ?_
      intro wd64 hst65 hb66
      refine WL.nil ?_
      refine At.then ?_
      refine WC.ret ?_
      refine At.thenR ?_
      obtain rfl := some1 h
      have hs67 : Stp [11] (Lg.O0 A) w O56 wd64 := (Stp.trans (Stp.up hst16 rfl) (Stp.trans (Stp.up hst24 rfl) (Stp.trans (Stp.up hst59 rfl) (Stp.up hst65 rfl))))
      exact At.res (.inl rfl) rfl (.cell rfl (hb66.runAg 0 [vu 0, vi 0, vi 2] ty59 rfl rfl rfl) .nil) ⟨rfl, (Stp.ext hs67 rfl rfl)⟩
    · refine WC.condF' rfl hc61 ?_
      refine WC.skip ?_
      refine At.then ?_
      refine WC.seq ?_
      refine WC.region ?_
      refine WL.y (Y.move rfl) rfl ?_
      refine WL.y (Y.move rfl) rfl ?_
      refine WL.y (Y.add_i rfl rfl) rfl ?_
      obtain ⟨t68, ht68, h⟩ := bnd h
      obtain ⟨v69, hY71, hf70⟩ := Sl.slice (ρ := [(26, v0), (28, vi (w64 (2 + r51)))]) (x := (.tmp 26)) (lo := (some (.const (.int .i64 2)))) (hi := (some (.tmp 28))) ty23 ty3 rfl rfl rfl hf60 ht68
      refine WL.y (Y.sub (.cons rfl (.cons rfl .nil)) (hY71 _ _)) rfl ?_
      obtain ⟨r72, hp73, h⟩ := bnd h
      refine WL.call (vals := [v69]) kok24 rfl rfl (c_ref01_Number (A := fun _ => True) (Sl.all hf70) hp73) ?_
      rintro vr76 wd75 ⟨rfl, hm74⟩
      obtain ⟨O77, hold78, hnew79, hst80⟩ := adoptE O56 (fun k => 1) hm74
      refine WL.y (Y.assign rfl) rfl ?_
      refine WL.nil ?_
      refine At.then ?_
      refine WC.seq ?_
      refine WC.seq ?_
      refine WC.region ?_
      refine WL.y (Y.move rfl) rfl ?_
      obtain ⟨r81, hp82, h⟩ := bnd h
      refine WL.call (vals := [vu r72]) kok51 rfl rfl (c_ref06_Class hp82) ?_
      rintro vr85 wd84 ⟨rfl, hm83⟩
      obtain ⟨O86, hold87, hnew88, hst89⟩ := adoptE O77 (fun k => 1) hm83
      refine WL.y (Y.move rfl) rfl ?_
      refine WL.y (Y.neq_i rfl rfl) rfl ?_
      refine WL.nil ?_
      refine At.then ?_
      rcases cnd h with ⟨hc90, h⟩ | ⟨hc90, h⟩
      · refine WC.condT' rfl hc90 ?_
        refine WC.seq ?_
        refine WC.region ?_
        refine WL.y (Y.build (vals := [(2, vi 3)]) (cells := [vu 0, vi 0, vi 3]) (Fits.evalp rfl) (by kernel_rfl)) rfl ?_
        have hf91 := hb12.st hst24 rfl
        have hf92 := hf91.st hst59 rfl
        have hf93 := hf92.st hst80 rfl
        have hf94 := hf93.st hst89 rfl
        refine WL.store (v := .agg [vu 0, vi 0, vi 3].toArray) (cells' := [vu 0, vi 0, vi 3]) ty59 rfl rfl hf94 rfl (Nat.le_of_ble_eq_true rfl) rfl rfl ?_
        intro wd95 hst96 hb97
        refine WL.nil ?_
        refine At.then ?_
        refine WC.ret ?_
        refine At.thenR ?_
        obtain rfl := some1 h
        have hs98 : Stp [11] (Lg.O0 A) w O86 wd95 := (Stp.trans (Stp.up hst16 rfl) (Stp.trans (Stp.up hst24 rfl) (Stp.trans (Stp.up hst59 rfl) (Stp.trans (Stp.up hst80 rfl) (Stp.trans (Stp.up hst89 rfl) (Stp.up hst96 rfl))))))
        exact At.res (.inl rfl) rfl (.cell rfl (hb97.runAg 0 [vu 0, vi 0, vi 3] ty59 rfl rfl rfl) .nil) ⟨rfl, (Stp.ext hs98 rfl rfl)⟩
      · refine WC.condF' rfl hc90 ?_
        refine WC.skip ?_
        refine At.then ?_
        refine WC.seq ?_
        refine WC.region ?_
        refine WL.y (Y.move rfl) rfl ?_
        refine WL.y (Y.move rfl) rfl ?_
        refine WL.y (Y.add_i rfl rfl) rfl ?_
        refine WL.y (Y.build (vals := [(0, vu r72), (1, vi (w64 (2 + r51)))]) (cells := [vu r72, vi (w64 (2 + r51)), vi 0]) (Fits.evalp rfl) (by kernel_rfl)) rfl ?_
        have hf99 := hb12.st hst24 rfl
        have hf100 := hf99.st hst59 rfl
        have hf101 := hf100.st hst80 rfl
        have hf102 := hf101.st hst89 rfl
        refine WL.store (v := .agg [vu r72, vi (w64 (2 + r51)), vi 0].toArray) (cells' := [vu r72, vi (w64 (2 + r51)), vi 0]) ty59 rfl rfl hf102 rfl (Nat.le_of_ble_eq_true rfl) rfl rfl ?_
        intro wd103 hst104 hb105
        refine WL.nil ?_
        refine At.then ?_
        refine WC.ret ?_
        obtain rfl := some1 h
        have hs106 : Stp [11] (Lg.O0 A) w O86 wd103 := (Stp.trans (Stp.up hst16 rfl) (Stp.trans (Stp.up hst24 rfl) (Stp.trans (Stp.up hst59 rfl) (Stp.trans (Stp.up hst80 rfl) (Stp.trans (Stp.up hst89 rfl) (Stp.up hst104 rfl))))))
        exact At.res (.inl rfl) rfl (.cell rfl (hb105.runAg 0 [vu r72, vi (w64 (2 + r51)), vi 0] ty59 rfl rfl rfl) .nil) ⟨rfl, (Stp.ext hs106 rfl rfl)⟩

theorem c_ref02_Zag {a0 : UInt64} {w : World} {r0 : Int} (h : ref02_Zag a0 = some r0) : Rets Try.prog 37 [vu a0] w (fun v w' => v = vi r0 ∧ Ext w w') := by
  unfold ref02_Zag at h
  refine Rets.enter Try.func37 rfl rfl ?_
  refine (show WC _ _ _ _ [(0, vu a0)] _ from ?_)
  refine WC.seq ?_
  refine WC.region ?_
  refine WL.y (Y.assign rfl) rfl ?_
  refine WL.nil ?_
  refine At.then ?_
  refine WC.seq ?_
  refine WC.seq ?_
  refine WC.region ?_
  refine WL.y (Y.move rfl) rfl ?_
  refine WL.y (Y.rem_u (b := 2) (by decide) rfl rfl) rfl ?_
  refine WL.y (Y.eql_u (b := 0) rfl rfl) rfl ?_
  refine WL.nil ?_
  refine At.then ?_
  rcases cnd h with ⟨hc11, h⟩ | ⟨hc11, h⟩
  · refine WC.condT' rfl hc11 ?_
    refine WC.seq ?_
    refine WC.region ?_
    refine WL.y (Y.move rfl) rfl ?_
    refine WL.y (Y.quo_u (b := 2) (by decide) rfl rfl) rfl ?_
    refine WL.y (Y.conv_ui ty29.u ty3.u rfl) rfl ?_
    obtain ⟨t12, ht12, h⟩ := lt1 h
    refine WL.yE (Y.assign rfl) (congrArg vi ht12.symm) rfl ?_
    refine WL.nil ?_
    refine At.then ?_
    refine WC.ret ?_
    refine At.thenR ?_
    obtain rfl := some1 h
    have hs13 : Stp [] (Lg.O0 (fun _ => False)) w (Lg.O0 (fun _ => False)) w := (Stp.refl _ _ _)
    exact At.res (.inl rfl) rfl (.tmp rfl .nil) ⟨rfl, (Stp.ext hs13 rfl rfl)⟩
  · refine WC.condF' rfl hc11 ?_
    refine WC.skip ?_
    refine At.then ?_
    refine WC.seq ?_
    refine WC.region ?_
    refine WL.y (Y.move rfl) rfl ?_
    refine WL.y (Y.quo_u (b := 2) (by decide) rfl rfl) rfl ?_
    refine WL.y (Y.conv_ui ty29.u ty3.u rfl) rfl ?_
    refine WL.y (Y.sub_i rfl rfl) rfl ?_
    obtain ⟨t14, ht14, h⟩ := lt1 h
    refine WL.yE (Y.assign rfl) (congrArg vi ht14.symm) rfl ?_
    refine WL.nil ?_
    refine At.then ?_
    refine WC.ret ?_
    obtain rfl := some1 h
    have hs15 : Stp [] (Lg.O0 (fun _ => False)) w (Lg.O0 (fun _ => False)) w := (Stp.refl _ _ _)
    exact At.res (.inl rfl) rfl (.tmp rfl .nil) ⟨rfl, (Stp.ext hs15 rfl rfl)⟩

theorem c_ref06_width {a0 : Int} {w : World} {r0 : Int} (h : ref06_width a0 = some r0) : Rets Try.prog 62 [vi a0] w (fun v w' => v = vi r0 ∧ Ext w w') := by
  unfold ref06_width at h
  refine Rets.enter Try.func62 rfl rfl ?_
  refine (show WC _ _ _ _ [(0, vi a0)] _ from ?_)
  refine WC.seq ?_
  refine WC.region ?_
  refine WL.y (Y.assign rfl) rfl ?_
  refine WL.nil ?_
  refine At.then ?_
  refine WC.seq ?_
  refine WC.region ?_
  refine WL.buildSlice (O := (Lg.O0 (fun _ => False))) (R := Rep.i) (vals := [(0, vi 0), (1, vi 6), (2, vi 10), (3, vi 16), (4, vi 64)]) 11 [vi 0, vi 6, vi 10, vi 16, vi 64] (xs := [0, 6, 10, 16, 64]) (by decide) ty23 ty3 (by decide) (by decide) (Fits.evalp rfl) (by kernel_rfl) rfl ⟨[vi 0], [vi 6, vi 10, vi 16, vi 64], rfl, rfl, ⟨[vi 6], [vi 10, vi 16, vi 64], rfl, rfl, ⟨[vi 10], [vi 16, vi 64], rfl, rfl, ⟨[vi 16], [vi 64], rfl, rfl, ⟨[vi 64], [], rfl, rfl, rfl⟩⟩⟩⟩⟩ rfl ?_
  intro v11 O13 wd14 hst15 ho12
  refine WL.y (Y.assign rfl) rfl ?_
  refine WL.nil ?_
  refine At.then ?_
  refine WC.seq ?_
  refine WC.region ?_
  refine WL.y (Y.move rfl) rfl ?_
  refine WL.y (Y.move rfl) rfl ?_
  obtain ⟨e16, he16, h⟩ := bnd h
  obtain ⟨b17, cap24, cs23, hv18, hi19, hl20, hc21, hok22⟩ := OwnSl.at ho12 he16
  obtain rfl := hok22
  replace hc21 : CellsAt _ _ _ [vi e16] := hc21
  have hca25 := CAt.own ho12 hv18 hc21
  refine WL.y (Y.indexAddr ty23 ty3 rfl hv18 rfl hi19 hl20) rfl ?_
  refine WL.y (Y.loadSc ty3 rfl rfl hca25.at_) rfl ?_
  refine WL.y (Y.assign rfl) rfl ?_
  refine WL.nil ?_
  refine At.then ?_
  refine WC.ret ?_
  obtain rfl := some1 h
  have hs26 : Stp [] (Lg.O0 (fun _ => False)) w O13 wd14 := (Stp.up hst15 rfl)
  exact At.res (.inl rfl) rfl (.tmp rfl .nil) ⟨rfl, (Stp.ext hs26 rfl rfl)⟩

theorem c_ref06_Way {a0 : Int} {w : World} {r0 : Int} (h : ref06_Way a0 = some r0) : Rets Try.prog 63 [vi a0] w (fun v w' => v = vi r0 ∧ Ext w w') := by
  unfold ref06_Way at h
  refine Rets.enter Try.func63 rfl rfl ?_
  refine (show WC _ _ _ _ [(0, vi a0)] _ from ?_)
  refine WC.seq ?_
  refine WC.region ?_
  refine WL.y (Y.assign rfl) rfl ?_
  refine WL.nil ?_
  refine At.then ?_
  refine WC.seq ?_
  refine WC.seq ?_
  refine WC.region ?_
  refine WL.y (Y.move rfl) rfl ?_
  refine WL.y (Y.eql_i rfl rfl) rfl ?_
  refine WL.nil ?_
  refine At.then ?_
  rcases cnd h with ⟨hc11, h⟩ | ⟨hc11, h⟩
  · refine WC.condT' rfl hc11 ?_
    refine WC.seq ?_
    refine WC.region ?_
    refine WL.y (Y.assign rfl) rfl ?_
    refine WL.nil ?_
    refine At.then ?_
    refine WC.ret ?_
    refine At.thenR ?_
    obtain rfl := some1 h
    have hs12 : Stp [] (Lg.O0 (fun _ => False)) w (Lg.O0 (fun _ => False)) w := (Stp.refl _ _ _)
    exact At.res (.inl rfl) rfl (.tmp rfl .nil) ⟨rfl, (Stp.ext hs12 rfl rfl)⟩
  · refine WC.condF' rfl hc11 ?_
    refine WC.skip ?_
    refine At.then ?_
    refine WC.seq ?_
    refine WC.seq ?_
    refine WC.region ?_
    refine WL.y (Y.assign rfl) rfl ?_
    refine WL.nil ?_
    refine At.then ?_
    refine WC.block ?_
    obtain ⟨p20, h, hk22⟩ := flow1 h
    obtain ⟨k21, h⟩ := loop_some h
    refine WC.joinB 0 (σ := Own) (fun x w' => p20 = .go () ∧ Stp [] (Lg.O0 (fun _ => False)) w x w') (fun x => []) ?_ ?_
    · refine WC.loop (σ := (Int × Own)) (fun x k w' => loopN k (ref06_Way_lp1 a0) x.1 = some p20 ∧ Stp [] (Lg.O0 (fun _ => False)) w x.2 w') (fun x => [(0, vi a0), (3, vi x.1)]) (1, (Lg.O0 (fun _ => False))) k21 (.cons rfl (.cons rfl .nil)) ⟨h, (Stp.refl _ _ _)⟩ ?_
      rintro ⟨k13, O14⟩ k21 wd15 ⟨h, hst16⟩
      obtain ⟨j23, q24, rfl, h, hn25⟩ := rnd1 h
      unfold ref06_Way_lp1 at h
      try dsimp only at h hst16
      refine (show WC _ _ _ _ [(0, vi a0), (3, vi k13)] _ from ?_)
      refine WC.seq ?_
      refine WC.seq ?_
      refine WC.region ?_
      refine WL.y (Y.move rfl) rfl ?_
      refine WL.y (Y.lss_i rfl rfl) rfl ?_
      refine WL.nil ?_
      refine At.then ?_
      rcases cnd h with ⟨hc26, h⟩ | ⟨hc26, h⟩
      · refine WC.condT' rfl hc26 ?_
        refine WC.skip ?_
        refine At.then ?_
        refine WC.seq ?_
        refine WC.block ?_
        refine WC.seq ?_
        refine WC.region ?_
        refine WL.y (Y.move rfl) rfl ?_
        obtain ⟨r27, hp28, h⟩ := bnd h
        refine WL.call (vals := [vi k13]) kok62 rfl rfl (c_ref06_width hp28) ?_
        rintro vr31 wd30 ⟨rfl, hm29⟩
        obtain ⟨O32, hold33, hnew34, hst35⟩ := adoptE O14 (fun k => 1) hm29
        refine WL.y (Y.sub_i rfl rfl) rfl ?_
        obtain ⟨r36, hp37, h⟩ := bnd h
        refine WL.call (vals := [vi (w64 (r27 - 1))]) kok61 rfl rfl (c_ref06_power hp37) ?_
        rintro vr40 wd39 ⟨rfl, hm38⟩
        obtain ⟨O41, hold42, hnew43, hst44⟩ := adoptE O32 (fun k => 1) hm38
        refine WL.y (Y.conv_ui ty29.u ty3.u rfl) rfl ?_
        obtain ⟨half45, hhalf45, h⟩ := lt1 h
        refine WL.yE (Y.assign rfl) (congrArg vi hhalf45.symm) rfl ?_
        refine WL.nil ?_
        refine At.then ?_
        refine WC.seq ?_
        refine WC.region ?_
        refine WL.y (Y.move rfl) rfl ?_
        refine WL.y (Y.move rfl) rfl ?_
        refine WL.y (Y.sub_i rfl rfl) rfl ?_
        refine WL.y (Y.geq_i rfl rfl) rfl ?_
        refine WL.y (Y.move rfl) rfl ?_
        refine WL.cut 4 (σ := Unit) (fun _ w' => wd39 = w') (fun _ => [(0, vi a0), (3, vi k13), (24, .bool ((decide (w64 (0 - half45) ≤ a0)) && (decide (a0 < half45))))]) ?_ ?_
        · refine WL.part 20 rfl (fun hE46 => ?_) (fun hE46 => ?_)
          · refine WL.ung rfl rfl ?_
            refine WL.y (Y.move rfl) rfl ?_
            refine WL.ung rfl rfl ?_
            refine WL.y (Y.move rfl) rfl ?_
            refine WL.ung rfl rfl ?_
            refine WL.y (Y.lss_i rfl rfl) rfl ?_
            refine WL.y (Y.pick (b := true) rfl rfl) rfl ?_
            refine WL.ren (v' := .bool ((decide (w64 (0 - half45) ≤ a0)) && (decide (a0 < half45)))) 24 rfl (congrArg Value.bool (andT hE46)) ?_
            exact WL.nil (At.join () rfl (.cons rfl (.cons rfl (.cons rfl .nil))))
          · refine WL.gS rfl rfl rfl rfl ?_
            refine WL.gS rfl rfl rfl rfl ?_
            refine WL.gS rfl rfl rfl rfl ?_
            refine WL.y (Y.pick (b := false) rfl rfl) rfl ?_
            refine WL.ren (v' := .bool ((decide (w64 (0 - half45) ≤ a0)) && (decide (a0 < half45)))) 24 rfl (congrArg Value.bool (andF hE46)) ?_
            exact WL.nil (At.join () rfl (.cons rfl (.cons rfl (.cons rfl .nil))))
        · rintro _ _ rfl
          refine (show WL _ _ _ _ _ [(0, vi a0), (3, vi k13), (24, .bool ((decide (w64 (0 - half45) ≤ a0)) && (decide (a0 < half45))))] _ from ?_)
          refine WL.nil ?_
          refine At.then ?_
          rcases cnd h with ⟨hc47, h⟩ | ⟨hc47, h⟩
          · refine WC.condT' rfl hc47 ?_
            refine WC.seq ?_
            refine WC.region ?_
            refine WL.y (Y.move rfl) rfl ?_
            refine WL.y (Y.assign rfl) rfl ?_
            refine WL.nil ?_
            refine At.then ?_
            refine WC.ret ?_
            refine At.inBlockR ?_
            refine At.thenR ?_
            refine At.loopR ?_
            have h := outr1 h hn25 hk22
            refine At.joinBR ?_
            refine At.inBlockR ?_
            refine At.thenR ?_
            obtain rfl := some1 h
            have hs48 : Stp [] (Lg.O0 (fun _ => False)) w O41 wd39 := (Stp.trans (Stp.up hst16 rfl) (Stp.trans (Stp.up hst35 rfl) (Stp.up hst44 rfl)))
            exact At.res (.inl rfl) rfl (.tmp rfl .nil) ⟨rfl, (Stp.ext hs48 rfl rfl)⟩
          · refine WC.condF' rfl hc47 ?_
            refine WC.skip ?_
            refine At.inBlock ?_
            refine At.then ?_
            refine WC.region ?_
            refine WL.y (Y.move rfl) rfl ?_
            refine WL.y (Y.add_i rfl rfl) rfl ?_
            obtain ⟨k49, hk49, h⟩ := lt1 h
            refine WL.yE (Y.assign rfl) (congrArg vi hk49.symm) rfl ?_
            refine WL.nil ?_
            exact At.round (k49, O41) j23 (Nat.lt_succ_self _) ⟨next1 h hn25, (Stp.trans (Stp.up hst16 rfl) (Stp.trans (Stp.up hst35 rfl) (Stp.up hst44 rfl)))⟩ (.cons rfl (.cons rfl .nil))
      · refine WC.condF' rfl hc26 ?_
        refine WC.exit ?_
        refine At.thenX ?_
        refine At.loopX ?_
        exact At.hitB (σ := Own) O14 ⟨brk1 h hn25, (Stp.up hst16 rfl)⟩ .nil
    · rintro O17 wd18 ⟨rfl, hst19⟩
      replace h := flowK_go hk22
      refine (show At _ _ _ [] _ from ?_)
      refine At.inBlockHit ?_
      refine At.then ?_
      refine WC.seq ?_
      refine WC.region ?_
      refine WL.y (Y.assign rfl) rfl ?_
      refine WL.nil ?_
      refine At.then ?_
      refine WC.ret ?_
      obtain rfl := some1 h
      have hs50 : Stp [] (Lg.O0 (fun _ => False)) w O17 wd18 := (Stp.up hst19 rfl)
      exact At.res (.inl rfl) rfl (.tmp rfl .nil) ⟨rfl, (Stp.ext hs50 rfl rfl)⟩

theorem c_ref06_GetStep {A : Nat → Prop} {a0 : List Int} {v0 : Value} {w : World} (hs0 : Sl Rep.i w A v0 a0) {r0 : ref06_Got} (h : ref06_GetStep a0 = some r0) : Rets Try.prog 55 [v0] w (fun v w' => v = .agg (List.toArray [vu r0.V, vi r0.N, vi r0.E]) ∧ Ext w w') := by
  unfold ref06_GetStep at h
  refine Rets.enter Try.func55 rfl rfl ?_
  have hf11 : Sl Rep.i w (imm (Lg.O0 A)) v0 a0 := (Sl.start hs0)
  refine (show WC _ _ _ _ [(0, v0)] _ from ?_)
  refine WC.seq ?_
  refine WC.region ?_
  refine WL.alloc (O := (Lg.O0 A)) 11 [vu 0, vi 0, vi 0] ty59 rfl rfl ?_
  intro p13 O14 wd15 hst16 hb12
  refine WL.nil ?_
  refine At.then ?_
  refine WC.seq ?_
  refine WC.region ?_
  refine WL.y (Y.assign rfl) rfl ?_
  refine WL.nil ?_
  refine At.then ?_
  refine WC.seq ?_
  obtain ⟨p18, h, hk19⟩ := bnd h
  refine WC.join (σ := Int) (fun x w' => x = p18 ∧ wd15 = w') (fun x => [(0, v0), (2, .pointer (some ⟨p13, 0, none⟩)), (3, vi x)]) ?_ ?_
  · refine WC.block ?_
    obtain ⟨p22, h, hk24⟩ := flow1 h
    obtain ⟨k23, h⟩ := loop_some h
    refine WC.joinB 0 (σ := Int) (fun x w' => p22 = .go x ∧ wd15 = w') (fun x => [(0, v0), (2, .pointer (some ⟨p13, 0, none⟩)), (3, vi x)]) ?_ ?_
    · refine WC.loop (σ := Int) (fun x k w' => loopN k (ref06_GetStep_lp1 a0) x = some p22 ∧ wd15 = w') (fun x => [(0, v0), (2, .pointer (some ⟨p13, 0, none⟩)), (3, vi x)]) 0 k23 (.cons rfl (.cons rfl (.cons rfl .nil))) ⟨h, rfl⟩ ?_
      rintro k20 k23 _ ⟨h, rfl⟩
      obtain ⟨j25, q26, rfl, h, hn27⟩ := rnd1 h
      unfold ref06_GetStep_lp1 at h
      try dsimp only at h
      refine (show WC _ _ _ _ [(0, v0), (2, .pointer (some ⟨p13, 0, none⟩)), (3, vi k20)] _ from ?_)
      refine WC.seq ?_
      refine WC.seq ?_
      refine WC.region ?_
      refine WL.y (Y.move rfl) rfl ?_
      refine WL.y (Y.lss_i rfl rfl) rfl ?_
      refine WL.y (Y.move rfl) rfl ?_
      refine WL.cut 5 (σ := Unit) (fun _ w' => wd15 = w') (fun _ => [(0, v0), (2, .pointer (some ⟨p13, 0, none⟩)), (3, vi k20), (14, .bool ((decide (k20 < 4)) && (decide (k20 < (a0.length : Int)))))]) ?_ ?_
      · refine WL.part 9 rfl (fun hE28 => ?_) (fun hE28 => ?_)
        · refine WL.ung rfl rfl ?_
          refine WL.y (Y.move rfl) rfl ?_
          refine WL.ung rfl rfl ?_
          refine WL.y (Y.move rfl) rfl ?_
          refine WL.ung rfl rfl ?_
          have hf29 := hf11.mono (imm_st hst16 rfl rfl)
          refine WL.y (Y.len ty23 rfl hf29) rfl ?_
          refine WL.ung rfl rfl ?_
          refine WL.y (Y.lss_i rfl rfl) rfl ?_
          refine WL.y (Y.pick (b := true) rfl rfl) rfl ?_
          refine WL.ren (v' := .bool ((decide (k20 < 4)) && (decide (k20 < (a0.length : Int))))) 14 rfl (congrArg Value.bool (andT hE28)) ?_
          exact WL.nil (At.join () rfl (.cons rfl (.cons rfl (.cons rfl (.cons rfl .nil)))))
        · refine WL.gS rfl rfl rfl rfl ?_
          refine WL.gS rfl rfl rfl rfl ?_
          refine WL.gS rfl rfl rfl rfl ?_
          refine WL.gS rfl rfl rfl rfl ?_
          refine WL.y (Y.pick (b := false) rfl rfl) rfl ?_
          refine WL.ren (v' := .bool ((decide (k20 < 4)) && (decide (k20 < (a0.length : Int))))) 14 rfl (congrArg Value.bool (andF hE28)) ?_
          exact WL.nil (At.join () rfl (.cons rfl (.cons rfl (.cons rfl (.cons rfl .nil)))))
      · rintro _ _ rfl
        refine (show WL _ _ _ _ _ [(0, v0), (2, .pointer (some ⟨p13, 0, none⟩)), (3, vi k20), (14, .bool ((decide (k20 < 4)) && (decide (k20 < (a0.length : Int)))))] _ from ?_)
        refine WL.y (Y.move rfl) rfl ?_
        obtain ⟨p31, h, hk32⟩ := bnd h
        refine WL.cut 6 (σ := Bool) (fun x w' => x = p31 ∧ wd15 = w') (fun x => [(0, v0), (2, .pointer (some ⟨p13, 0, none⟩)), (3, vi k20), (21, .bool x)]) ?_ ?_
        · rcases cnd h with ⟨hE33, h⟩ | ⟨hE33, h⟩
          · refine WL.ren 15 rfl (congrArg Value.bool hE33) ?_
            refine WL.ung rfl rfl ?_
            refine WL.y (Y.move rfl) rfl ?_
            refine WL.ung rfl rfl ?_
            refine WL.y (Y.move rfl) rfl ?_
            refine WL.ung rfl rfl ?_
            obtain ⟨e34, he34, h⟩ := bnd h
            have hf43 := hf11.mono (imm_st hst16 rfl rfl)
            obtain ⟨b35, off44, cap42, cs41, hv36, hi37, hl38, hc39, hok40, hA45⟩ := Sl.at2 hf43 he34
            obtain rfl := hok40
            replace hc39 : CellsAt _ _ _ [vi e34] := hc39
            have hca46 := CAt.imm hc39 hA45
            refine WL.y (Y.indexAddr ty23 ty3 rfl hv36 rfl hi37 hl38) rfl ?_
            refine WL.ung rfl rfl ?_
            refine WL.y (Y.loadSc ty3 rfl rfl hca46.at_) rfl ?_
            refine WL.ung rfl rfl ?_
            refine WL.y (Y.eql_i rfl rfl) rfl ?_
            refine WL.y (Y.pick (b := true) rfl rfl) rfl ?_
            exact WL.nil (At.join (σ := Bool) (decide (e34 = 1)) ⟨some1 h, rfl⟩ (.cons rfl (.cons rfl (.cons rfl (.cons rfl .nil)))))
          · refine WL.ren 15 rfl (congrArg Value.bool hE33) ?_
            refine WL.gS rfl rfl rfl rfl ?_
            refine WL.gS rfl rfl rfl rfl ?_
            refine WL.gS rfl rfl rfl rfl ?_
            refine WL.gS rfl rfl rfl rfl ?_
            refine WL.gS rfl rfl rfl rfl ?_
            refine WL.y (Y.pick (b := false) rfl rfl) rfl ?_
            exact WL.nil (At.join (σ := Bool) false ⟨some1 h, rfl⟩ (.cons rfl (.cons rfl (.cons rfl (.cons rfl .nil)))))
        · rintro x30 _ ⟨rfl, rfl⟩
          replace h := hk32
          try dsimp only at h
          refine (show WL _ _ _ _ _ [(0, v0), (2, .pointer (some ⟨p13, 0, none⟩)), (3, vi k20), (21, .bool x30)] _ from ?_)
          refine WL.nil ?_
          refine At.then ?_
          rcases cnd h with ⟨hc47, h⟩ | ⟨hc47, h⟩
          · refine WC.condT' rfl hc47 ?_
            refine WC.skip ?_
            refine At.then ?_
            refine WC.block ?_
            refine WC.region ?_
            refine WL.y (Y.move rfl) rfl ?_
            refine WL.y (Y.add_i rfl rfl) rfl ?_
            obtain ⟨k48, hk48, h⟩ := lt1 h
            refine WL.yE (Y.assign rfl) (congrArg vi hk48.symm) rfl ?_
            refine WL.nil ?_
            refine At.inBlock ?_
            exact At.round k48 j25 (Nat.lt_succ_self _) ⟨next1 h hn27, rfl⟩ (.cons rfl (.cons rfl (.cons rfl .nil)))
          · refine WC.condF' rfl hc47 ?_
            refine WC.exit ?_
            refine At.thenX ?_
            refine At.loopX ?_
            exact At.hitB (σ := Int) k20 ⟨brk1 h hn27, rfl⟩ (.cons rfl (.cons rfl (.cons rfl .nil)))
    · rintro k21 _ ⟨rfl, rfl⟩
      replace h := flowK_go hk24
      try dsimp only at h
      refine (show At _ _ _ [(0, v0), (2, .pointer (some ⟨p13, 0, none⟩)), (3, vi k21)] _ from ?_)
      refine At.inBlockHit ?_
      exact At.join (σ := Int) k21 ⟨some1 h, rfl⟩ (.cons rfl (.cons rfl (.cons rfl .nil)))
  · rintro k17 _ ⟨rfl, rfl⟩
    replace h := hk19
    try dsimp only at h
    refine (show At _ _ _ [(0, v0), (2, .pointer (some ⟨p13, 0, none⟩)), (3, vi k17)] _ from ?_)
    refine At.then ?_
    refine WC.seq ?_
    refine WC.region ?_
    refine WL.y (Y.move rfl) rfl ?_
    refine WL.y (Y.assign rfl) rfl ?_
    refine WL.nil ?_
    refine At.then ?_
    refine WC.seq ?_
    obtain ⟨p50, h, hk51⟩ := flow1 h
    refine WC.join (σ := Int) (fun x w' => p50 = .go x ∧ wd15 = w') (fun x => [(0, v0), (2, .pointer (some ⟨p13, 0, none⟩)), (3, vi k17), (4, vi x)]) ?_ ?_
    · refine WC.seq ?_
      refine WC.region ?_
      refine WL.y (Y.move rfl) rfl ?_
      refine WL.y (Y.lss_i rfl rfl) rfl ?_
      refine WL.nil ?_
      refine At.then ?_
      rcases cnd h with ⟨hc52, h⟩ | ⟨hc52, h⟩
      · refine WC.condT' rfl hc52 ?_
        refine WC.seq ?_
        refine WC.seq ?_
        refine WC.region ?_
        refine WL.y (Y.move rfl) rfl ?_
        refine WL.y (Y.move rfl) rfl ?_
        have hf53 := hf11.mono (imm_st hst16 rfl rfl)
        refine WL.y (Y.len ty23 rfl hf53) rfl ?_
        refine WL.y (Y.eql_i rfl rfl) rfl ?_
        refine WL.nil ?_
        refine At.then ?_
        rcases cnd h with ⟨hc54, h⟩ | ⟨hc54, h⟩
        · refine WC.condT' rfl hc54 ?_
          refine WC.seq ?_
          refine WC.region ?_
          refine WL.y (Y.build (vals := [(2, vi 2)]) (cells := [vu 0, vi 0, vi 2]) (Fits.evalp rfl) (by kernel_rfl)) rfl ?_
          refine WL.store (v := .agg [vu 0, vi 0, vi 2].toArray) (cells' := [vu 0, vi 0, vi 2]) ty59 rfl rfl hb12 rfl (Nat.le_of_ble_eq_true rfl) rfl rfl ?_
          intro wd55 hst56 hb57
          refine WL.nil ?_
          refine At.then ?_
          refine WC.ret ?_
          refine At.thenR ?_
          have h := outs1 h hk51
          refine At.joinR ?_
          refine At.thenR ?_
          obtain rfl := some1 h
          have hs58 : Stp [11] (Lg.O0 A) w O14 wd55 := (Stp.trans (Stp.up hst16 rfl) (Stp.up hst56 rfl))
          exact At.res (.inl rfl) rfl (.cell rfl (hb57.runAg 0 [vu 0, vi 0, vi 2] ty59 rfl rfl rfl) .nil) ⟨rfl, (Stp.ext hs58 rfl rfl)⟩
        · refine WC.condF' rfl hc54 ?_
          refine WC.skip ?_
          refine At.then ?_
          refine WC.region ?_
          refine WL.y (Y.move rfl) rfl ?_
          refine WL.y (Y.add_i rfl rfl) rfl ?_
          obtain ⟨at59, hat59, h⟩ := lt1 h
          refine WL.yE (Y.assign rfl) (congrArg vi hat59.symm) rfl ?_
          refine WL.nil ?_
          exact At.join (σ := Int) at59 ⟨go2 h, rfl⟩ (.cons rfl (.cons rfl (.cons rfl (.cons rfl .nil))))
      · refine WC.condF' rfl hc52 ?_
        refine WC.skip ?_
        exact At.join (σ := Int) k17 ⟨go2 h, rfl⟩ (.cons rfl (.cons rfl (.cons rfl (.cons rfl .nil))))
    · rintro at49 _ ⟨rfl, rfl⟩
      replace h := flowK_go hk51
      try dsimp only at h
      refine (show At _ _ _ [(0, v0), (2, .pointer (some ⟨p13, 0, none⟩)), (3, vi k17), (4, vi at49)] _ from ?_)
      refine At.then ?_
      refine WC.seq ?_
      refine WC.region ?_
      refine WL.y (Y.move rfl) rfl ?_
      obtain ⟨r60, hp61, h⟩ := bnd h
      refine WL.call (vals := [vi k17]) kok62 rfl rfl (c_ref06_width hp61) ?_
      rintro vr64 wd63 ⟨rfl, hm62⟩
      obtain ⟨O65, hold66, hnew67, hst68⟩ := adoptE O14 (fun k => 1) hm62
      refine WL.y (Y.assign rfl) rfl ?_
      refine WL.nil ?_
      refine At.then ?_
      refine WC.seq ?_
      refine WC.seq ?_
      refine WC.region ?_
      refine WL.y (Y.move rfl) rfl ?_
      have hf69 := hf11.mono (imm_st hst16 rfl rfl)
      have hf70 := hf69.mono (imm_st hst68 rfl rfl)
      refine WL.y (Y.len ty23 rfl hf70) rfl ?_
      refine WL.y (Y.move rfl) rfl ?_
      refine WL.y (Y.sub_i rfl rfl) rfl ?_
      refine WL.y (Y.move rfl) rfl ?_
      refine WL.y (Y.lss_i rfl rfl) rfl ?_
      refine WL.nil ?_
      refine At.then ?_
      rcases cnd h with ⟨hc71, h⟩ | ⟨hc71, h⟩
      · refine WC.condT' rfl hc71 ?_
        refine WC.seq ?_
        refine WC.region ?_
        refine WL.y (Y.build (vals := [(2, vi 2)]) (cells := [vu 0, vi 0, vi 2]) (Fits.evalp rfl) (by kernel_rfl)) rfl ?_
        have hf72 := hb12.st hst68 rfl
        refine WL.store (v := .agg [vu 0, vi 0, vi 2].toArray) (cells' := [vu 0, vi 0, vi 2]) ty59 rfl rfl hf72 rfl (Nat.le_of_ble_eq_true rfl) rfl rfl ?_
        intro wd73 hst74 hb75
        refine WL.nil ?_
        refine At.then ?_
        refine WC.ret ?_
        refine At.thenR ?_
        obtain rfl := some1 h
        have hs76 : Stp [11] (Lg.O0 A) w O65 wd73 := (Stp.trans (Stp.up hst16 rfl) (Stp.trans (Stp.up hst68 rfl) (Stp.up hst74 rfl)))
        exact At.res (.inl rfl) rfl (.cell rfl (hb75.runAg 0 [vu 0, vi 0, vi 2] ty59 rfl rfl rfl) .nil) ⟨rfl, (Stp.ext hs76 rfl rfl)⟩
      · refine WC.condF' rfl hc71 ?_
        refine WC.skip ?_
        refine At.then ?_
        refine WC.seq ?_
        refine WC.region ?_
        refine WL.y (Y.move rfl) rfl ?_
        refine WL.y (Y.move rfl) rfl ?_
        refine WL.y (Y.move rfl) rfl ?_
        refine WL.y (Y.move rfl) rfl ?_
        refine WL.y (Y.add_i rfl rfl) rfl ?_
        obtain ⟨t77, ht77, h⟩ := bnd h
        obtain ⟨v78, hY80, hf79⟩ := Sl.slice (ρ := [(43, v0), (44, vi at49), (47, vi (w64 (at49 + r60)))]) (x := (.tmp 43)) (lo := (some (.tmp 44))) (hi := (some (.tmp 47))) ty23 ty3 rfl rfl rfl hf70 ht77
        refine WL.y (Y.sub (.cons rfl (.cons rfl (.cons rfl .nil))) (hY80 _ _)) rfl ?_
        obtain ⟨r81, hp82, h⟩ := bnd h
        refine WL.call (vals := [v78]) kok24 rfl rfl (c_ref01_Number (A := fun _ => True) (Sl.all hf79) hp82) ?_
        rintro vr85 wd84 ⟨rfl, hm83⟩
        obtain ⟨O86, hold87, hnew88, hst89⟩ := adoptE O65 (fun k => 1) hm83
        refine WL.y (Y.assign rfl) rfl ?_
        refine WL.nil ?_
        refine At.then ?_
        refine WC.seq ?_
        obtain ⟨p94, h, hk95⟩ := bnd h
        refine WC.join (σ := (UInt64 × Own)) (fun x w' => x.1 = p94 ∧ Stp [] O86 wd84 x.2 w') (fun x => [(2, .pointer (some ⟨p13, 0, none⟩)), (3, vi k17), (4, vi at49), (5, vi r60), (6, vu x.1)]) ?_ ?_
        · refine WC.seq ?_
          refine WC.region ?_
          refine WL.y (Y.move rfl) rfl ?_
          refine WL.y (Y.gtr_i rfl rfl) rfl ?_
          refine WL.y (Y.move rfl) rfl ?_
          refine WL.cut 3 (σ := Unit) (fun _ w' => wd84 = w') (fun _ => [(2, .pointer (some ⟨p13, 0, none⟩)), (3, vi k17), (4, vi at49), (5, vi r60), (6, vu r81), (55, .bool ((decide (0 < k17)) && (decide (k17 < 4))))]) ?_ ?_
          · refine WL.part 52 rfl (fun hE96 => ?_) (fun hE96 => ?_)
            · refine WL.ung rfl rfl ?_
              refine WL.y (Y.move rfl) rfl ?_
              refine WL.ung rfl rfl ?_
              refine WL.y (Y.lss_i rfl rfl) rfl ?_
              refine WL.y (Y.pick (b := true) rfl rfl) rfl ?_
              refine WL.ren (v' := .bool ((decide (0 < k17)) && (decide (k17 < 4)))) 55 rfl (congrArg Value.bool (andT hE96)) ?_
              exact WL.nil (At.join () rfl (.cons rfl (.cons rfl (.cons rfl (.cons rfl (.cons rfl (.cons rfl .nil)))))))
            · refine WL.gS rfl rfl rfl rfl ?_
              refine WL.gS rfl rfl rfl rfl ?_
              refine WL.y (Y.pick (b := false) rfl rfl) rfl ?_
              refine WL.ren (v' := .bool ((decide (0 < k17)) && (decide (k17 < 4)))) 55 rfl (congrArg Value.bool (andF hE96)) ?_
              exact WL.nil (At.join () rfl (.cons rfl (.cons rfl (.cons rfl (.cons rfl (.cons rfl (.cons rfl .nil)))))))
          · rintro _ _ rfl
            refine (show WL _ _ _ _ _ [(2, .pointer (some ⟨p13, 0, none⟩)), (3, vi k17), (4, vi at49), (5, vi r60), (6, vu r81), (55, .bool ((decide (0 < k17)) && (decide (k17 < 4))))] _ from ?_)
            refine WL.y (Y.move rfl) rfl ?_
            obtain ⟨p101, h, hk102⟩ := bnd h
            refine WL.cut 6 (σ := (Bool × Own)) (fun x w' => x.1 = p101 ∧ Stp [] O86 wd84 x.2 w') (fun x => [(2, .pointer (some ⟨p13, 0, none⟩)), (3, vi k17), (4, vi at49), (5, vi r60), (6, vu r81), (62, .bool x.1)]) ?_ ?_
            · rcases cnd h with ⟨hE103, h⟩ | ⟨hE103, h⟩
              · refine WL.ren 56 rfl (congrArg Value.bool hE103) ?_
                refine WL.ung rfl rfl ?_
                refine WL.y (Y.move rfl) rfl ?_
                refine WL.ung rfl rfl ?_
                refine WL.y (Y.move rfl) rfl ?_
                refine WL.ung rfl rfl ?_
                refine WL.y (Y.sub_i rfl rfl) rfl ?_
                refine WL.ung rfl rfl ?_
                obtain ⟨r104, hp105, h⟩ := bnd h
                refine WL.call (vals := [vi (w64 (r60 - 1))]) kok61 rfl rfl (c_ref06_power hp105) ?_
                rintro vr108 wd107 ⟨rfl, hm106⟩
                obtain ⟨O109, hold110, hnew111, hst112⟩ := adoptE O86 (fun k => 1) hm106
                refine WL.ung rfl rfl ?_
                refine WL.y (Y.geq_u rfl rfl) rfl ?_
                refine WL.y (Y.pick (b := true) rfl rfl) rfl ?_
                exact WL.nil (At.join (σ := (Bool × Own)) (decide (r104 ≤ r81), O109) ⟨some1 h, (Stp.up hst112 rfl)⟩ (.cons rfl (.cons rfl (.cons rfl (.cons rfl (.cons rfl (.cons rfl .nil)))))))
              · refine WL.ren 56 rfl (congrArg Value.bool hE103) ?_
                refine WL.gS rfl rfl rfl rfl ?_
                refine WL.gS rfl rfl rfl rfl ?_
                refine WL.gS rfl rfl rfl rfl ?_
                refine WL.gS rfl rfl rfl rfl ?_
                refine WL.gS rfl rfl rfl rfl ?_
                refine WL.y (Y.pick (b := false) rfl rfl) rfl ?_
                exact WL.nil (At.join (σ := (Bool × Own)) (false, O86) ⟨some1 h, (Stp.refl _ _ _)⟩ (.cons rfl (.cons rfl (.cons rfl (.cons rfl (.cons rfl (.cons rfl .nil)))))))
            · rintro ⟨x97, O98⟩ wd99 ⟨rfl, hst100⟩
              replace h := hk102
              try dsimp only at h hst100
              refine (show WL _ _ _ _ _ [(2, .pointer (some ⟨p13, 0, none⟩)), (3, vi k17), (4, vi at49), (5, vi r60), (6, vu r81), (62, .bool x97)] _ from ?_)
              refine WL.nil ?_
              refine At.then ?_
              rcases cnd h with ⟨hc113, h⟩ | ⟨hc113, h⟩
              · refine WC.condT' rfl hc113 ?_
                refine WC.region ?_
                refine WL.y (Y.move rfl) rfl ?_
                refine WL.y (Y.move rfl) rfl ?_
                obtain ⟨r114, hp115, h⟩ := bnd h
                refine WL.call (vals := [vi r60]) kok61 rfl rfl (c_ref06_power hp115) ?_
                rintro vr118 wd117 ⟨rfl, hm116⟩
                obtain ⟨O119, hold120, hnew121, hst122⟩ := adoptE O98 (fun k => 1) hm116
                refine WL.y (Y.sub_u rfl rfl) rfl ?_
                obtain ⟨v123, hv123, h⟩ := lt1 h
                refine WL.yE (Y.assign rfl) (congrArg vu hv123.symm) rfl ?_
                refine WL.nil ?_
                exact At.join (σ := (UInt64 × Own)) (v123, O119) ⟨some1 h, (Stp.trans (Stp.up hst100 rfl) (Stp.up hst122 rfl))⟩ (.cons rfl (.cons rfl (.cons rfl (.cons rfl (.cons rfl .nil)))))
              · refine WC.condF' rfl hc113 ?_
                refine WC.skip ?_
                exact At.join (σ := (UInt64 × Own)) (r81, O98) ⟨some1 h, (Stp.up hst100 rfl)⟩ (.cons rfl (.cons rfl (.cons rfl (.cons rfl (.cons rfl .nil)))))
        · rintro ⟨v90, O91⟩ wd92 ⟨rfl, hst93⟩
          replace h := hk95
          try dsimp only at h hst93
          refine (show At _ _ _ [(2, .pointer (some ⟨p13, 0, none⟩)), (3, vi k17), (4, vi at49), (5, vi r60), (6, vu v90)] _ from ?_)
          refine At.then ?_
          refine WC.seq ?_
          refine WC.seq ?_
          refine WC.region ?_
          refine WL.y (Y.move rfl) rfl ?_
          refine WL.y (Y.conv_ui ty29.u ty3.u rfl) rfl ?_
          obtain ⟨r124, hp125, h⟩ := bnd h
          refine WL.call (vals := [vi (w64 (v90.toNat : Int))]) kok63 rfl rfl (c_ref06_Way hp125) ?_
          rintro vr128 wd127 ⟨rfl, hm126⟩
          obtain ⟨O129, hold130, hnew131, hst132⟩ := adoptE O91 (fun k => 1) hm126
          refine WL.y (Y.move rfl) rfl ?_
          refine WL.y (Y.neq_i rfl rfl) rfl ?_
          refine WL.nil ?_
          refine At.then ?_
          rcases cnd h with ⟨hc133, h⟩ | ⟨hc133, h⟩
          · refine WC.condT' rfl hc133 ?_
            refine WC.seq ?_
            refine WC.region ?_
            refine WL.y (Y.build (vals := [(2, vi 3)]) (cells := [vu 0, vi 0, vi 3]) (Fits.evalp rfl) (by kernel_rfl)) rfl ?_
            have hf134 := hb12.st hst68 rfl
            have hf135 := hf134.st hst89 rfl
            have hf136 := hf135.st hst93 rfl
            have hf137 := hf136.st hst132 rfl
            refine WL.store (v := .agg [vu 0, vi 0, vi 3].toArray) (cells' := [vu 0, vi 0, vi 3]) ty59 rfl rfl hf137 rfl (Nat.le_of_ble_eq_true rfl) rfl rfl ?_
            intro wd138 hst139 hb140
            refine WL.nil ?_
            refine At.then ?_
            refine WC.ret ?_
            refine At.thenR ?_
            obtain rfl := some1 h
            have hs141 : Stp [11] (Lg.O0 A) w O129 wd138 := (Stp.trans (Stp.up hst16 rfl) (Stp.trans (Stp.up hst68 rfl) (Stp.trans (Stp.up hst89 rfl) (Stp.trans (Stp.up hst93 rfl) (Stp.trans (Stp.up hst132 rfl) (Stp.up hst139 rfl))))))
            exact At.res (.inl rfl) rfl (.cell rfl (hb140.runAg 0 [vu 0, vi 0, vi 3] ty59 rfl rfl rfl) .nil) ⟨rfl, (Stp.ext hs141 rfl rfl)⟩
          · refine WC.condF' rfl hc133 ?_
            refine WC.skip ?_
            refine At.then ?_
            refine WC.seq ?_
            refine WC.region ?_
            refine WL.y (Y.move rfl) rfl ?_
            refine WL.y (Y.move rfl) rfl ?_
            refine WL.y (Y.move rfl) rfl ?_
            refine WL.y (Y.add_i rfl rfl) rfl ?_
            refine WL.y (Y.build (vals := [(0, vu v90), (1, vi (w64 (at49 + r60)))]) (cells := [vu v90, vi (w64 (at49 + r60)), vi 0]) (Fits.evalp rfl) (by kernel_rfl)) rfl ?_
            have hf142 := hb12.st hst68 rfl
            have hf143 := hf142.st hst89 rfl
            have hf144 := hf143.st hst93 rfl
            have hf145 := hf144.st hst132 rfl
            refine WL.store (v := .agg [vu v90, vi (w64 (at49 + r60)), vi 0].toArray) (cells' := [vu v90, vi (w64 (at49 + r60)), vi 0]) ty59 rfl rfl hf145 rfl (Nat.le_of_ble_eq_true rfl) rfl rfl ?_
            intro wd146 hst147 hb148
            refine WL.nil ?_
            refine At.then ?_
            refine WC.ret ?_
            obtain rfl := some1 h
            have hs149 : Stp [11] (Lg.O0 A) w O129 wd146 := (Stp.trans (Stp.up hst16 rfl) (Stp.trans (Stp.up hst68 rfl) (Stp.trans (Stp.up hst89 rfl) (Stp.trans (Stp.up hst93 rfl) (Stp.trans (Stp.up hst132 rfl) (Stp.up hst147 rfl))))))
            exact At.res (.inl rfl) rfl (.cell rfl (hb148.runAg 0 [vu v90, vi (w64 (at49 + r60)), vi 0] ty59 rfl rfl rfl) .nil) ⟨rfl, (Stp.ext hs149 rfl rfl)⟩

theorem c_ref06_Next {A : Nat → Prop} {a0 : List Int} {v0 : Value} {a1 : List Int} {v1 : Value} {w : World} (hs0 : Sl Rep.i w A v0 a0) (hs1 : Sl Rep.i w A v1 a1) {r0 : ref06_Got} (h : ref06_Next a0 a1 = some r0) : Rets Try.prog 40 [v0, v1] w (fun v w' => v = .agg (List.toArray [vu r0.V, vi r0.N, vi r0.E]) ∧ Ext w w') := by
  unfold ref06_Next at h
  refine Rets.enter Try.func40 rfl rfl ?_
  have hf11 : Sl Rep.i w (imm (Lg.O0 A)) v0 a0 := (Sl.start hs0)
  have hf12 : Sl Rep.i w (imm (Lg.O0 A)) v1 a1 := (Sl.start hs1)
  refine (show WC _ _ _ _ [(0, v0), (1, v1)] _ from ?_)
  refine WC.seq ?_
  refine WC.region ?_
  refine WL.alloc (O := (Lg.O0 A)) 11 [vu 0, vi 0, vi 0] ty59 rfl rfl ?_
  intro p14 O15 wd16 hst17 hb13
  refine WL.nil ?_
  refine At.then ?_
  refine WC.seq ?_
  refine WC.region ?_
  refine WL.y (Y.move rfl) rfl ?_
  have hf18 := hf11.mono (imm_st hst17 rfl rfl)
  refine WL.y (Y.len ty23 rfl hf18) rfl ?_
  obtain ⟨nv19, hnv19, h⟩ := lt1 h
  refine WL.yE (Y.assign rfl) (congrArg vi hnv19.symm) rfl ?_
  refine WL.nil ?_
  refine At.then ?_
  refine WC.seq ?_
  refine WC.seq ?_
  refine WC.region ?_
  refine WL.y (Y.move rfl) rfl ?_
  refine WL.y (Y.lss_i rfl rfl) rfl ?_
  refine WL.nil ?_
  refine At.then ?_
  rcases cnd h with ⟨hc20, h⟩ | ⟨hc20, h⟩
  · refine WC.condT' rfl hc20 ?_
    refine WC.seq ?_
    refine WC.region ?_
    refine WL.y (Y.move rfl) rfl ?_
    have hf21 := hf12.mono (imm_st hst17 rfl rfl)
    obtain ⟨r22, hp23, h⟩ := bnd h
    refine WL.call (vals := [v1]) kok35 rfl rfl (c_ref06_GetSmall (A := fun _ => True) (Sl.all hf21) hp23) ?_
    rintro vr26 wd25 ⟨rfl, hm24⟩
    obtain ⟨O27, hold28, hnew29, hst30⟩ := adoptE O15 (fun k => 1) hm24
    refine WL.alloc (O := O27) 12 [vu 0, vi 0, vi 0] ty59 rfl rfl ?_
    intro p32 O33 wd34 hst35 hb31
    refine WL.store (v := .agg [vu r22.V, vi r22.N, vi r22.E].toArray) (cells' := [vu r22.V, vi r22.N, vi r22.E]) ty59 rfl rfl hb31 rfl (Nat.le_of_ble_eq_true rfl) rfl rfl ?_
    intro wd36 hst37 hb38
    refine WL.nil ?_
    refine At.then ?_
    refine WC.seq ?_
    refine WC.seq ?_
    refine WC.region ?_
    refine WL.y (Y.fieldAddr fo59_2 rfl) rfl ?_
    refine WL.y (Y.loadSc ty33 rfl rfl (hb38.cell 2 _ rfl)) rfl ?_
    refine WL.y (Y.neq_i rfl rfl) rfl ?_
    refine WL.nil ?_
    refine At.then ?_
    rcases cnd h with ⟨hc39, h⟩ | ⟨hc39, h⟩
    · refine WC.condT' rfl hc39 ?_
      refine WC.seq ?_
      refine WC.region ?_
      refine WL.y (Y.loadAg ty59 rfl rfl (hb38.cells 0 [vu r22.V, vi r22.N, vi r22.E] rfl) rfl) rfl ?_
      have hf40 := hb13.st hst30 rfl
      have hf41 := hf40.st hst35 rfl
      have hf42 := hf41.st hst37 rfl
      refine WL.store (v := .agg [vu r22.V, vi r22.N, vi r22.E].toArray) (cells' := [vu r22.V, vi r22.N, vi r22.E]) ty59 rfl rfl hf42 rfl (Nat.le_of_ble_eq_true rfl) rfl rfl ?_
      intro wd43 hst44 hb45
      refine WL.nil ?_
      refine At.then ?_
      refine WC.ret ?_
      refine At.thenR ?_
      refine At.thenR ?_
      obtain rfl := some1 h
      have hs46 : Stp [11, 12] (Lg.O0 A) w O33 wd43 := (Stp.trans (Stp.up hst17 rfl) (Stp.trans (Stp.up hst30 rfl) (Stp.trans (Stp.up hst35 rfl) (Stp.trans (Stp.up hst37 rfl) (Stp.up hst44 rfl)))))
      exact At.res (.inl rfl) rfl (.cell rfl (hb45.runAg 0 [vu r22.V, vi r22.N, vi r22.E] ty59 rfl rfl rfl) .nil) ⟨rfl, (Stp.ext hs46 rfl rfl)⟩
    · refine WC.condF' rfl hc39 ?_
      refine WC.skip ?_
      refine At.then ?_
      refine WC.seq ?_
      refine WC.region ?_
      refine WL.y (Y.fieldAddr fo59_0 rfl) rfl ?_
      refine WL.y (Y.loadSc ty29 rfl rfl (hb38.cell 0 _ rfl)) rfl ?_
      obtain ⟨r47, hp48, h⟩ := bnd h
      refine WL.call (vals := [vu r22.V]) kok37 rfl rfl (c_ref02_Zag hp48) ?_
      rintro vr51 wd50 ⟨rfl, hm49⟩
      obtain ⟨O52, hold53, hnew54, hst55⟩ := adoptE O33 (fun k => 1) hm49
      refine WL.y (Y.conv_iu ty3.u ty29.u rfl) rfl ?_
      obtain ⟨v56, hv56, h⟩ := lt1 h
      refine WL.yE (Y.assign rfl) (congrArg vu hv56.symm) rfl ?_
      refine WL.nil ?_
      refine At.then ?_
      refine WC.seq ?_
      obtain ⟨p58, h, hk59⟩ := bnd h
      refine WC.join (σ := UInt64) (fun x w' => x = p58 ∧ wd50 = w') (fun x => [(4, .pointer (some ⟨p14, 0, none⟩)), (6, .pointer (some ⟨p32, 0, none⟩)), (7, vu x)]) ?_ ?_
      · refine WC.seq ?_
        refine WC.region ?_
        refine WL.y (Y.move rfl) rfl ?_
        refine WL.y (Y.eql_i rfl rfl) rfl ?_
        refine WL.nil ?_
        refine At.then ?_
        rcases cnd h with ⟨hc60, h⟩ | ⟨hc60, h⟩
        · refine WC.condT' rfl hc60 ?_
          refine WC.region ?_
          refine WL.y (Y.move rfl) rfl ?_
          refine WL.y (Y.move rfl) rfl ?_
          obtain ⟨e61, he61, h⟩ := bnd h
          have hf70 := hf18.mono (imm_st hst30 rfl rfl)
          have hf71 := hf70.mono (imm_st hst35 rfl rfl)
          have hf72 := hf71.mono (imm_st hst37 rfl rfl)
          have hf73 := hf72.mono (imm_st hst55 rfl rfl)
          obtain ⟨b62, off74, cap69, cs68, hv63, hi64, hl65, hc66, hok67, hA75⟩ := Sl.at2 hf73 he61
          obtain rfl := hok67
          replace hc66 : CellsAt _ _ _ [vi e61] := hc66
          have hca76 := CAt.imm hc66 hA75
          refine WL.y (Y.indexAddr ty23 ty3 rfl hv63 rfl hi64 hl65) rfl ?_
          refine WL.y (Y.loadSc ty3 rfl rfl hca76.at_) rfl ?_
          refine WL.y (Y.conv_iu ty3.u ty29.u rfl) rfl ?_
          refine WL.y (Y.add_u rfl rfl) rfl ?_
          obtain ⟨v77, hv77, h⟩ := lt1 h
          refine WL.yE (Y.assign rfl) (congrArg vu hv77.symm) rfl ?_
          refine WL.nil ?_
          exact At.join (σ := UInt64) v77 ⟨some1 h, rfl⟩ (.cons rfl (.cons rfl (.cons rfl .nil)))
        · refine WC.condF' rfl hc60 ?_
          refine WC.skip ?_
          exact At.join (σ := UInt64) v56 ⟨some1 h, rfl⟩ (.cons rfl (.cons rfl (.cons rfl .nil)))
      · rintro v57 _ ⟨rfl, rfl⟩
        replace h := hk59
        try dsimp only at h
        refine (show At _ _ _ [(4, .pointer (some ⟨p14, 0, none⟩)), (6, .pointer (some ⟨p32, 0, none⟩)), (7, vu v57)] _ from ?_)
        refine At.then ?_
        refine WC.seq ?_
        refine WC.region ?_
        refine WL.y (Y.move rfl) rfl ?_
        refine WL.y (Y.fieldAddr fo59_1 rfl) rfl ?_
        have hf78 := hb38.st hst55 rfl
        refine WL.y (Y.loadSc ty3 rfl rfl (hf78.cell 1 _ rfl)) rfl ?_
        refine WL.y (Y.build (vals := [(0, vu v57), (1, vi r22.N)]) (cells := [vu v57, vi r22.N, vi 0]) (Fits.evalp rfl) (by kernel_rfl)) rfl ?_
        have hf79 := hb13.st hst30 rfl
        have hf80 := hf79.st hst35 rfl
        have hf81 := hf80.st hst37 rfl
        have hf82 := hf81.st hst55 rfl
        refine WL.store (v := .agg [vu v57, vi r22.N, vi 0].toArray) (cells' := [vu v57, vi r22.N, vi 0]) ty59 rfl rfl hf82 rfl (Nat.le_of_ble_eq_true rfl) rfl rfl ?_
        intro wd83 hst84 hb85
        refine WL.nil ?_
        refine At.then ?_
        refine WC.ret ?_
        refine At.thenR ?_
        obtain rfl := some1 h
        have hs86 : Stp [11, 12] (Lg.O0 A) w O52 wd83 := (Stp.trans (Stp.up hst17 rfl) (Stp.trans (Stp.up hst30 rfl) (Stp.trans (Stp.up hst35 rfl) (Stp.trans (Stp.up hst37 rfl) (Stp.trans (Stp.up hst55 rfl) (Stp.up hst84 rfl))))))
        exact At.res (.inl rfl) rfl (.cell rfl (hb85.runAg 0 [vu v57, vi r22.N, vi 0] ty59 rfl rfl rfl) .nil) ⟨rfl, (Stp.ext hs86 rfl rfl)⟩
  · refine WC.condF' rfl hc20 ?_
    refine WC.skip ?_
    refine At.then ?_
    refine WC.seq ?_
    refine WC.region ?_
    refine WL.y (Y.move rfl) rfl ?_
    have hf87 := hf12.mono (imm_st hst17 rfl rfl)
    obtain ⟨r88, hp89, h⟩ := bnd h
    refine WL.call (vals := [v1]) kok55 rfl rfl (c_ref06_GetStep (A := fun _ => True) (Sl.all hf87) hp89) ?_
    rintro vr92 wd91 ⟨rfl, hm90⟩
    obtain ⟨O93, hold94, hnew95, hst96⟩ := adoptE O15 (fun k => 1) hm90
    refine WL.alloc (O := O93) 13 [vu 0, vi 0, vi 0] ty59 rfl rfl ?_
    intro p98 O99 wd100 hst101 hb97
    refine WL.store (v := .agg [vu r88.V, vi r88.N, vi r88.E].toArray) (cells' := [vu r88.V, vi r88.N, vi r88.E]) ty59 rfl rfl hb97 rfl (Nat.le_of_ble_eq_true rfl) rfl rfl ?_
    intro wd102 hst103 hb104
    refine WL.nil ?_
    refine At.then ?_
    refine WC.seq ?_
    refine WC.seq ?_
    refine WC.region ?_
    refine WL.y (Y.fieldAddr fo59_2 rfl) rfl ?_
    refine WL.y (Y.loadSc ty33 rfl rfl (hb104.cell 2 _ rfl)) rfl ?_
    refine WL.y (Y.neq_i rfl rfl) rfl ?_
    refine WL.nil ?_
    refine At.then ?_
    rcases cnd h with ⟨hc105, h⟩ | ⟨hc105, h⟩
    · refine WC.condT' rfl hc105 ?_
      refine WC.seq ?_
      refine WC.region ?_
      refine WL.y (Y.loadAg ty59 rfl rfl (hb104.cells 0 [vu r88.V, vi r88.N, vi r88.E] rfl) rfl) rfl ?_
      have hf106 := hb13.st hst96 rfl
      have hf107 := hf106.st hst101 rfl
      have hf108 := hf107.st hst103 rfl
      refine WL.store (v := .agg [vu r88.V, vi r88.N, vi r88.E].toArray) (cells' := [vu r88.V, vi r88.N, vi r88.E]) ty59 rfl rfl hf108 rfl (Nat.le_of_ble_eq_true rfl) rfl rfl ?_
      intro wd109 hst110 hb111
      refine WL.nil ?_
      refine At.then ?_
      refine WC.ret ?_
      refine At.thenR ?_
      obtain rfl := some1 h
      have hs112 : Stp [11, 13] (Lg.O0 A) w O99 wd109 := (Stp.trans (Stp.up hst17 rfl) (Stp.trans (Stp.up hst96 rfl) (Stp.trans (Stp.up hst101 rfl) (Stp.trans (Stp.up hst103 rfl) (Stp.up hst110 rfl)))))
      exact At.res (.inl rfl) rfl (.cell rfl (hb111.runAg 0 [vu r88.V, vi r88.N, vi r88.E] ty59 rfl rfl rfl) .nil) ⟨rfl, (Stp.ext hs112 rfl rfl)⟩
    · refine WC.condF' rfl hc105 ?_
      refine WC.skip ?_
      refine At.then ?_
      refine WC.seq ?_
      refine WC.draw 20 O99 fmix (by kernel_rfl) ?_
      intro wd113 hst114
      refine WS.y (Y.fieldAddr fo59_0 rfl) rfl ?_
      have hf115 := hb104.st hst114 rfl
      refine WS.y (Y.loadSc ty29 rfl rfl (hf115.cell 0 _ rfl)) rfl ?_
      refine WS.y (Y.move rfl) rfl ?_
      refine WS.y (Y.move rfl) rfl ?_
      refine WS.y (Y.sub_i rfl rfl) rfl ?_
      obtain ⟨e116, he116, h⟩ := bnd h
      have hf125 := hf18.mono (imm_st hst96 rfl rfl)
      have hf126 := hf125.mono (imm_st hst101 rfl rfl)
      have hf127 := hf126.mono (imm_st hst103 rfl rfl)
      have hf128 := hf127.mono (imm_st hst114 rfl rfl)
      obtain ⟨b117, off129, cap124, cs123, hv118, hi119, hl120, hc121, hok122, hA130⟩ := Sl.at2 hf128 he116
      obtain rfl := hok122
      replace hc121 : CellsAt _ _ _ [vi e116] := hc121
      have hca131 := CAt.imm hc121 hA130
      refine WS.y (Y.indexAddr ty23 ty3 rfl hv118 rfl hi119 hl120) rfl ?_
      refine WS.y (Y.loadSc ty3 rfl rfl hca131.at_) rfl ?_
      refine WS.y (Y.conv_iu ty3.u ty29.u rfl) rfl ?_
      refine WS.y (Y.mul_u (a := 2) rfl rfl) rfl ?_
      refine WS.y (Y.add_u rfl rfl) rfl ?_
      refine WS.y (Y.move rfl) rfl ?_
      refine WS.y (Y.move rfl) rfl ?_
      refine WS.y (Y.sub_i rfl rfl) rfl ?_
      obtain ⟨e132, he132, h⟩ := bnd h
      obtain ⟨b133, off141, cap140, cs139, hv134, hi135, hl136, hc137, hok138, hA142⟩ := Sl.at2 hf128 he132
      obtain rfl := hok138
      replace hc137 : CellsAt _ _ _ [vi e132] := hc137
      have hca143 := CAt.imm hc137 hA142
      refine WS.y (Y.indexAddr ty23 ty3 rfl hv134 rfl hi135 hl136) rfl ?_
      refine WS.y (Y.loadSc ty3 rfl rfl hca143.at_) rfl ?_
      refine WS.y (Y.conv_iu ty3.u ty29.u rfl) rfl ?_
      refine WS.y (Y.sub_u rfl rfl) rfl ?_
      refine WS.y (Y.fieldAddr fo59_1 rfl) rfl ?_
      refine WS.y (Y.loadSc ty3 rfl rfl (hf115.cell 1 _ rfl)) rfl ?_
      refine WS.y (Y.build (vals := [(0, vu ((r88.V + ((2 : UInt64) * (toU64 e116))) - (toU64 e132))), (1, vi r88.N)]) (cells := [vu ((r88.V + ((2 : UInt64) * (toU64 e116))) - (toU64 e132)), vi r88.N, vi 0]) (Fits.evalp rfl) (by kernel_rfl)) rfl ?_
      refine WS.tail ?_
      have hf144 := hb13.st hst96 rfl
      have hf145 := hf144.st hst101 rfl
      have hf146 := hf145.st hst103 rfl
      have hf147 := hf146.st hst114 rfl
      refine WL.store (v := .agg [vu ((r88.V + ((2 : UInt64) * (toU64 e116))) - (toU64 e132)), vi r88.N, vi 0].toArray) (cells' := [vu ((r88.V + ((2 : UInt64) * (toU64 e116))) - (toU64 e132)), vi r88.N, vi 0]) ty59 rfl rfl hf147 rfl (Nat.le_of_ble_eq_true rfl) rfl rfl ?_
      intro wd148 hst149 hb150
      refine WL.nil ?_
      refine At.then ?_
      refine WC.ret ?_
      obtain rfl := some1 h
      have hs151 : Stp [11, 13] (Lg.O0 A) w O99 wd148 := (Stp.trans (Stp.up hst17 rfl) (Stp.trans (Stp.up hst96 rfl) (Stp.trans (Stp.up hst101 rfl) (Stp.trans (Stp.up hst103 rfl) (Stp.trans (Stp.up hst114 rfl) (Stp.up hst149 rfl))))))
      exact At.res (.inl rfl) rfl (.cell rfl (hb150.runAg 0 [vu ((r88.V + ((2 : UInt64) * (toU64 e116))) - (toU64 e132)), vi r88.N, vi 0] ty59 rfl rfl rfl) .nil) ⟨rfl, (Stp.ext hs151 rfl rfl)⟩

theorem c_bitio_Reader_Left {A : Nat → Prop} {v0_0 : Value} {a0 : bitio_Reader} {b0 : Nat} {w : World} (hs0_0 : Sl Rep.b w A v0_0 a0.b) (hb0 : w.heap[b0]? = some (.cells (List.toArray [v0_0, vi a0.n, vi a0.at_]) 77 (0, 0))) (hm0 : A b0) {r0 : Int} (h : bitio_Reader_Left a0 = some r0) : Rets Try.prog 18 [.pointer (some ⟨b0, 0, none⟩)] w (fun v w' => v = vi r0 ∧ Ext w w') := by
  unfold bitio_Reader_Left at h
  refine Rets.enter Try.func18 rfl rfl ?_
  have hf11 : Sl Rep.b w (imm (Lg.O0 A)) v0_0 a0.b := (Sl.start hs0_0)
  have hb12 : Blk 0 (Lg.O0 A) w b0 77 [v0_0, vi a0.n, vi a0.at_] := ⟨(if_pos hm0), hb0⟩
  refine (show WC _ _ _ _ [(0, .pointer (some ⟨b0, 0, none⟩))] _ from ?_)
  refine WC.seq ?_
  refine WC.region ?_
  refine WL.y (Y.assign rfl) rfl ?_
  refine WL.nil ?_
  refine At.then ?_
  refine WC.seq ?_
  refine WC.draw 9 (Lg.O0 A) fmix (by kernel_rfl) ?_
  intro wd13 hst14
  refine WS.y (Y.move rfl) rfl ?_
  refine WS.y (Y.nilCheck rfl) rfl ?_
  refine WS.y (Y.fieldAddr fo77_1 rfl) rfl ?_
  have hf15 := hb12.st hst14 rfl
  refine WS.y (Y.loadSc ty3 rfl rfl (hf15.cell 1 _ rfl)) rfl ?_
  refine WS.y (Y.move rfl) rfl ?_
  refine WS.y (Y.nilCheck rfl) rfl ?_
  refine WS.y (Y.fieldAddr fo77_2 rfl) rfl ?_
  refine WS.y (Y.loadSc ty3 rfl rfl (hf15.cell 2 _ rfl)) rfl ?_
  refine WS.y (Y.sub_i rfl rfl) rfl ?_
  refine WS.tail ?_
  obtain ⟨t16, ht16, h⟩ := lt1 h
  refine WL.yE (Y.assign rfl) (congrArg vi ht16.symm) rfl ?_
  refine WL.nil ?_
  refine At.then ?_
  refine WC.ret ?_
  obtain rfl := some1 h
  have hs17 : Stp [] (Lg.O0 A) w (Lg.O0 A) wd13 := (Stp.up hst14 rfl)
  exact At.res (.inl rfl) rfl (.tmp rfl .nil) ⟨rfl, (Stp.ext hs17 rfl rfl)⟩

theorem c_bitio_Reader_Skip {A : Nat → Prop} {v0_0 : Value} {a0 : bitio_Reader} {b0 : Nat} {a1 : Int} {w : World} (hs0_0 : Sl Rep.b w A v0_0 a0.b) (hb0 : w.heap[b0]? = some (.cells (List.toArray [v0_0, vi a0.n, vi a0.at_]) 77 (0, 0))) (hA : ∀ k, A k → k ≠ b0) {r0 : Bool} {q0 : bitio_Reader} (h : bitio_Reader_Skip a0 a1 = some (r0, q0)) : Rets Try.prog 22 [.pointer (some ⟨b0, 0, none⟩), vi a1] w (fun v w' => ∃ (z0_0 : Value), v = .bool r0 ∧ Mod (fun k => k = b0) w w' ∧ Sl Rep.b w' (fun k => A k ∨ w.heap.size ≤ k) z0_0 q0.b ∧ w'.heap[b0]? = some (.cells (List.toArray [z0_0, vi q0.n, vi q0.at_]) 77 (0, 0))) := by
  unfold bitio_Reader_Skip at h
  refine Rets.enter Try.func22 rfl rfl ?_
  have hf11 : Sl Rep.b w (imm (Lg.OB b0 3 (Lg.O0 A))) v0_0 a0.b := (Sl.OB (Sl.start hs0_0) (fun k hk => (hA k (O0_A k hk))))
  have hb12 : Blk 3 (Lg.OB b0 3 (Lg.O0 A)) w b0 77 [v0_0, vi a0.n, vi a0.at_] := ⟨(if_pos rfl), hb0⟩
  refine (show WC _ _ _ _ [(0, .pointer (some ⟨b0, 0, none⟩)), (1, vi a1)] _ from ?_)
  refine WC.seq ?_
  refine WC.region ?_
  refine WL.y (Y.assign rfl) rfl ?_
  refine WL.nil ?_
  refine At.then ?_
  refine WC.seq ?_
  refine WC.seq ?_
  refine WC.region ?_
  refine WL.y (Y.move rfl) rfl ?_
  refine WL.y (Y.lss_i rfl rfl) rfl ?_
  refine WL.y (Y.move rfl) rfl ?_
  obtain ⟨p17, h, hk18⟩ := bnd h
  refine WL.cut 5 (σ := (Bool × Own)) (fun x w' => x.1 = p17 ∧ Stp [] (Lg.OB b0 3 (Lg.O0 A)) w x.2 w') (fun x => [(0, .pointer (some ⟨b0, 0, none⟩)), (1, vi a1), (12, .bool x.1)]) ?_ ?_
  · rcases cnd h with ⟨hE19, h⟩ | ⟨hE19, h⟩
    · refine WL.ren 7 rfl (congrArg Value.bool hE19) ?_
      refine WL.gS rfl rfl rfl rfl ?_
      refine WL.gS rfl rfl rfl rfl ?_
      refine WL.gS rfl rfl rfl rfl ?_
      refine WL.gS rfl rfl rfl rfl ?_
      refine WL.y (Y.pick (b := true) rfl rfl) rfl ?_
      exact WL.nil (At.join (σ := (Bool × Own)) (true, (Lg.OB b0 3 (Lg.O0 A))) ⟨some1 h, (Stp.refl _ _ _)⟩ (.cons rfl (.cons rfl (.cons rfl .nil))))
    · refine WL.ren 7 rfl (congrArg Value.bool hE19) ?_
      refine WL.ung rfl rfl ?_
      refine WL.y (Y.move rfl) rfl ?_
      refine WL.ung rfl rfl ?_
      refine WL.y (Y.move rfl) rfl ?_
      refine WL.ung rfl rfl ?_
      obtain ⟨r20, hp21, h⟩ := bnd h
      refine WL.call (vals := [.pointer (some ⟨b0, 0, none⟩)]) kok18 rfl rfl (c_bitio_Reader_Left (A := fun _ => True) (a0 := a0) (Sl.all hf11) hb12.blk trivial hp21) ?_
      rintro vr24 wd23 ⟨rfl, hm22⟩
      obtain ⟨O25, hold26, hnew27, hst28⟩ := adoptE (Lg.OB b0 3 (Lg.O0 A)) (fun k => 1) hm22
      refine WL.ung rfl rfl ?_
      refine WL.y (Y.gtr_i rfl rfl) rfl ?_
      refine WL.y (Y.pick (b := false) rfl rfl) rfl ?_
      exact WL.nil (At.join (σ := (Bool × Own)) (decide (r20 < a1), O25) ⟨some1 h, (Stp.up hst28 rfl)⟩ (.cons rfl (.cons rfl (.cons rfl .nil))))
  · rintro ⟨x13, O14⟩ wd15 ⟨rfl, hst16⟩
    replace h := hk18
    try dsimp only at h hst16
    refine (show WL _ _ _ _ _ [(0, .pointer (some ⟨b0, 0, none⟩)), (1, vi a1), (12, .bool x13)] _ from ?_)
    refine WL.nil ?_
    refine At.then ?_
    rcases cnd h with ⟨hc29, h⟩ | ⟨hc29, h⟩
    · refine WC.condT' rfl hc29 ?_
      refine WC.seq ?_
      refine WC.region ?_
      refine WL.y (Y.assign rfl) rfl ?_
      refine WL.nil ?_
      refine At.then ?_
      refine WC.ret ?_
      refine At.thenR ?_
      obtain ⟨rfl, rfl⟩ := tup2 h
      have hs30 : Stp [] (Lg.OB b0 3 (Lg.O0 A)) w O14 wd15 := (Stp.up hst16 rfl)
      have hf31 := hb12.st hst16 rfl
      have hf32 := hf11.mono (imm_st hst16 rfl rfl)
      exact At.res (.inl rfl) rfl (.tmp rfl .nil) ⟨v0_0, rfl, (Stp.modL hs30 sB1 rfl rfl), (Sl.outI hf32 hs30 (lowB low0 rfl rfl) (aB O0_A rfl)), hf31.blk⟩
    · refine WC.condF' rfl hc29 ?_
      refine WC.skip ?_
      refine At.then ?_
      refine WC.seq ?_
      refine WC.region ?_
      refine WL.y (Y.move rfl) rfl ?_
      refine WL.y (Y.nilCheck rfl) rfl ?_
      refine WL.y (Y.fieldAddr fo77_2 rfl) rfl ?_
      have hf33 := hb12.st hst16 rfl
      refine WL.y (Y.loadSc ty3 rfl rfl (hf33.cell 2 _ rfl)) rfl ?_
      refine WL.y (Y.move rfl) rfl ?_
      refine WL.y (Y.add_i rfl rfl) rfl ?_
      refine WL.y (Y.nilCheck rfl) rfl ?_
      refine WL.y (Y.fieldAddr fo77_2 rfl) rfl ?_
      obtain ⟨t34, ht34, h⟩ := lt1 h
      refine WL.ren 18 rfl (congrArg vi ht34.symm) ?_
      refine WL.store (v := vi t34) (cells' := [v0_0, vi a0.n, vi t34]) ty3 rfl rfl hf33 rfl (Nat.le_of_ble_eq_true rfl) rfl rfl ?_
      intro wd35 hst36 hb37
      refine WL.nil ?_
      refine At.then ?_
      refine WC.seq ?_
      refine WC.region ?_
      refine WL.y (Y.assign rfl) rfl ?_
      refine WL.nil ?_
      refine At.then ?_
      refine WC.ret ?_
      obtain ⟨rfl, rfl⟩ := tup2 h
      have hs38 : Stp [3] (Lg.OB b0 3 (Lg.O0 A)) w O14 wd35 := (Stp.trans (Stp.up hst16 rfl) (Stp.up hst36 rfl))
      have hf39 := hf11.mono (imm_st hst16 rfl rfl)
      have hf40 := hf39.mono (imm_st hst36 rfl rfl)
      exact At.res (.inl rfl) rfl (.tmp rfl .nil) ⟨v0_0, rfl, (Stp.modL hs38 sB1 rfl rfl), (Sl.outI hf40 hs38 (lowB low0 rfl rfl) (aB O0_A rfl)), hb37.blk⟩

theorem c_bitio_Reader_Look {A : Nat → Prop} {v0_0 : Value} {a0 : bitio_Reader} {b0 : Nat} {a1 : Int} {w : World} (hs0_0 : Sl Rep.b w A v0_0 a0.b) (hb0 : w.heap[b0]? = some (.cells (List.toArray [v0_0, vi a0.n, vi a0.at_]) 77 (0, 0))) (hm0 : A b0) {r0 : UInt64} {r1 : Bool} (h : bitio_Reader_Look a0 a1 = some (r0, r1)) : Rets Try.prog 23 [.pointer (some ⟨b0, 0, none⟩), vi a1] w (fun v w' => v = .tuple (List.toArray [vu r0, .bool r1]) ∧ Ext w w') := by
  unfold bitio_Reader_Look at h
  refine Rets.enter Try.func23 rfl rfl ?_
  have hf11 : Sl Rep.b w (imm (Lg.O0 A)) v0_0 a0.b := (Sl.start hs0_0)
  have hb12 : Blk 0 (Lg.O0 A) w b0 77 [v0_0, vi a0.n, vi a0.at_] := ⟨(if_pos hm0), hb0⟩
  refine (show WC _ _ _ _ [(0, .pointer (some ⟨b0, 0, none⟩)), (1, vi a1)] _ from ?_)
  refine WC.seq ?_
  refine WC.region ?_
  refine WL.y (Y.assign (v := vu 0) rfl) rfl ?_
  refine WL.y (Y.assign rfl) rfl ?_
  refine WL.nil ?_
  refine At.then ?_
  refine WC.seq ?_
  refine WC.seq ?_
  refine WC.region ?_
  refine WL.y (Y.move rfl) rfl ?_
  refine WL.y (Y.lss_i rfl rfl) rfl ?_
  refine WL.y (Y.move rfl) rfl ?_
  refine WL.cut 3 (σ := Unit) (fun _ w' => w = w') (fun _ => [(0, .pointer (some ⟨b0, 0, none⟩)), (1, vi a1), (16, .bool ((decide (a1 < 0)) || (decide (64 < a1))))]) ?_ ?_
  · refine WL.part 13 rfl (fun hE13 => ?_) (fun hE13 => ?_)
    · refine WL.gS rfl rfl rfl rfl ?_
      refine WL.gS rfl rfl rfl rfl ?_
      refine WL.y (Y.pick (b := true) rfl rfl) rfl ?_
      refine WL.ren (v' := .bool ((decide (a1 < 0)) || (decide (64 < a1)))) 16 rfl (congrArg Value.bool (orT hE13)) ?_
      exact WL.nil (At.join () rfl (.cons rfl (.cons rfl (.cons rfl .nil))))
    · refine WL.ung rfl rfl ?_
      refine WL.y (Y.move rfl) rfl ?_
      refine WL.ung rfl rfl ?_
      refine WL.y (Y.gtr_i rfl rfl) rfl ?_
      refine WL.y (Y.pick (b := false) rfl rfl) rfl ?_
      refine WL.ren (v' := .bool ((decide (a1 < 0)) || (decide (64 < a1)))) 16 rfl (congrArg Value.bool (orF hE13)) ?_
      exact WL.nil (At.join () rfl (.cons rfl (.cons rfl (.cons rfl .nil))))
  · rintro _ _ rfl
    refine (show WL _ _ _ _ _ [(0, .pointer (some ⟨b0, 0, none⟩)), (1, vi a1), (16, .bool ((decide (a1 < 0)) || (decide (64 < a1))))] _ from ?_)
    refine WL.y (Y.move rfl) rfl ?_
    obtain ⟨p18, h, hk19⟩ := bnd h
    refine WL.cut 5 (σ := (Bool × Own)) (fun x w' => x.1 = p18 ∧ Stp [] (Lg.O0 A) w x.2 w') (fun x => [(0, .pointer (some ⟨b0, 0, none⟩)), (1, vi a1), (22, .bool x.1)]) ?_ ?_
    · rcases cnd h with ⟨hE20, h⟩ | ⟨hE20, h⟩
      · refine WL.ren 17 rfl (congrArg Value.bool hE20) ?_
        refine WL.gS rfl rfl rfl rfl ?_
        refine WL.gS rfl rfl rfl rfl ?_
        refine WL.gS rfl rfl rfl rfl ?_
        refine WL.gS rfl rfl rfl rfl ?_
        refine WL.y (Y.pick (b := true) rfl rfl) rfl ?_
        exact WL.nil (At.join (σ := (Bool × Own)) (true, (Lg.O0 A)) ⟨some1 h, (Stp.refl _ _ _)⟩ (.cons rfl (.cons rfl (.cons rfl .nil))))
      · refine WL.ren 17 rfl (congrArg Value.bool hE20) ?_
        refine WL.ung rfl rfl ?_
        refine WL.y (Y.move rfl) rfl ?_
        refine WL.ung rfl rfl ?_
        refine WL.y (Y.move rfl) rfl ?_
        refine WL.ung rfl rfl ?_
        obtain ⟨r21, hp22, h⟩ := bnd h
        refine WL.call (vals := [.pointer (some ⟨b0, 0, none⟩)]) kok18 rfl rfl (c_bitio_Reader_Left (A := fun _ => True) (a0 := a0) (Sl.all hf11) hb12.blk trivial hp22) ?_
        rintro vr25 wd24 ⟨rfl, hm23⟩
        obtain ⟨O26, hold27, hnew28, hst29⟩ := adoptE (Lg.O0 A) (fun k => 1) hm23
        refine WL.ung rfl rfl ?_
        refine WL.y (Y.gtr_i rfl rfl) rfl ?_
        refine WL.y (Y.pick (b := false) rfl rfl) rfl ?_
        exact WL.nil (At.join (σ := (Bool × Own)) (decide (r21 < a1), O26) ⟨some1 h, (Stp.up hst29 rfl)⟩ (.cons rfl (.cons rfl (.cons rfl .nil))))
    · rintro ⟨x14, O15⟩ wd16 ⟨rfl, hst17⟩
      replace h := hk19
      try dsimp only at h hst17
      refine (show WL _ _ _ _ _ [(0, .pointer (some ⟨b0, 0, none⟩)), (1, vi a1), (22, .bool x14)] _ from ?_)
      refine WL.nil ?_
      refine At.then ?_
      rcases cnd h with ⟨hc30, h⟩ | ⟨hc30, h⟩
      · refine WC.condT' rfl hc30 ?_
        refine WC.seq ?_
        refine WC.region ?_
        refine WL.y (Y.assign (v := vu 0) rfl) rfl ?_
        refine WL.y (Y.assign rfl) rfl ?_
        refine WL.nil ?_
        refine At.then ?_
        refine WC.ret ?_
        refine At.thenR ?_
        obtain ⟨rfl, rfl⟩ := tup2 h
        have hs31 : Stp [] (Lg.O0 A) w O15 wd16 := (Stp.up hst17 rfl)
        exact At.res (.inl rfl) rfl (.tmp rfl (.tmp rfl .nil)) ⟨rfl, (Stp.ext hs31 rfl rfl)⟩
      · refine WC.condF' rfl hc30 ?_
        refine WC.skip ?_
        refine At.then ?_
        refine WC.seq ?_
        refine WC.region ?_
        refine WL.y (Y.assign (v := vu 0) rfl) rfl ?_
        refine WL.nil ?_
        refine At.then ?_
        refine WC.seq ?_
        refine WC.seq ?_
        refine WC.region ?_
        refine WL.y (Y.move rfl) rfl ?_
        refine WL.y (Y.nilCheck rfl) rfl ?_
        refine WL.y (Y.fieldAddr fo77_2 rfl) rfl ?_
        have hf32 := hb12.st hst17 rfl
        refine WL.y (Y.loadSc ty3 rfl rfl (hf32.cell 2 _ rfl)) rfl ?_
        refine WL.y (Y.assign rfl) rfl ?_
        refine WL.nil ?_
        refine At.then ?_
        refine WC.block ?_
        obtain ⟨p37, h, hk39⟩ := flow1 h
        obtain ⟨k38, h⟩ := loop_some h
        refine WC.joinB 0 (σ := UInt64) (fun x w' => p37 = .go x ∧ wd16 = w') (fun x => [(6, vu x)]) ?_ ?_
        · refine WC.loop (σ := (Int × UInt64 × Int)) (fun x k w' => loopN k (bitio_Reader_Look_lp1 a0) (x.1, x.2.1, x.2.2) = some p37 ∧ wd16 = w') (fun x => [(0, .pointer (some ⟨b0, 0, none⟩)), (1, vi x.1), (6, vu x.2.1), (7, vi x.2.2)]) (a1, 0, a0.at_) k38 (.cons rfl (.cons rfl (.cons rfl (.cons rfl .nil)))) ⟨h, rfl⟩ ?_
          rintro ⟨nv33, v34, at35⟩ k38 _ ⟨h, rfl⟩
          obtain ⟨j40, q41, rfl, h, hn42⟩ := rnd1 h
          unfold bitio_Reader_Look_lp1 at h
          try dsimp only at h
          refine (show WC _ _ _ _ [(0, .pointer (some ⟨b0, 0, none⟩)), (1, vi nv33), (6, vu v34), (7, vi at35)] _ from ?_)
          refine WC.seq ?_
          refine WC.seq ?_
          refine WC.region ?_
          refine WL.y (Y.move rfl) rfl ?_
          refine WL.y (Y.gtr_i rfl rfl) rfl ?_
          refine WL.nil ?_
          refine At.then ?_
          rcases cnd h with ⟨hc43, h⟩ | ⟨hc43, h⟩
          · refine WC.condT' rfl hc43 ?_
            refine WC.skip ?_
            refine At.then ?_
            refine WC.block ?_
            refine WC.seq ?_
            refine WC.region ?_
            refine WL.y (Y.move rfl) rfl ?_
            refine WL.y (Y.rem_i (by decide) rfl rfl) rfl ?_
            refine WL.y (Y.sub_i rfl rfl) rfl ?_
            obtain ⟨free44, hfree44, h⟩ := lt1 h
            refine WL.yE (Y.assign rfl) (congrArg vi hfree44.symm) rfl ?_
            refine WL.nil ?_
            refine At.then ?_
            refine WC.seq ?_
            refine WC.region ?_
            refine WL.y (Y.move rfl) rfl ?_
            refine WL.y (Y.move rfl) rfl ?_
            refine WL.y (Y.min_i rfl rfl) rfl ?_
            obtain ⟨k45, hk45, h⟩ := lt1 h
            refine WL.yE (Y.assign rfl) (congrArg vi hk45.symm) rfl ?_
            refine WL.nil ?_
            refine At.then ?_
            refine WC.seq ?_
            refine WC.region ?_
            refine WL.y (Y.move rfl) rfl ?_
            refine WL.y (Y.nilCheck rfl) rfl ?_
            refine WL.y (Y.fieldAddr fo77_0 rfl) rfl ?_
            refine WL.y (Y.loadSc ty30 rfl rfl (hf32.cell 0 _ rfl)) rfl ?_
            refine WL.y (Y.move rfl) rfl ?_
            refine WL.y (Y.quo_i (by decide) rfl rfl) rfl ?_
            obtain ⟨e46, he46, h⟩ := bnd h
            have hf55 := hf11.mono (imm_st hst17 rfl rfl)
            obtain ⟨b47, off56, cap54, cs53, hv48, hi49, hl50, hc51, hok52, hA57⟩ := Sl.at2 hf55 he46
            obtain rfl := hok52
            replace hc51 : CellsAt _ _ _ [vb e46] := hc51
            have hca58 := CAt.imm hc51 hA57
            refine WL.y (Y.indexAddr ty30 ty5 rfl hv48 rfl hi49 hl50) rfl ?_
            refine WL.y (Y.loadSc ty5 rfl rfl hca58.at_) rfl ?_
            refine WL.y (Y.move rfl) rfl ?_
            refine WL.y (Y.move rfl) rfl ?_
            refine WL.y (Y.sub_i rfl rfl) rfl ?_
            refine WL.y (Y.conv_iu ty3.u ty74.u rfl) rfl ?_
            refine WL.y (Y.shr_bu rfl rfl) rfl ?_
            refine WL.y (Y.move rfl) rfl ?_
            refine WL.y (Y.conv_iu ty3.u ty74.u rfl) rfl ?_
            refine WL.y (Y.shl_bu (a := 1) rfl rfl) rfl ?_
            refine WL.y (Y.sub_b (b := 1) rfl rfl) rfl ?_
            refine WL.y (Y.and_b rfl rfl) rfl ?_
            obtain ⟨piece59, hpiece59, h⟩ := lt1 h
            refine WL.yE (Y.assign rfl) (congrArg vb hpiece59.symm) rfl ?_
            refine WL.nil ?_
            refine At.then ?_
            refine WC.seq ?_
            refine WC.region ?_
            refine WL.y (Y.move rfl) rfl ?_
            refine WL.y (Y.move rfl) rfl ?_
            refine WL.y (Y.conv_iu ty3.u ty74.u rfl) rfl ?_
            refine WL.y (Y.shl_uu rfl rfl) rfl ?_
            refine WL.y (Y.move rfl) rfl ?_
            refine WL.y (Y.conv_bu ty5.u ty29.u rfl) rfl ?_
            refine WL.y (Y.or_u rfl rfl) rfl ?_
            obtain ⟨v60, hv60, h⟩ := lt1 h
            refine WL.yE (Y.assign rfl) (congrArg vu hv60.symm) rfl ?_
            refine WL.nil ?_
            refine At.then ?_
            refine WC.seq ?_
            refine WC.region ?_
            refine WL.y (Y.move rfl) rfl ?_
            refine WL.y (Y.move rfl) rfl ?_
            refine WL.y (Y.add_i rfl rfl) rfl ?_
            obtain ⟨at61, hat61, h⟩ := lt1 h
            refine WL.yE (Y.assign rfl) (congrArg vi hat61.symm) rfl ?_
            refine WL.nil ?_
            refine At.then ?_
            refine WC.region ?_
            refine WL.y (Y.move rfl) rfl ?_
            refine WL.y (Y.move rfl) rfl ?_
            refine WL.y (Y.sub_i rfl rfl) rfl ?_
            obtain ⟨nv62, hnv62, h⟩ := lt1 h
            refine WL.yE (Y.assign rfl) (congrArg vi hnv62.symm) rfl ?_
            refine WL.nil ?_
            refine At.inBlock ?_
            exact At.round (nv62, v60, at61) j40 (Nat.lt_succ_self _) ⟨next1 h hn42, rfl⟩ (.cons rfl (.cons rfl (.cons rfl (.cons rfl .nil))))
          · refine WC.condF' rfl hc43 ?_
            refine WC.exit ?_
            refine At.thenX ?_
            refine At.loopX ?_
            exact At.hitB (σ := UInt64) v34 ⟨brk1 h hn42, rfl⟩ (.cons rfl .nil)
        · rintro v36 _ ⟨rfl, rfl⟩
          replace h := flowK_go hk39
          try dsimp only at h
          refine (show At _ _ _ [(6, vu v36)] _ from ?_)
          refine At.inBlockHit ?_
          refine At.then ?_
          refine WC.seq ?_
          refine WC.region ?_
          refine WL.y (Y.move rfl) rfl ?_
          refine WL.y (Y.assign rfl) rfl ?_
          refine WL.y (Y.assign rfl) rfl ?_
          refine WL.nil ?_
          refine At.then ?_
          refine WC.ret ?_
          obtain ⟨rfl, rfl⟩ := tup2 h
          have hs63 : Stp [] (Lg.O0 A) w O15 wd16 := (Stp.up hst17 rfl)
          exact At.res (.inl rfl) rfl (.tmp rfl (.tmp rfl .nil)) ⟨rfl, (Stp.ext hs63 rfl rfl)⟩

theorem c_vary_wide {A : Nat → Prop} {v0_0 : Value} {a0 : bitio_Reader} {b0 : Nat} {a1 : Int} {w : World} (hs0_0 : Sl Rep.b w A v0_0 a0.b) (hb0 : w.heap[b0]? = some (.cells (List.toArray [v0_0, vi a0.n, vi a0.at_]) 77 (0, 0))) (hm0 : A b0) {r0 : UInt64} (h : vary_wide a0 a1 = some r0) : Rets Try.prog 54 [.pointer (some ⟨b0, 0, none⟩), vi a1] w (fun v w' => v = vu r0 ∧ Ext w w') := by
  unfold vary_wide at h
  refine Rets.enter Try.func54 rfl rfl ?_
  have hf11 : Sl Rep.b w (imm (Lg.O0 A)) v0_0 a0.b := (Sl.start hs0_0)
  have hb12 : Blk 0 (Lg.O0 A) w b0 77 [v0_0, vi a0.n, vi a0.at_] := ⟨(if_pos hm0), hb0⟩
  refine (show WC _ _ _ _ [(0, .pointer (some ⟨b0, 0, none⟩)), (1, vi a1)] _ from ?_)
  refine WC.seq ?_
  refine WC.region ?_
  refine WL.y (Y.assign (v := vu 0) rfl) rfl ?_
  refine WL.nil ?_
  refine At.then ?_
  refine WC.seq ?_
  refine WC.region ?_
  refine WL.y (Y.move rfl) rfl ?_
  obtain ⟨⟨r13, r14⟩, hp15, h⟩ := bnd h
  refine WL.call (vals := [.pointer (some ⟨b0, 0, none⟩), vi 64]) kok23 rfl rfl (c_bitio_Reader_Look (A := fun _ => True) (a0 := a0) (Sl.all hf11) hb12.blk trivial hp15) ?_
  rintro vr18 wd17 ⟨rfl, hm16⟩
  obtain ⟨O19, hold20, hnew21, hst22⟩ := adoptE (Lg.O0 A) (fun k => 1) hm16
  refine WL.y (Y.move rfl) rfl ?_
  refine WL.y (Y.extract rfl rfl) rfl ?_
  refine WL.y (Y.extract rfl rfl) rfl ?_
  refine WL.y (Y.assign rfl) rfl ?_
  refine WL.y (Y.assign rfl) rfl ?_
  refine WL.nil ?_
  refine At.then ?_
  refine WC.seq ?_
  refine WC.region ?_
  refine WL.y (Y.move rfl) rfl ?_
  refine WL.y (Y.nilCheck rfl) rfl ?_
  have hf23 := hb12.st hst22 rfl
  refine WL.y (Y.loadAg ty77 rfl rfl (hf23.cells 0 [v0_0, vi a0.n, vi a0.at_] rfl) rfl) rfl ?_
  refine WL.alloc (O := O19) 11 [.slice none 0 0, vi 0, vi 0] ty77 rfl rfl ?_
  intro p25 O26 wd27 hst28 hb24
  have hf29 := hf11.mono (imm_st hst22 rfl rfl)
  have hf30 := hf29.mono (imm_st hst28 rfl rfl)
  have hh34 := h
  obtain ⟨p31, m32, c33, rfl⟩ := hf30.shape
  have h := hh34
  refine WL.store (v := .agg [(.slice p31 m32 c33), vi a0.n, vi a0.at_].toArray) (cells' := [(.slice p31 m32 c33), vi a0.n, vi a0.at_]) ty77 rfl rfl hb24 rfl (Nat.le_of_ble_eq_true rfl) rfl rfl ?_
  intro wd35 hst36 hb37
  refine WL.nil ?_
  refine At.then ?_
  refine WC.seq ?_
  refine WC.region ?_
  have hf38 := hf30.mono (imm_st hst36 rfl rfl)
  obtain ⟨⟨r39, r40⟩, hp41, h⟩ := bnd h
  refine WL.call (vals := [.pointer (some ⟨p25, 0, none⟩), vi 64]) kok22 rfl rfl (c_bitio_Reader_Skip (A := imm O26) (a0 := a0) hf38 hb37.blk (fun k hk => imm_ne hb37.lab rfl k hk) hp41) ?_
  rintro vr47 wd46 ⟨z42, rfl, hm45, f43, f44⟩
  obtain ⟨O48, hold49, hnew50, hst51⟩ := adopt O26 (fun k => 1) [11] hm45 (memB hb37.lab rfl)
  have hf52 : Sl Rep.b wd46 (imm O48) z42 r40.b := Sl.adoptI (O := O26) f43 (fun _ hk => hk) (fun _ _ => Nat.le_refl _) hold49 hnew50
  have hb53 : Blk 11 O48 wd46 p25 77 [z42, vi r40.n, vi r40.at_] := Blk.adopt hb37 hold49 f44
  refine WL.nil ?_
  refine At.then ?_
  refine WC.seq ?_
  refine WC.region ?_
  refine WL.y (Y.move rfl) rfl ?_
  obtain ⟨⟨r54, r55⟩, hp56, h⟩ := bnd h
  refine WL.call (vals := [.pointer (some ⟨p25, 0, none⟩), vi a1]) kok23 rfl rfl (c_bitio_Reader_Look (A := fun _ => True) (a0 := r40) (Sl.all hf52) hb53.blk trivial hp56) ?_
  rintro vr59 wd58 ⟨rfl, hm57⟩
  obtain ⟨O60, hold61, hnew62, hst63⟩ := adoptE O48 (fun k => 1) hm57
  refine WL.y (Y.move rfl) rfl ?_
  refine WL.y (Y.extract rfl rfl) rfl ?_
  refine WL.y (Y.extract rfl rfl) rfl ?_
  refine WL.y (Y.assign rfl) rfl ?_
  refine WL.y (Y.assign rfl) rfl ?_
  refine WL.nil ?_
  refine At.then ?_
  refine WC.seq ?_
  refine WC.region ?_
  refine WL.y (Y.move rfl) rfl ?_
  refine WL.y (Y.move rfl) rfl ?_
  refine WL.y (Y.conv_iu ty3.u ty74.u rfl) rfl ?_
  refine WL.y (Y.shl_uu rfl rfl) rfl ?_
  refine WL.y (Y.move rfl) rfl ?_
  refine WL.y (Y.or_u rfl rfl) rfl ?_
  obtain ⟨t64, ht64, h⟩ := lt1 h
  refine WL.yE (Y.assign rfl) (congrArg vu ht64.symm) rfl ?_
  refine WL.nil ?_
  refine At.then ?_
  refine WC.ret ?_
  obtain rfl := some1 h
  have hs65 : Stp [11] (Lg.O0 A) w O60 wd58 := (Stp.trans (Stp.up hst22 rfl) (Stp.trans (Stp.up hst28 rfl) (Stp.trans (Stp.up hst36 rfl) (Stp.trans (Stp.up hst51 rfl) (Stp.up hst63 rfl)))))
  exact At.res (.inl rfl) rfl (.tmp rfl .nil) ⟨rfl, (Stp.ext hs65 rfl rfl)⟩

theorem c_vary_Get {A : Nat → Prop} {v0_0 : Value} {a0 : bitio_Reader} {b0 : Nat} {w : World} (hs0_0 : Sl Rep.b w A v0_0 a0.b) (hb0 : w.heap[b0]? = some (.cells (List.toArray [v0_0, vi a0.n, vi a0.at_]) 77 (0, 0))) (hA : ∀ k, A k → k ≠ b0) {r0 : UInt64} {r1 : Int} {q0 : bitio_Reader} (h : vary_Get a0 = some (r0, r1, q0)) : Rets Try.prog 38 [.pointer (some ⟨b0, 0, none⟩)] w (fun v w' => ∃ (z0_0 : Value), v = .tuple (List.toArray [vu r0, vi r1]) ∧ Mod (fun k => k = b0) w w' ∧ Sl Rep.b w' (fun k => A k ∨ w.heap.size ≤ k) z0_0 q0.b ∧ w'.heap[b0]? = some (.cells (List.toArray [z0_0, vi q0.n, vi q0.at_]) 77 (0, 0))) := by
  unfold vary_Get at h
  refine Rets.enter Try.func38 rfl rfl ?_
  have hf11 : Sl Rep.b w (imm (Lg.OB b0 3 (Lg.O0 A))) v0_0 a0.b := (Sl.OB (Sl.start hs0_0) (fun k hk => (hA k (O0_A k hk))))
  have hb12 : Blk 3 (Lg.OB b0 3 (Lg.O0 A)) w b0 77 [v0_0, vi a0.n, vi a0.at_] := ⟨(if_pos rfl), hb0⟩
  refine (show WC _ _ _ _ [(0, .pointer (some ⟨b0, 0, none⟩))] _ from ?_)
  refine WC.seq ?_
  refine WC.region ?_
  refine WL.y (Y.assign (v := vu 0) rfl) rfl ?_
  refine WL.y (Y.assign rfl) rfl ?_
  refine WL.nil ?_
  refine At.then ?_
  refine WC.seq ?_
  refine WC.region ?_
  refine WL.y (Y.move rfl) rfl ?_
  obtain ⟨⟨r13, r14⟩, hp15, h⟩ := bnd h
  refine WL.call (vals := [.pointer (some ⟨b0, 0, none⟩), vi 2]) kok23 rfl rfl (c_bitio_Reader_Look (A := fun _ => True) (a0 := a0) (Sl.all hf11) hb12.blk trivial hp15) ?_
  rintro vr18 wd17 ⟨rfl, hm16⟩
  obtain ⟨O19, hold20, hnew21, hst22⟩ := adoptE (Lg.OB b0 3 (Lg.O0 A)) (fun k => 1) hm16
  refine WL.y (Y.move rfl) rfl ?_
  refine WL.y (Y.extract rfl rfl) rfl ?_
  refine WL.y (Y.extract rfl rfl) rfl ?_
  refine WL.y (Y.assign rfl) rfl ?_
  refine WL.y (Y.assign rfl) rfl ?_
  refine WL.nil ?_
  refine At.then ?_
  refine WC.seq ?_
  refine WC.seq ?_
  refine WC.region ?_
  refine WL.y (Y.move rfl) rfl ?_
  refine WL.y (Y.not rfl) rfl ?_
  refine WL.nil ?_
  refine At.then ?_
  rcases cnd h with ⟨hc23, h⟩ | ⟨hc23, h⟩
  · refine WC.condT' rfl hc23 ?_
    refine WC.seq ?_
    refine WC.region ?_
    refine WL.y (Y.assign (v := vu 0) rfl) rfl ?_
    refine WL.y (Y.assign rfl) rfl ?_
    refine WL.nil ?_
    refine At.then ?_
    refine WC.ret ?_
    refine At.thenR ?_
    obtain ⟨rfl, rfl, rfl⟩ := tup3 h
    have hs24 : Stp [] (Lg.OB b0 3 (Lg.O0 A)) w O19 wd17 := (Stp.up hst22 rfl)
    have hf25 := hb12.st hst22 rfl
    have hf26 := hf11.mono (imm_st hst22 rfl rfl)
    exact At.res (.inl rfl) rfl (.tmp rfl (.tmp rfl .nil)) ⟨v0_0, rfl, (Stp.modL hs24 sB1 rfl rfl), (Sl.outI hf26 hs24 (lowB low0 rfl rfl) (aB O0_A rfl)), hf25.blk⟩
  · refine WC.condF' rfl hc23 ?_
    refine WC.skip ?_
    refine At.then ?_
    refine WC.seq ?_
    refine WC.region ?_
    obtain ⟨r27, hp28, h⟩ := bnd h
    refine WL.call (vals := []) kok49 rfl rfl (c_vary_sizes hp28) ?_
    rintro vr34 wd33 ⟨cs29, rfl, hm32, f30, f31⟩
    obtain ⟨O35, hold36, hnew37, hst38⟩ := adoptE O19 (fun k => 1) hm32
    have hf39 := Rows'.adoptF f30 (fun k hk => ⟨hk, rfl⟩) hnew37
    refine WL.y (Y.move rfl) rfl ?_
    obtain ⟨e40, he40, h⟩ := bnd h
    obtain ⟨cs41, hcs42, hok43⟩ := arrAt (R := Rep.i) (w := wd33) (A := imm O35) (cells := cs29) hf39 he40
    obtain rfl := hok43
    replace hcs42 : _ = [vi e40] := hcs42
    refine WL.y (Y.indexArrSc ty78 ty3 rfl rfl hcs42 he40 f31) rfl ?_
    refine WL.y (Y.assign rfl) rfl ?_
    refine WL.nil ?_
    refine At.then ?_
    refine WC.seq ?_
    refine WC.seq ?_
    refine WC.region ?_
    refine WL.y (Y.move rfl) rfl ?_
    refine WL.y (Y.add_i rfl rfl) rfl ?_
    refine WL.y (Y.move rfl) rfl ?_
    have hf44 := hb12.st hst22 rfl
    have hf45 := hf44.st hst38 rfl
    have hf46 := hf11.mono (imm_st hst22 rfl rfl)
    have hf47 := hf46.mono (imm_st hst38 rfl rfl)
    obtain ⟨r48, hp49, h⟩ := bnd h
    refine WL.call (vals := [.pointer (some ⟨b0, 0, none⟩)]) kok18 rfl rfl (c_bitio_Reader_Left (A := fun _ => True) (a0 := a0) (Sl.all hf47) hf45.blk trivial hp49) ?_
    rintro vr52 wd51 ⟨rfl, hm50⟩
    obtain ⟨O53, hold54, hnew55, hst56⟩ := adoptE O35 (fun k => 1) hm50
    refine WL.y (Y.gtr_i rfl rfl) rfl ?_
    refine WL.nil ?_
    refine At.then ?_
    rcases cnd h with ⟨hc57, h⟩ | ⟨hc57, h⟩
    · refine WC.condT' rfl hc57 ?_
      refine WC.seq ?_
      refine WC.region ?_
      refine WL.y (Y.assign (v := vu 0) rfl) rfl ?_
      refine WL.y (Y.assign rfl) rfl ?_
      refine WL.nil ?_
      refine At.then ?_
      refine WC.ret ?_
      refine At.thenR ?_
      obtain ⟨rfl, rfl, rfl⟩ := tup3 h
      have hs58 : Stp [] (Lg.OB b0 3 (Lg.O0 A)) w O53 wd51 := (Stp.trans (Stp.up hst22 rfl) (Stp.trans (Stp.up hst38 rfl) (Stp.up hst56 rfl)))
      have hf59 := hf45.st hst56 rfl
      have hf60 := hf47.mono (imm_st hst56 rfl rfl)
      exact At.res (.inl rfl) rfl (.tmp rfl (.tmp rfl .nil)) ⟨v0_0, rfl, (Stp.modL hs58 sB1 rfl rfl), (Sl.outI hf60 hs58 (lowB low0 rfl rfl) (aB O0_A rfl)), hf59.blk⟩
    · refine WC.condF' rfl hc57 ?_
      refine WC.skip ?_
      refine At.then ?_
      refine WC.seq ?_
      refine WC.region ?_
      refine WL.y (Y.move rfl) rfl ?_
      refine WL.y (Y.move rfl) rfl ?_
      refine WL.y (Y.add_i rfl rfl) rfl ?_
      refine WL.y (Y.min_i rfl rfl) rfl ?_
      have hf61 := hf45.st hst56 rfl
      have hf62 := hf47.mono (imm_st hst56 rfl rfl)
      obtain ⟨⟨r63, r64⟩, hp65, h⟩ := bnd h
      refine WL.call (vals := [.pointer (some ⟨b0, 0, none⟩), vi (min (w64 (2 + e40)) 64)]) kok23 rfl rfl (c_bitio_Reader_Look (A := fun _ => True) (a0 := a0) (Sl.all hf62) hf61.blk trivial hp65) ?_
      rintro vr68 wd67 ⟨rfl, hm66⟩
      obtain ⟨O69, hold70, hnew71, hst72⟩ := adoptE O53 (fun k => 1) hm66
      refine WL.y (Y.move rfl) rfl ?_
      refine WL.y (Y.extract rfl rfl) rfl ?_
      refine WL.y (Y.extract rfl rfl) rfl ?_
      refine WL.y (Y.assign rfl) rfl ?_
      refine WL.y (Y.assign rfl) rfl ?_
      refine WL.nil ?_
      refine At.then ?_
      refine WC.seq ?_
      obtain ⟨p77, h, hk78⟩ := bnd h
      refine WC.join (σ := (UInt64 × Own)) (fun x w' => x.1 = p77 ∧ Stp [] O69 wd67 x.2 w') (fun x => [(0, .pointer (some ⟨b0, 0, none⟩)), (4, vu r13), (6, vi e40), (7, vu x.1)]) ?_ ?_
      · refine WC.seq ?_
        refine WC.region ?_
        refine WL.y (Y.move rfl) rfl ?_
        refine WL.y (Y.lss_i rfl rfl) rfl ?_
        refine WL.nil ?_
        refine At.then ?_
        rcases cnd h with ⟨hc79, h⟩ | ⟨hc79, h⟩
        · refine WC.condT' rfl hc79 ?_
          refine WC.region ?_
          refine WL.y (Y.move rfl) rfl ?_
          refine WL.y (Y.move rfl) rfl ?_
          refine WL.y (Y.conv_iu ty3.u ty74.u rfl) rfl ?_
          refine WL.y (Y.shl_uu (a := 1) rfl rfl) rfl ?_
          refine WL.y (Y.sub_u (b := 1) rfl rfl) rfl ?_
          refine WL.y (Y.and_u rfl rfl) rfl ?_
          obtain ⟨v80, hv80, h⟩ := lt1 h
          refine WL.yE (Y.assign rfl) (congrArg vu hv80.symm) rfl ?_
          refine WL.nil ?_
          exact At.join (σ := (UInt64 × Own)) (v80, O69) ⟨some1 h, (Stp.refl _ _ _)⟩ (.cons rfl (.cons rfl (.cons rfl (.cons rfl .nil))))
        · refine WC.condF' rfl hc79 ?_
          refine WC.region ?_
          refine WL.y (Y.move rfl) rfl ?_
          have hf81 := hf61.st hst72 rfl
          have hf82 := hf62.mono (imm_st hst72 rfl rfl)
          obtain ⟨r83, hp84, h⟩ := bnd h
          refine WL.call (vals := [.pointer (some ⟨b0, 0, none⟩), vi 2]) kok54 rfl rfl (c_vary_wide (A := fun _ => True) (a0 := a0) (Sl.all hf82) hf81.blk trivial hp84) ?_
          rintro vr87 wd86 ⟨rfl, hm85⟩
          obtain ⟨O88, hold89, hnew90, hst91⟩ := adoptE O69 (fun k => 1) hm85
          refine WL.y (Y.assign rfl) rfl ?_
          refine WL.nil ?_
          exact At.join (σ := (UInt64 × Own)) (r83, O88) ⟨some1 h, (Stp.up hst91 rfl)⟩ (.cons rfl (.cons rfl (.cons rfl (.cons rfl .nil))))
      · rintro ⟨v73, O74⟩ wd75 ⟨rfl, hst76⟩
        replace h := hk78
        try dsimp only at h hst76
        refine (show At _ _ _ [(0, .pointer (some ⟨b0, 0, none⟩)), (4, vu r13), (6, vi e40), (7, vu v73)] _ from ?_)
        refine At.then ?_
        refine WC.seq ?_
        refine WC.seq ?_
        refine WC.region ?_
        refine WL.y (Y.move rfl) rfl ?_
        obtain ⟨r92, hp93, h⟩ := bnd h
        refine WL.call (vals := [vu v73]) kok48 rfl rfl (c_vary_class hp93) ?_
        rintro vr96 wd95 ⟨rfl, hm94⟩
        obtain ⟨O97, hold98, hnew99, hst100⟩ := adoptE O74 (fun k => 1) hm94
        refine WL.y (Y.move rfl) rfl ?_
        refine WL.y (Y.conv_ui ty29.u ty3.u rfl) rfl ?_
        refine WL.y (Y.neq_i rfl rfl) rfl ?_
        refine WL.nil ?_
        refine At.then ?_
        rcases cnd h with ⟨hc101, h⟩ | ⟨hc101, h⟩
        · refine WC.condT' rfl hc101 ?_
          refine WC.seq ?_
          refine WC.region ?_
          refine WL.y (Y.assign (v := vu 0) rfl) rfl ?_
          refine WL.y (Y.assign rfl) rfl ?_
          refine WL.nil ?_
          refine At.then ?_
          refine WC.ret ?_
          refine At.thenR ?_
          obtain ⟨rfl, rfl, rfl⟩ := tup3 h
          have hs102 : Stp [] (Lg.OB b0 3 (Lg.O0 A)) w O97 wd95 := (Stp.trans (Stp.up hst22 rfl) (Stp.trans (Stp.up hst38 rfl) (Stp.trans (Stp.up hst56 rfl) (Stp.trans (Stp.up hst72 rfl) (Stp.trans (Stp.up hst76 rfl) (Stp.up hst100 rfl))))))
          have hf103 := hf61.st hst72 rfl
          have hf104 := hf103.st hst76 rfl
          have hf105 := hf104.st hst100 rfl
          have hf106 := hf62.mono (imm_st hst72 rfl rfl)
          have hf107 := hf106.mono (imm_st hst76 rfl rfl)
          have hf108 := hf107.mono (imm_st hst100 rfl rfl)
          exact At.res (.inl rfl) rfl (.tmp rfl (.tmp rfl .nil)) ⟨v0_0, rfl, (Stp.modL hs102 sB1 rfl rfl), (Sl.outI hf108 hs102 (lowB low0 rfl rfl) (aB O0_A rfl)), hf105.blk⟩
        · refine WC.condF' rfl hc101 ?_
          refine WC.skip ?_
          refine At.then ?_
          refine WC.seq ?_
          refine WC.region ?_
          refine WL.y (Y.move rfl) rfl ?_
          refine WL.y (Y.move rfl) rfl ?_
          refine WL.y (Y.add_i rfl rfl) rfl ?_
          have hf109 := hf61.st hst72 rfl
          have hf110 := hf109.st hst76 rfl
          have hf111 := hf110.st hst100 rfl
          have hf112 := hf62.mono (imm_st hst72 rfl rfl)
          have hf113 := hf112.mono (imm_st hst76 rfl rfl)
          have hf114 := hf113.mono (imm_st hst100 rfl rfl)
          obtain ⟨⟨r115, r116⟩, hp117, h⟩ := bnd h
          refine WL.call (vals := [.pointer (some ⟨b0, 0, none⟩), vi (w64 (2 + e40))]) kok22 rfl rfl (c_bitio_Reader_Skip (A := imm O97) (a0 := a0) hf114 hf111.blk (fun k hk => imm_ne hf111.lab rfl k hk) hp117) ?_
          rintro vr123 wd122 ⟨z118, rfl, hm121, f119, f120⟩
          obtain ⟨O124, hold125, hnew126, hst127⟩ := adopt O97 (fun k => 1) [3] hm121 (memB hf111.lab rfl)
          have hf128 : Sl Rep.b wd122 (imm O124) z118 r116.b := Sl.adoptI (O := O97) f119 (fun _ hk => hk) (fun _ _ => Nat.le_refl _) hold125 hnew126
          have hb129 : Blk 3 O124 wd122 b0 77 [z118, vi r116.n, vi r116.at_] := Blk.adopt hf111 hold125 f120
          refine WL.nil ?_
          refine At.then ?_
          refine WC.seq ?_
          refine WC.region ?_
          refine WL.y (Y.move rfl) rfl ?_
          refine WL.y (Y.assign rfl) rfl ?_
          refine WL.y (Y.assign rfl) rfl ?_
          refine WL.nil ?_
          refine At.then ?_
          refine WC.ret ?_
          obtain ⟨rfl, rfl, rfl⟩ := tup3 h
          have hs130 : Stp [3] (Lg.OB b0 3 (Lg.O0 A)) w O124 wd122 := (Stp.trans (Stp.up hst22 rfl) (Stp.trans (Stp.up hst38 rfl) (Stp.trans (Stp.up hst56 rfl) (Stp.trans (Stp.up hst72 rfl) (Stp.trans (Stp.up hst76 rfl) (Stp.trans (Stp.up hst100 rfl) (Stp.up hst127 rfl)))))))
          exact At.res (.inl rfl) rfl (.tmp rfl (.tmp rfl .nil)) ⟨z118, rfl, (Stp.modL hs130 sB1 rfl rfl), (Sl.outI hf128 hs130 (lowB low0 rfl rfl) (aB O0_A rfl)), hb129.blk⟩

theorem c_pack_Zag {a0 : UInt64} {w : World} {r0 : Int} (h : pack_Zag a0 = some r0) : Rets Try.prog 53 [vu a0] w (fun v w' => v = vi r0 ∧ Ext w w') := by
  unfold pack_Zag at h
  refine Rets.enter Try.func53 rfl rfl ?_
  refine (show WC _ _ _ _ [(0, vu a0)] _ from ?_)
  refine WC.seq ?_
  refine WC.region ?_
  refine WL.y (Y.assign rfl) rfl ?_
  refine WL.nil ?_
  refine At.then ?_
  refine WC.seq ?_
  refine WC.region ?_
  refine WL.y (Y.move rfl) rfl ?_
  refine WL.y (Y.shr_uu (m := 1) rfl rfl) rfl ?_
  refine WL.y (Y.conv_ui ty29.u ty3.u rfl) rfl ?_
  refine WL.y (Y.move rfl) rfl ?_
  refine WL.y (Y.and_u (b := 1) rfl rfl) rfl ?_
  refine WL.y (Y.conv_ui ty29.u ty3.u rfl) rfl ?_
  refine WL.y (Y.neg_i rfl) rfl ?_
  refine WL.y (Y.xor_i rfl rfl) rfl ?_
  obtain ⟨t11, ht11, h⟩ := lt1 h
  refine WL.yE (Y.assign rfl) (congrArg vi ht11.symm) rfl ?_
  refine WL.nil ?_
  refine At.then ?_
  refine WC.ret ?_
  obtain rfl := some1 h
  have hs12 : Stp [] (Lg.O0 (fun _ => False)) w (Lg.O0 (fun _ => False)) w := (Stp.refl _ _ _)
  exact At.res (.inl rfl) rfl (.tmp rfl .nil) ⟨rfl, (Stp.ext hs12 rfl rfl)⟩

theorem c_vary_GetInt {A : Nat → Prop} {v0_0 : Value} {a0 : bitio_Reader} {b0 : Nat} {w : World} (hs0_0 : Sl Rep.b w A v0_0 a0.b) (hb0 : w.heap[b0]? = some (.cells (List.toArray [v0_0, vi a0.n, vi a0.at_]) 77 (0, 0))) (hA : ∀ k, A k → k ≠ b0) {r0 : Int} {r1 : Int} {q0 : bitio_Reader} (h : vary_GetInt a0 = some (r0, r1, q0)) : Rets Try.prog 36 [.pointer (some ⟨b0, 0, none⟩)] w (fun v w' => ∃ (z0_0 : Value), v = .tuple (List.toArray [vi r0, vi r1]) ∧ Mod (fun k => k = b0) w w' ∧ Sl Rep.b w' (fun k => A k ∨ w.heap.size ≤ k) z0_0 q0.b ∧ w'.heap[b0]? = some (.cells (List.toArray [z0_0, vi q0.n, vi q0.at_]) 77 (0, 0))) := by
  unfold vary_GetInt at h
  refine Rets.enter Try.func36 rfl rfl ?_
  have hf11 : Sl Rep.b w (imm (Lg.OB b0 3 (Lg.O0 A))) v0_0 a0.b := (Sl.OB (Sl.start hs0_0) (fun k hk => (hA k (O0_A k hk))))
  have hb12 : Blk 3 (Lg.OB b0 3 (Lg.O0 A)) w b0 77 [v0_0, vi a0.n, vi a0.at_] := ⟨(if_pos rfl), hb0⟩
  refine (show WC _ _ _ _ [(0, .pointer (some ⟨b0, 0, none⟩))] _ from ?_)
  refine WC.seq ?_
  refine WC.region ?_
  refine WL.y (Y.assign rfl) rfl ?_
  refine WL.y (Y.assign rfl) rfl ?_
  refine WL.nil ?_
  refine At.then ?_
  refine WC.seq ?_
  refine WC.region ?_
  refine WL.y (Y.move rfl) rfl ?_
  obtain ⟨⟨r13, r14, r15⟩, hp16, h⟩ := bnd h
  refine WL.call (vals := [.pointer (some ⟨b0, 0, none⟩)]) kok38 rfl rfl (c_vary_Get (A := imm (Lg.OB b0 3 (Lg.O0 A))) (a0 := a0) hf11 hb12.blk (fun k hk => imm_ne hb12.lab rfl k hk) hp16) ?_
  rintro vr22 wd21 ⟨z17, rfl, hm20, f18, f19⟩
  obtain ⟨O23, hold24, hnew25, hst26⟩ := adopt (Lg.OB b0 3 (Lg.O0 A)) (fun k => 1) [3] hm20 (memB hb12.lab rfl)
  have hf27 : Sl Rep.b wd21 (imm O23) z17 r15.b := Sl.adoptI (O := (Lg.OB b0 3 (Lg.O0 A))) f18 (fun _ hk => hk) (fun _ _ => Nat.le_refl _) hold24 hnew25
  have hb28 : Blk 3 O23 wd21 b0 77 [z17, vi r15.n, vi r15.at_] := Blk.adopt hb12 hold24 f19
  refine WL.y (Y.move rfl) rfl ?_
  refine WL.y (Y.extract rfl rfl) rfl ?_
  refine WL.y (Y.extract rfl rfl) rfl ?_
  refine WL.y (Y.assign rfl) rfl ?_
  refine WL.y (Y.assign rfl) rfl ?_
  refine WL.nil ?_
  refine At.then ?_
  refine WC.seq ?_
  refine WC.region ?_
  refine WL.y (Y.move rfl) rfl ?_
  obtain ⟨r29, hp30, h⟩ := bnd h
  refine WL.call (vals := [vu r13]) kok53 rfl rfl (c_pack_Zag hp30) ?_
  rintro vr33 wd32 ⟨rfl, hm31⟩
  obtain ⟨O34, hold35, hnew36, hst37⟩ := adoptE O23 (fun k => 1) hm31
  refine WL.y (Y.move rfl) rfl ?_
  refine WL.y (Y.assign rfl) rfl ?_
  refine WL.y (Y.assign rfl) rfl ?_
  refine WL.nil ?_
  refine At.then ?_
  refine WC.ret ?_
  obtain ⟨rfl, rfl, rfl⟩ := tup3 h
  have hs38 : Stp [3] (Lg.OB b0 3 (Lg.O0 A)) w O34 wd32 := (Stp.trans (Stp.up hst26 rfl) (Stp.up hst37 rfl))
  have hf39 := hb28.st hst37 rfl
  have hf40 := hf27.mono (imm_st hst37 rfl rfl)
  exact At.res (.inl rfl) rfl (.tmp rfl (.tmp rfl .nil)) ⟨z17, rfl, (Stp.modL hs38 sB1 rfl rfl), (Sl.outI hf40 hs38 (lowB low0 rfl rfl) (aB O0_A rfl)), hf39.blk⟩

theorem c_bitio_Reader_Take {A : Nat → Prop} {v0_0 : Value} {a0 : bitio_Reader} {b0 : Nat} {a1 : Int} {w : World} (hs0_0 : Sl Rep.b w A v0_0 a0.b) (hb0 : w.heap[b0]? = some (.cells (List.toArray [v0_0, vi a0.n, vi a0.at_]) 77 (0, 0))) (hA : ∀ k, A k → k ≠ b0) {r0 : UInt64} {r1 : Bool} {q0 : bitio_Reader} (h : bitio_Reader_Take a0 a1 = some (r0, r1, q0)) : Rets Try.prog 17 [.pointer (some ⟨b0, 0, none⟩), vi a1] w (fun v w' => ∃ (z0_0 : Value), v = .tuple (List.toArray [vu r0, .bool r1]) ∧ Mod (fun k => k = b0) w w' ∧ Sl Rep.b w' (fun k => A k ∨ w.heap.size ≤ k) z0_0 q0.b ∧ w'.heap[b0]? = some (.cells (List.toArray [z0_0, vi q0.n, vi q0.at_]) 77 (0, 0))) := by
  unfold bitio_Reader_Take at h
  refine Rets.enter Try.func17 rfl rfl ?_
  have hf11 : Sl Rep.b w (imm (Lg.OB b0 3 (Lg.O0 A))) v0_0 a0.b := (Sl.OB (Sl.start hs0_0) (fun k hk => (hA k (O0_A k hk))))
  have hb12 : Blk 3 (Lg.OB b0 3 (Lg.O0 A)) w b0 77 [v0_0, vi a0.n, vi a0.at_] := ⟨(if_pos rfl), hb0⟩
  refine (show WC _ _ _ _ [(0, .pointer (some ⟨b0, 0, none⟩)), (1, vi a1)] _ from ?_)
  refine WC.seq ?_
  refine WC.region ?_
  refine WL.y (Y.assign (v := vu 0) rfl) rfl ?_
  refine WL.y (Y.assign rfl) rfl ?_
  refine WL.nil ?_
  refine At.then ?_
  refine WC.seq ?_
  refine WC.region ?_
  refine WL.y (Y.move rfl) rfl ?_
  refine WL.y (Y.move rfl) rfl ?_
  obtain ⟨⟨r13, r14⟩, hp15, h⟩ := bnd h
  refine WL.call (vals := [.pointer (some ⟨b0, 0, none⟩), vi a1]) kok23 rfl rfl (c_bitio_Reader_Look (A := fun _ => True) (a0 := a0) (Sl.all hf11) hb12.blk trivial hp15) ?_
  rintro vr18 wd17 ⟨rfl, hm16⟩
  obtain ⟨O19, hold20, hnew21, hst22⟩ := adoptE (Lg.OB b0 3 (Lg.O0 A)) (fun k => 1) hm16
  refine WL.y (Y.move rfl) rfl ?_
  refine WL.y (Y.extract rfl rfl) rfl ?_
  refine WL.y (Y.extract rfl rfl) rfl ?_
  refine WL.y (Y.assign rfl) rfl ?_
  refine WL.y (Y.assign rfl) rfl ?_
  refine WL.nil ?_
  refine At.then ?_
  refine WC.seq ?_
  refine WC.seq ?_
  refine WC.region ?_
  refine WL.y (Y.move rfl) rfl ?_
  refine WL.nil ?_
  refine At.then ?_
  rcases cnd h with ⟨hc23, h⟩ | ⟨hc23, h⟩
  · refine WC.condT' rfl hc23 ?_
    refine WC.region ?_
    refine WL.y (Y.move rfl) rfl ?_
    refine WL.y (Y.nilCheck rfl) rfl ?_
    refine WL.y (Y.fieldAddr fo77_2 rfl) rfl ?_
    have hf24 := hb12.st hst22 rfl
    refine WL.y (Y.loadSc ty3 rfl rfl (hf24.cell 2 _ rfl)) rfl ?_
    refine WL.y (Y.move rfl) rfl ?_
    refine WL.y (Y.add_i rfl rfl) rfl ?_
    refine WL.y (Y.nilCheck rfl) rfl ?_
    refine WL.y (Y.fieldAddr fo77_2 rfl) rfl ?_
    obtain ⟨t25, ht25, h⟩ := lt1 h
    refine WL.ren 20 rfl (congrArg vi ht25.symm) ?_
    refine WL.store (v := vi t25) (cells' := [v0_0, vi a0.n, vi t25]) ty3 rfl rfl hf24 rfl (Nat.le_of_ble_eq_true rfl) rfl rfl ?_
    intro wd26 hst27 hb28
    refine WL.nil ?_
    refine At.then ?_
    refine WC.seq ?_
    refine WC.region ?_
    refine WL.y (Y.move rfl) rfl ?_
    refine WL.y (Y.move rfl) rfl ?_
    refine WL.y (Y.assign rfl) rfl ?_
    refine WL.y (Y.assign rfl) rfl ?_
    refine WL.nil ?_
    refine At.then ?_
    refine WC.ret ?_
    obtain ⟨rfl, rfl, rfl⟩ := tup3 h
    have hs29 : Stp [3] (Lg.OB b0 3 (Lg.O0 A)) w O19 wd26 := (Stp.trans (Stp.up hst22 rfl) (Stp.up hst27 rfl))
    have hf30 := hf11.mono (imm_st hst22 rfl rfl)
    have hf31 := hf30.mono (imm_st hst27 rfl rfl)
    exact At.res (.inl rfl) rfl (.tmp rfl (.tmp rfl .nil)) ⟨v0_0, rfl, (Stp.modL hs29 sB1 rfl rfl), (Sl.outI hf31 hs29 (lowB low0 rfl rfl) (aB O0_A rfl)), hb28.blk⟩
  · refine WC.condF' rfl hc23 ?_
    refine WC.skip ?_
    refine At.then ?_
    refine WC.seq ?_
    refine WC.region ?_
    refine WL.y (Y.move rfl) rfl ?_
    refine WL.y (Y.move rfl) rfl ?_
    refine WL.y (Y.assign rfl) rfl ?_
    refine WL.y (Y.assign rfl) rfl ?_
    refine WL.nil ?_
    refine At.then ?_
    refine WC.ret ?_
    obtain ⟨rfl, rfl, rfl⟩ := tup3 h
    have hs32 : Stp [] (Lg.OB b0 3 (Lg.O0 A)) w O19 wd17 := (Stp.up hst22 rfl)
    have hf33 := hb12.st hst22 rfl
    have hf34 := hf11.mono (imm_st hst22 rfl rfl)
    exact At.res (.inl rfl) rfl (.tmp rfl (.tmp rfl .nil)) ⟨v0_0, rfl, (Stp.modL hs32 sB1 rfl rfl), (Sl.outI hf34 hs32 (lowB low0 rfl rfl) (aB O0_A rfl)), hf33.blk⟩

end Go.Lg
