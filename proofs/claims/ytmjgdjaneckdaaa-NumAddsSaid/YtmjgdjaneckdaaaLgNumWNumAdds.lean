/- The walks of NumAdds and of what it calls, printed by gen.py. -/
import Derived.Test.YtmjgdjaneckdaaaLgNumP
import Derived.Test.YtmjgdjaneckdaaaProg
set_option linter.unusedVariables false
namespace Go.Lg
open Go Go.Proofs
set_option maxRecDepth 100000
theorem fmix : Try.prog.follows .mixedOrders = true := by kernel_rfl
theorem ty3 : TyOk Try.prog 3 (.int .i64) 1 8 (.int .i64 0) := tyOk Try.underlying3 (by kernel_rfl)
theorem ty4 : TyOk Try.prog 4 .bool 1 1 (.bool false) := tyOk Try.underlying4 (by kernel_rfl)
theorem ty22 : TyOk Try.prog 22 (.int .u64) 1 8 (.int .u64 0) := tyOk Try.underlying22 (by kernel_rfl)
theorem xfrom_32 : XFrom Try.prog 32 := xfrom Try.func32 (by kernel_rfl) rfl (by kernel_rfl) (by kernel_rfl)
theorem xbits_31 : XBits Try.prog 31 := xbits Try.func31 (by kernel_rfl) rfl (by kernel_rfl) (by kernel_rfl)
theorem kok7 : CallOk Try.prog 7 := callOk Try.func7 (by kernel_rfl) rfl
theorem kok8 : CallOk Try.prog 8 := callOk Try.func8 (by kernel_rfl) rfl
theorem kok9 : CallOk Try.prog 9 := callOk Try.func9 (by kernel_rfl) rfl
theorem kok10 : CallOk Try.prog 10 := callOk Try.func10 (by kernel_rfl) rfl
theorem kok11 : CallOk Try.prog 11 := callOk Try.func11 (by kernel_rfl) rfl
theorem kok12 : CallOk Try.prog 12 := callOk Try.func12 (by kernel_rfl) rfl
theorem kok13 : CallOk Try.prog 13 := callOk Try.func13 (by kernel_rfl) rfl
theorem kok14 : CallOk Try.prog 14 := callOk Try.func14 (by kernel_rfl) rfl
theorem kok15 : CallOk Try.prog 15 := callOk Try.func15 (by kernel_rfl) rfl
theorem kok17 : CallOk Try.prog 17 := callOk Try.func17 (by kernel_rfl) rfl
theorem kok18 : CallOk Try.prog 18 := callOk Try.func18 (by kernel_rfl) rfl
theorem kok22 : CallOk Try.prog 22 := callOk Try.func22 (by kernel_rfl) rfl
theorem kok24 : CallOk Try.prog 24 := callOk Try.func24 (by kernel_rfl) rfl
theorem kok25 : CallOk Try.prog 25 := callOk Try.func25 (by kernel_rfl) rfl
theorem kok26 : CallOk Try.prog 26 := callOk Try.func26 (by kernel_rfl) rfl
theorem kok27 : CallOk Try.prog 27 := callOk Try.func27 (by kernel_rfl) rfl
theorem kok28 : CallOk Try.prog 28 := callOk Try.func28 (by kernel_rfl) rfl

theorem c_num_Odd {a0 : UInt64} {w : World} {r0 : Bool} (h : num_Odd a0 = some r0) : Rets Try.prog 14 [vu a0] w (fun v w' => v = .bool r0 ∧ Ext w w') := by
  unfold num_Odd at h
  refine Rets.enter Try.func14 rfl rfl ?_
  refine (show WC _ _ _ _ [(0, vu a0)] _ from ?_)
  refine WC.seq ?_
  refine WC.region ?_
  refine WL.y (Y.assign rfl) rfl ?_
  refine WL.nil ?_
  refine At.then ?_
  refine WC.seq ?_
  refine WC.region ?_
  refine WL.y (Y.move rfl) rfl ?_
  refine WL.y (Y.andNot_u (b := 9223372036854775808) rfl rfl) rfl ?_
  refine WL.y (Y.gtr_u (b := 9218868437227405312) rfl rfl) rfl ?_
  obtain ⟨t11, ht11, h⟩ := lt1 h
  refine WL.yE (Y.assign rfl) (congrArg Value.bool ht11.symm) rfl ?_
  refine WL.nil ?_
  refine At.then ?_
  refine WC.ret ?_
  obtain rfl := some1 h
  have hs12 : Stp [] (Lg.O0 (fun _ => False)) w (Lg.O0 (fun _ => False)) w := (Stp.refl _ _ _)
  exact At.res (.inl rfl) rfl (.tmp rfl .nil) ⟨rfl, (Stp.ext hs12 rfl rfl)⟩

theorem c_num_Canon {a0 : UInt64} {w : World} {r0 : UInt64} (h : num_Canon a0 = some r0) : Rets Try.prog 18 [vu a0] w (fun v w' => v = vu r0 ∧ Ext w w') := by
  unfold num_Canon at h
  refine Rets.enter Try.func18 rfl rfl ?_
  refine (show WC _ _ _ _ [(0, vu a0)] _ from ?_)
  refine WC.seq ?_
  refine WC.region ?_
  refine WL.y (Y.assign (v := vu 0) rfl) rfl ?_
  refine WL.nil ?_
  refine At.then ?_
  refine WC.seq ?_
  refine WC.seq ?_
  refine WC.region ?_
  refine WL.y (Y.move rfl) rfl ?_
  obtain ⟨r11, hp12, h⟩ := bnd h
  refine WL.call (vals := [vu a0]) kok14 rfl rfl (c_num_Odd hp12) ?_
  rintro vr15 wd14 ⟨rfl, hm13⟩
  obtain ⟨O16, hold17, hnew18, hst19⟩ := adoptE (Lg.O0 (fun _ => False)) (fun k => 1) hm13
  refine WL.nil ?_
  refine At.then ?_
  rcases cnd h with ⟨hc20, h⟩ | ⟨hc20, h⟩
  · refine WC.condT' rfl hc20 ?_
    refine WC.seq ?_
    refine WC.region ?_
    refine WL.y (Y.assign (v := vu 9221120237041090561) rfl) rfl ?_
    refine WL.nil ?_
    refine At.then ?_
    refine WC.ret ?_
    refine At.thenR ?_
    obtain rfl := some1 h
    have hs21 : Stp [] (Lg.O0 (fun _ => False)) w O16 wd14 := (Stp.up hst19 rfl)
    exact At.res (.inl rfl) rfl (.tmp rfl .nil) ⟨rfl, (Stp.ext hs21 rfl rfl)⟩
  · refine WC.condF' rfl hc20 ?_
    refine WC.skip ?_
    refine At.then ?_
    refine WC.seq ?_
    refine WC.region ?_
    refine WL.y (Y.move rfl) rfl ?_
    refine WL.y (Y.assign rfl) rfl ?_
    refine WL.nil ?_
    refine At.then ?_
    refine WC.ret ?_
    obtain rfl := some1 h
    have hs22 : Stp [] (Lg.O0 (fun _ => False)) w O16 wd14 := (Stp.up hst19 rfl)
    exact At.res (.inl rfl) rfl (.tmp rfl .nil) ⟨rfl, (Stp.ext hs22 rfl rfl)⟩

theorem num_Canon_eq (a : UInt64) : num_Canon a = some (fCan a.toNat) := by
  have e : UInt64.ofNat a.toNat = a := UInt64.toNat_inj.1 (by rw [UInt64.toNat_ofNat']; have := UInt64.toNat_lt a; omega)
  unfold num_Canon num_Odd fCan lett
  rw [fodd_of]
  cases fOdd a.toNat
  · rw [if_neg (by simp), e]; rfl
  · rw [if_pos rfl]; rfl
theorem c_num_bits {r : Nat} {w : World} (hr : r < 18446744073709551616) : Rets Try.prog 24 [.float .f64 r] w (fun v w' => v = vu (fCan r) ∧ Ext w w') := by
  refine Rets.enter Try.func24 rfl rfl ?_
  refine (show WC _ _ _ _ [(0, .float .f64 r)] _ from ?_)
  refine WC.seq (WC.region (WL.y (Y.assign (v := vu 0) rfl) rfl (WL.nil (At.then ?_))))
  refine WC.seq (WC.region ?_)
  refine WL.y (Y.move rfl) rfl ?_
  have er : (UInt64.ofNat r).toNat = r := by rw [UInt64.toNat_ofNat']; omega
  refine WL.y (Y.fbits xbits_31 hr rfl) rfl ?_
  refine WL.call (vals := [vu (UInt64.ofNat r)]) kok18 rfl rfl (c_num_Canon (num_Canon_eq _)) ?_
  rintro vr1 wd1 ⟨rfl, hm1⟩
  obtain ⟨O1, hold1, hnew1, hst1⟩ := adoptE (Lg.O0 (fun _ => False)) (fun k => 1) hm1
  refine WL.y (Y.assign rfl) rfl (WL.nil (At.then (WC.ret ?_)))
  have hs : Stp [] (Lg.O0 (fun _ => False)) w O1 wd1 := (Stp.up hst1 rfl)
  rw [er]
  exact At.res (.inl rfl) rfl (.tmp rfl .nil) ⟨rfl, Stp.ext hs rfl rfl⟩

theorem c_num_of {a0 : UInt64} {w : World} : Rets Try.prog 25 [vu a0] w (fun v w' => v = .float .f64 a0.toNat ∧ Ext w w') := by
  refine Rets.enter Try.func25 rfl rfl ?_
  refine (show WC _ _ _ _ [(0, vu a0)] _ from ?_)
  refine WC.seq (WC.region (WL.y (Y.assign (v := .float .f64 0) rfl) rfl (WL.nil (At.then ?_))))
  refine WC.seq (WC.region ?_)
  refine WL.y (Y.move rfl) rfl ?_
  refine WL.y (Y.ffrom xfrom_32 rfl) rfl ?_
  refine WL.y (Y.assign rfl) rfl (WL.nil (At.then (WC.ret ?_)))
  exact At.res (.inl rfl) rfl (.tmp rfl .nil) ⟨rfl, Ext.refl w⟩

theorem c_num_Add {a0 : UInt64} {a1 : UInt64} {w : World} {r0 : UInt64} (h : num_Add a0 a1 = some r0) : Rets Try.prog 8 [vu a0, vu a1] w (fun v w' => v = vu r0 ∧ Ext w w') := by
  unfold num_Add at h
  obtain rfl := some1 h
  refine Rets.enter Try.func8 rfl rfl ?_
  refine (show WC _ _ _ _ [(0, vu a0), (1, vu a1)] _ from ?_)
  refine WC.seq (WC.region (WL.y (Y.assign (v := vu 0) rfl) rfl (WL.nil (At.then ?_))))
  refine WC.seq (WC.region ?_)
  refine WL.y (Y.move rfl) rfl ?_
  refine WL.call (vals := [vu a0]) kok25 rfl rfl (c_num_of) ?_
  rintro vr1 wd1 ⟨rfl, hm1⟩
  obtain ⟨O1, hold1, hnew1, hst1⟩ := adoptE (Lg.O0 (fun _ => False)) (fun k => 1) hm1
  refine WL.y (Y.move rfl) rfl ?_
  refine WL.call (vals := [vu a1]) kok25 rfl rfl (c_num_of) ?_
  rintro vr2 wd2 ⟨rfl, hm2⟩
  obtain ⟨O2, hold2, hnew2, hst2⟩ := adoptE O1 (fun k => 1) hm2
  refine WL.fadd (O := O2) rfl rfl rfl ?_
  intro r3 wd3 hst3 hr3
  refine WL.call (vals := [.float .f64 r3]) kok24 rfl rfl (c_num_bits hr3.1) ?_
  rintro vr4 wd4 ⟨rfl, hm4⟩
  obtain ⟨O4, hold4, hnew4, hst4⟩ := adoptE O2 (fun k => 1) hm4
  refine WL.y (Y.assign rfl) rfl (WL.nil (At.then (WC.ret ?_)))
  rw [fAdd_res hr3]
  have hs : Stp [] (Lg.O0 (fun _ => False)) w O4 wd4 := (Stp.trans (Stp.up hst1 rfl) (Stp.trans (Stp.up hst2 rfl) (Stp.trans (Stp.up hst3 rfl) (Stp.up hst4 rfl))))
  exact At.res (.inl rfl) rfl (.tmp rfl .nil) ⟨rfl, Stp.ext hs rfl rfl⟩

theorem c_num_Sub {a0 : UInt64} {a1 : UInt64} {w : World} {r0 : UInt64} (h : num_Sub a0 a1 = some r0) : Rets Try.prog 10 [vu a0, vu a1] w (fun v w' => v = vu r0 ∧ Ext w w') := by
  unfold num_Sub at h
  obtain rfl := some1 h
  refine Rets.enter Try.func10 rfl rfl ?_
  refine (show WC _ _ _ _ [(0, vu a0), (1, vu a1)] _ from ?_)
  refine WC.seq (WC.region (WL.y (Y.assign (v := vu 0) rfl) rfl (WL.nil (At.then ?_))))
  refine WC.seq (WC.region ?_)
  refine WL.y (Y.move rfl) rfl ?_
  refine WL.call (vals := [vu a0]) kok25 rfl rfl (c_num_of) ?_
  rintro vr1 wd1 ⟨rfl, hm1⟩
  obtain ⟨O1, hold1, hnew1, hst1⟩ := adoptE (Lg.O0 (fun _ => False)) (fun k => 1) hm1
  refine WL.y (Y.move rfl) rfl ?_
  refine WL.call (vals := [vu a1]) kok25 rfl rfl (c_num_of) ?_
  rintro vr2 wd2 ⟨rfl, hm2⟩
  obtain ⟨O2, hold2, hnew2, hst2⟩ := adoptE O1 (fun k => 1) hm2
  refine WL.fsub (O := O2) rfl rfl rfl ?_
  intro r3 wd3 hst3 hr3
  refine WL.call (vals := [.float .f64 r3]) kok24 rfl rfl (c_num_bits hr3.1) ?_
  rintro vr4 wd4 ⟨rfl, hm4⟩
  obtain ⟨O4, hold4, hnew4, hst4⟩ := adoptE O2 (fun k => 1) hm4
  refine WL.y (Y.assign rfl) rfl (WL.nil (At.then (WC.ret ?_)))
  rw [fSub_res hr3]
  have hs : Stp [] (Lg.O0 (fun _ => False)) w O4 wd4 := (Stp.trans (Stp.up hst1 rfl) (Stp.trans (Stp.up hst2 rfl) (Stp.trans (Stp.up hst3 rfl) (Stp.up hst4 rfl))))
  exact At.res (.inl rfl) rfl (.tmp rfl .nil) ⟨rfl, Stp.ext hs rfl rfl⟩

theorem c_num_Less {a0 : UInt64} {a1 : UInt64} {w : World} {r0 : Bool} (h : num_Less a0 a1 = some r0) : Rets Try.prog 12 [vu a0, vu a1] w (fun v w' => v = .bool r0 ∧ Ext w w') := by
  unfold num_Less at h
  obtain rfl := some1 h
  refine Rets.enter Try.func12 rfl rfl ?_
  refine (show WC _ _ _ _ [(0, vu a0), (1, vu a1)] _ from ?_)
  refine WC.seq (WC.region (WL.y (Y.assign (v := .bool false) rfl) rfl (WL.nil (At.then ?_))))
  refine WC.seq (WC.region ?_)
  refine WL.y (Y.move rfl) rfl ?_
  refine WL.call (vals := [vu a0]) kok25 rfl rfl (c_num_of) ?_
  rintro vr1 wd1 ⟨rfl, hm1⟩
  obtain ⟨O1, hold1, hnew1, hst1⟩ := adoptE (Lg.O0 (fun _ => False)) (fun k => 1) hm1
  refine WL.y (Y.move rfl) rfl ?_
  refine WL.call (vals := [vu a1]) kok25 rfl rfl (c_num_of) ?_
  rintro vr2 wd2 ⟨rfl, hm2⟩
  obtain ⟨O2, hold2, hnew2, hst2⟩ := adoptE O1 (fun k => 1) hm2
  refine WL.y (Y.fless rfl rfl) rfl ?_
  refine WL.y (Y.assign rfl) rfl (WL.nil (At.then (WC.ret ?_)))
  have hs : Stp [] (Lg.O0 (fun _ => False)) w O2 wd2 := (Stp.trans (Stp.up hst1 rfl) (Stp.up hst2 rfl))
  exact At.res (.inl rfl) rfl (.tmp rfl .nil) ⟨rfl, Stp.ext hs rfl rfl⟩

theorem c_law05_awake {w : World} {r0 : Bool} (h : law05_awake = some r0) : Rets Try.prog 7 [] w (fun v w' => v = .bool r0 ∧ Ext w w') := by
  unfold law05_awake at h
  refine Rets.enter Try.func7 rfl rfl ?_
  refine (show WC _ _ _ _ [] _ from ?_)
  refine WC.seq ?_
  refine WC.region ?_
  refine WL.y (Y.assign rfl) rfl ?_
  refine WL.nil ?_
  refine At.then ?_
  refine WC.seq ?_
  refine WC.region ?_
  obtain ⟨r11, hp12, h⟩ := bnd h
  refine WL.call (vals := [vu 4607182418800017408, vu 4607182418800017408]) kok8 rfl rfl (c_num_Add hp12) ?_
  rintro vr15 wd14 ⟨rfl, hm13⟩
  obtain ⟨O16, hold17, hnew18, hst19⟩ := adoptE (Lg.O0 (fun _ => False)) (fun k => 1) hm13
  refine WL.y (Y.eql_u (b := 4611686018427387904) rfl rfl) rfl ?_
  refine WL.y (Y.move rfl) rfl ?_
  obtain ⟨p24, h, hk25⟩ := bnd h
  refine WL.cut 3 (σ := (Bool × Own)) (fun x w' => x.1 = p24 ∧ Stp [] O16 wd14 x.2 w') (fun x => [(6, .bool x.1)]) ?_ ?_
  · rcases cnd h with ⟨hE26, h⟩ | ⟨hE26, h⟩
    · refine WL.ren 3 rfl (congrArg Value.bool hE26) ?_
      refine WL.ung rfl rfl ?_
      obtain ⟨r27, hp28, h⟩ := bnd h
      refine WL.call (vals := [vu 9218868437227405312, vu 9218868437227405312]) kok10 rfl rfl (c_num_Sub hp28) ?_
      rintro vr31 wd30 ⟨rfl, hm29⟩
      obtain ⟨O32, hold33, hnew34, hst35⟩ := adoptE O16 (fun k => 1) hm29
      refine WL.ung rfl rfl ?_
      refine WL.y (Y.eql_u (b := 9221120237041090561) rfl rfl) rfl ?_
      refine WL.y (Y.pick (b := true) rfl rfl) rfl ?_
      exact WL.nil (At.join (σ := (Bool × Own)) (decide (r27 = 9221120237041090561), O32) ⟨some1 h, (Stp.up hst35 rfl)⟩ (.cons rfl .nil))
    · refine WL.ren 3 rfl (congrArg Value.bool hE26) ?_
      refine WL.gS rfl rfl rfl rfl ?_
      refine WL.gS rfl rfl rfl rfl ?_
      refine WL.y (Y.pick (b := false) rfl rfl) rfl ?_
      exact WL.nil (At.join (σ := (Bool × Own)) (false, O16) ⟨some1 h, (Stp.refl _ _ _)⟩ (.cons rfl .nil))
  · rintro ⟨x20, O21⟩ wd22 ⟨rfl, hst23⟩
    replace h := hk25
    try dsimp only at h hst23
    refine (show WL _ _ _ _ _ [(6, .bool x20)] _ from ?_)
    refine WL.y (Y.move rfl) rfl ?_
    obtain ⟨p40, h, hk41⟩ := bnd h
    refine WL.cut 2 (σ := (Bool × Own)) (fun x w' => x.1 = p40 ∧ Stp [] O21 wd22 x.2 w') (fun x => [(9, .bool x.1)]) ?_ ?_
    · rcases cnd h with ⟨hE42, h⟩ | ⟨hE42, h⟩
      · refine WL.ren 7 rfl (congrArg Value.bool hE42) ?_
        refine WL.ung rfl rfl ?_
        obtain ⟨r43, hp44, h⟩ := bnd h
        refine WL.call (vals := [vu 13830554455654793216, vu 0]) kok12 rfl rfl (c_num_Less hp44) ?_
        rintro vr47 wd46 ⟨rfl, hm45⟩
        obtain ⟨O48, hold49, hnew50, hst51⟩ := adoptE O21 (fun k => 1) hm45
        refine WL.y (Y.pick (b := true) rfl rfl) rfl ?_
        exact WL.nil (At.join (σ := (Bool × Own)) (r43, O48) ⟨some1 h, (Stp.up hst51 rfl)⟩ (.cons rfl .nil))
      · refine WL.ren 7 rfl (congrArg Value.bool hE42) ?_
        refine WL.gS rfl rfl rfl rfl ?_
        refine WL.y (Y.pick (b := false) rfl rfl) rfl ?_
        exact WL.nil (At.join (σ := (Bool × Own)) (false, O21) ⟨some1 h, (Stp.refl _ _ _)⟩ (.cons rfl .nil))
    · rintro ⟨x36, O37⟩ wd38 ⟨rfl, hst39⟩
      replace h := hk41
      try dsimp only at h hst39
      refine (show WL _ _ _ _ _ [(9, .bool x36)] _ from ?_)
      refine WL.y (Y.move rfl) rfl ?_
      obtain ⟨p56, h, hk57⟩ := bnd h
      refine WL.cut 2 (σ := (Bool × Own)) (fun x w' => x.1 = p56 ∧ Stp [] O37 wd38 x.2 w') (fun x => [(12, .bool x.1)]) ?_ ?_
      · rcases cnd h with ⟨hE58, h⟩ | ⟨hE58, h⟩
        · refine WL.ren 10 rfl (congrArg Value.bool hE58) ?_
          refine WL.ung rfl rfl ?_
          obtain ⟨r59, hp60, h⟩ := bnd h
          refine WL.call (vals := [vu 9218868437227405313]) kok14 rfl rfl (c_num_Odd hp60) ?_
          rintro vr63 wd62 ⟨rfl, hm61⟩
          obtain ⟨O64, hold65, hnew66, hst67⟩ := adoptE O37 (fun k => 1) hm61
          refine WL.y (Y.pick (b := true) rfl rfl) rfl ?_
          exact WL.nil (At.join (σ := (Bool × Own)) (r59, O64) ⟨some1 h, (Stp.up hst67 rfl)⟩ (.cons rfl .nil))
        · refine WL.ren 10 rfl (congrArg Value.bool hE58) ?_
          refine WL.gS rfl rfl rfl rfl ?_
          refine WL.y (Y.pick (b := false) rfl rfl) rfl ?_
          exact WL.nil (At.join (σ := (Bool × Own)) (false, O37) ⟨some1 h, (Stp.refl _ _ _)⟩ (.cons rfl .nil))
      · rintro ⟨x52, O53⟩ wd54 ⟨rfl, hst55⟩
        replace h := hk57
        try dsimp only at h hst55
        refine (show WL _ _ _ _ _ [(12, .bool x52)] _ from ?_)
        refine WL.y (Y.assign rfl) rfl ?_
        refine WL.nil ?_
        refine At.then ?_
        refine WC.ret ?_
        obtain rfl := some1 h
        have hs68 : Stp [] (Lg.O0 (fun _ => False)) w O53 wd54 := (Stp.trans (Stp.up hst19 rfl) (Stp.trans (Stp.up hst23 rfl) (Stp.trans (Stp.up hst39 rfl) (Stp.up hst55 rfl))))
        exact At.res (.inl rfl) rfl (.tmp rfl .nil) ⟨rfl, (Stp.ext hs68 rfl rfl)⟩

theorem c_ref05_Odd {a0 : UInt64} {w : World} {r0 : Bool} (h : ref05_Odd a0 = some r0) : Rets Try.prog 15 [vu a0] w (fun v w' => v = .bool r0 ∧ Ext w w') := by
  unfold ref05_Odd at h
  refine Rets.enter Try.func15 rfl rfl ?_
  refine (show WC _ _ _ _ [(0, vu a0)] _ from ?_)
  refine WC.seq ?_
  refine WC.region ?_
  refine WL.y (Y.assign rfl) rfl ?_
  refine WL.nil ?_
  refine At.then ?_
  refine WC.seq ?_
  refine WC.region ?_
  refine WL.y (Y.move rfl) rfl ?_
  refine WL.y (Y.quo_u (b := 4503599627370496) (by decide) rfl rfl) rfl ?_
  refine WL.y (Y.rem_u (b := 2048) (by decide) rfl rfl) rfl ?_
  refine WL.y (Y.eql_u (b := 2047) rfl rfl) rfl ?_
  refine WL.y (Y.move rfl) rfl ?_
  refine WL.cut 4 (σ := Unit) (fun _ w' => w = w') (fun _ => [(11, .bool ((decide (((a0 / 4503599627370496) % 2048) = 2047)) && (!decide ((a0 % 4503599627370496) = 0))))]) ?_ ?_
  · refine WL.part 7 rfl (fun hE11 => ?_) (fun hE11 => ?_)
    · refine WL.ung rfl rfl ?_
      refine WL.y (Y.move rfl) rfl ?_
      refine WL.ung rfl rfl ?_
      refine WL.y (Y.rem_u (b := 4503599627370496) (by decide) rfl rfl) rfl ?_
      refine WL.ung rfl rfl ?_
      refine WL.y (Y.neq_u (b := 0) rfl rfl) rfl ?_
      refine WL.y (Y.pick (b := true) rfl rfl) rfl ?_
      refine WL.ren (v' := .bool ((decide (((a0 / 4503599627370496) % 2048) = 2047)) && (!decide ((a0 % 4503599627370496) = 0)))) 11 rfl (congrArg Value.bool (andT hE11)) ?_
      exact WL.nil (At.join () rfl (.cons rfl .nil))
    · refine WL.gS rfl rfl rfl rfl ?_
      refine WL.gS rfl rfl rfl rfl ?_
      refine WL.gS rfl rfl rfl rfl ?_
      refine WL.y (Y.pick (b := false) rfl rfl) rfl ?_
      refine WL.ren (v' := .bool ((decide (((a0 / 4503599627370496) % 2048) = 2047)) && (!decide ((a0 % 4503599627370496) = 0)))) 11 rfl (congrArg Value.bool (andF hE11)) ?_
      exact WL.nil (At.join () rfl (.cons rfl .nil))
  · rintro _ _ rfl
    refine (show WL _ _ _ _ _ [(11, .bool ((decide (((a0 / 4503599627370496) % 2048) = 2047)) && (!decide ((a0 % 4503599627370496) = 0))))] _ from ?_)
    obtain ⟨t12, ht12, h⟩ := lt1 h
    refine WL.yE (Y.assign rfl) (congrArg Value.bool ht12.symm) rfl ?_
    refine WL.nil ?_
    refine At.then ?_
    refine WC.ret ?_
    obtain rfl := some1 h
    have hs13 : Stp [] (Lg.O0 (fun _ => False)) w (Lg.O0 (fun _ => False)) w := (Stp.refl _ _ _)
    exact At.res (.inl rfl) rfl (.tmp rfl .nil) ⟨rfl, (Stp.ext hs13 rfl rfl)⟩

theorem c_ref05_Finite {a0 : UInt64} {w : World} {r0 : Bool} (h : ref05_Finite a0 = some r0) : Rets Try.prog 17 [vu a0] w (fun v w' => v = .bool r0 ∧ Ext w w') := by
  unfold ref05_Finite at h
  refine Rets.enter Try.func17 rfl rfl ?_
  refine (show WC _ _ _ _ [(0, vu a0)] _ from ?_)
  refine WC.seq ?_
  refine WC.region ?_
  refine WL.y (Y.assign rfl) rfl ?_
  refine WL.nil ?_
  refine At.then ?_
  refine WC.seq ?_
  refine WC.region ?_
  refine WL.y (Y.move rfl) rfl ?_
  refine WL.y (Y.quo_u (b := 4503599627370496) (by decide) rfl rfl) rfl ?_
  refine WL.y (Y.rem_u (b := 2048) (by decide) rfl rfl) rfl ?_
  refine WL.y (Y.neq_u (b := 2047) rfl rfl) rfl ?_
  obtain ⟨t11, ht11, h⟩ := lt1 h
  refine WL.yE (Y.assign rfl) (congrArg Value.bool ht11.symm) rfl ?_
  refine WL.nil ?_
  refine At.then ?_
  refine WC.ret ?_
  obtain rfl := some1 h
  have hs12 : Stp [] (Lg.O0 (fun _ => False)) w (Lg.O0 (fun _ => False)) w := (Stp.refl _ _ _)
  exact At.res (.inl rfl) rfl (.tmp rfl .nil) ⟨rfl, (Stp.ext hs12 rfl rfl)⟩

theorem c_ref05_wide {a0 : UInt64} {w : World} {r0 : UInt64} {r1 : Int} (h : ref05_wide a0 = some (r0, r1)) : Rets Try.prog 26 [vu a0] w (fun v w' => v = .tuple (List.toArray [vu r0, vi r1]) ∧ Ext w w') := by
  unfold ref05_wide at h
  refine Rets.enter Try.func26 rfl rfl ?_
  refine (show WC _ _ _ _ [(0, vu a0)] _ from ?_)
  refine WC.seq ?_
  refine WC.region ?_
  refine WL.y (Y.assign (v := vu 0) rfl) rfl ?_
  refine WL.y (Y.assign rfl) rfl ?_
  refine WL.nil ?_
  refine At.then ?_
  refine WC.seq ?_
  refine WC.region ?_
  refine WL.y (Y.move rfl) rfl ?_
  refine WL.y (Y.quo_u (b := 4503599627370496) (by decide) rfl rfl) rfl ?_
  refine WL.y (Y.rem_u (b := 2048) (by decide) rfl rfl) rfl ?_
  refine WL.y (Y.conv_ui ty22.u ty3.u rfl) rfl ?_
  obtain ⟨e11, he11, h⟩ := lt1 h
  refine WL.yE (Y.assign rfl) (congrArg vi he11.symm) rfl ?_
  refine WL.nil ?_
  refine At.then ?_
  refine WC.seq ?_
  refine WC.region ?_
  refine WL.y (Y.move rfl) rfl ?_
  refine WL.y (Y.rem_u (b := 4503599627370496) (by decide) rfl rfl) rfl ?_
  obtain ⟨m12, hm12, h⟩ := lt1 h
  refine WL.yE (Y.assign rfl) (congrArg vu hm12.symm) rfl ?_
  refine WL.nil ?_
  refine At.then ?_
  refine WC.seq ?_
  refine WC.seq ?_
  refine WC.region ?_
  refine WL.y (Y.move rfl) rfl ?_
  refine WL.y (Y.eql_i rfl rfl) rfl ?_
  refine WL.nil ?_
  refine At.then ?_
  rcases cnd h with ⟨hc13, h⟩ | ⟨hc13, h⟩
  · refine WC.condT' rfl hc13 ?_
    refine WC.seq ?_
    refine WC.region ?_
    refine WL.y (Y.move rfl) rfl ?_
    refine WL.y (Y.assign rfl) rfl ?_
    refine WL.y (Y.assign rfl) rfl ?_
    refine WL.nil ?_
    refine At.then ?_
    refine WC.ret ?_
    refine At.thenR ?_
    obtain ⟨rfl, rfl⟩ := tup2 h
    have hs14 : Stp [] (Lg.O0 (fun _ => False)) w (Lg.O0 (fun _ => False)) w := (Stp.refl _ _ _)
    exact At.res (.inl rfl) rfl (.tmp rfl (.tmp rfl .nil)) ⟨rfl, (Stp.ext hs14 rfl rfl)⟩
  · refine WC.condF' rfl hc13 ?_
    refine WC.skip ?_
    refine At.then ?_
    refine WC.seq ?_
    refine WC.region ?_
    refine WL.y (Y.move rfl) rfl ?_
    refine WL.y (Y.add_u (b := 4503599627370496) rfl rfl) rfl ?_
    refine WL.y (Y.move rfl) rfl ?_
    obtain ⟨t15, ht15, h⟩ := lt1 h
    refine WL.yE (Y.assign rfl) (congrArg vu ht15.symm) rfl ?_
    refine WL.y (Y.assign rfl) rfl ?_
    refine WL.nil ?_
    refine At.then ?_
    refine WC.ret ?_
    obtain ⟨rfl, rfl⟩ := tup2 h
    have hs16 : Stp [] (Lg.O0 (fun _ => False)) w (Lg.O0 (fun _ => False)) w := (Stp.refl _ _ _)
    exact At.res (.inl rfl) rfl (.tmp rfl (.tmp rfl .nil)) ⟨rfl, (Stp.ext hs16 rfl rfl)⟩

theorem c_ref05_shifted {a0 : UInt64} {a1 : Int} {w : World} {r0 : UInt64} (h : ref05_shifted a0 a1 = some r0) : Rets Try.prog 27 [vu a0, vi a1] w (fun v w' => v = vu r0 ∧ Ext w w') := by
  unfold ref05_shifted at h
  refine Rets.enter Try.func27 rfl rfl ?_
  refine (show WC _ _ _ _ [(0, vu a0), (1, vi a1)] _ from ?_)
  refine WC.seq ?_
  refine WC.region ?_
  refine WL.y (Y.assign (v := vu 0) rfl) rfl ?_
  refine WL.nil ?_
  refine At.then ?_
  refine WC.seq ?_
  refine WC.seq ?_
  refine WC.region ?_
  refine WL.y (Y.assign rfl) rfl ?_
  refine WL.nil ?_
  refine At.then ?_
  refine WC.block ?_
  obtain ⟨p14, h, hk16⟩ := flow1 h
  obtain ⟨k15, h⟩ := loop_some h
  refine WC.joinB 0 (σ := UInt64) (fun x w' => p14 = .go x ∧ w = w') (fun x => [(0, vu x)]) ?_ ?_
  · refine WC.loop (σ := (UInt64 × Int)) (fun x k w' => loopN k (ref05_shifted_lp1 a1) (x.1, x.2) = some p14 ∧ w = w') (fun x => [(0, vu x.1), (1, vi a1), (5, vi x.2)]) (a0, 0) k15 (.cons rfl (.cons rfl (.cons rfl .nil))) ⟨h, rfl⟩ ?_
    rintro ⟨m11, i12⟩ k15 _ ⟨h, rfl⟩
    obtain ⟨j17, q18, rfl, h, hn19⟩ := rnd1 h
    unfold ref05_shifted_lp1 at h
    try dsimp only at h
    refine (show WC _ _ _ _ [(0, vu m11), (1, vi a1), (5, vi i12)] _ from ?_)
    refine WC.seq ?_
    refine WC.seq ?_
    refine WC.region ?_
    refine WL.y (Y.move rfl) rfl ?_
    refine WL.y (Y.move rfl) rfl ?_
    refine WL.y (Y.lss_i rfl rfl) rfl ?_
    refine WL.nil ?_
    refine At.then ?_
    rcases cnd h with ⟨hc20, h⟩ | ⟨hc20, h⟩
    · refine WC.condT' rfl hc20 ?_
      refine WC.skip ?_
      refine At.then ?_
      refine WC.seq ?_
      refine WC.block ?_
      refine WC.seq ?_
      refine WC.seq ?_
      refine WC.region ?_
      refine WL.y (Y.move rfl) rfl ?_
      refine WL.y (Y.lss_u (b := 2) rfl rfl) rfl ?_
      refine WL.nil ?_
      refine At.then ?_
      rcases cnd h with ⟨hc21, h⟩ | ⟨hc21, h⟩
      · refine WC.condT' rfl hc21 ?_
        refine WC.seq ?_
        refine WC.region ?_
        refine WL.y (Y.move rfl) rfl ?_
        refine WL.y (Y.assign rfl) rfl ?_
        refine WL.nil ?_
        refine At.then ?_
        refine WC.ret ?_
        refine At.thenR ?_
        refine At.inBlockR ?_
        refine At.thenR ?_
        refine At.loopR ?_
        have h := outr1 h hn19 hk16
        refine At.joinBR ?_
        refine At.inBlockR ?_
        refine At.thenR ?_
        obtain rfl := some1 h
        have hs22 : Stp [] (Lg.O0 (fun _ => False)) w (Lg.O0 (fun _ => False)) w := (Stp.refl _ _ _)
        exact At.res (.inl rfl) rfl (.tmp rfl .nil) ⟨rfl, (Stp.ext hs22 rfl rfl)⟩
      · refine WC.condF' rfl hc21 ?_
        refine WC.skip ?_
        refine At.then ?_
        refine WC.region ?_
        refine WL.y (Y.move rfl) rfl ?_
        refine WL.y (Y.quo_u (b := 2) (by decide) rfl rfl) rfl ?_
        refine WL.y (Y.move rfl) rfl ?_
        refine WL.y (Y.rem_u (b := 2) (by decide) rfl rfl) rfl ?_
        refine WL.y (Y.or_u rfl rfl) rfl ?_
        obtain ⟨m23, hm23, h⟩ := lt1 h
        refine WL.yE (Y.assign rfl) (congrArg vu hm23.symm) rfl ?_
        refine WL.nil ?_
        refine At.inBlock ?_
        refine At.then ?_
        refine WC.region ?_
        refine WL.y (Y.move rfl) rfl ?_
        refine WL.y (Y.add_i rfl rfl) rfl ?_
        obtain ⟨i24, hi24, h⟩ := lt1 h
        refine WL.yE (Y.assign rfl) (congrArg vi hi24.symm) rfl ?_
        refine WL.nil ?_
        exact At.round (m23, i24) j17 (Nat.lt_succ_self _) ⟨next1 h hn19, rfl⟩ (.cons rfl (.cons rfl (.cons rfl .nil)))
    · refine WC.condF' rfl hc20 ?_
      refine WC.exit ?_
      refine At.thenX ?_
      refine At.loopX ?_
      exact At.hitB (σ := UInt64) m11 ⟨brk1 h hn19, rfl⟩ (.cons rfl .nil)
  · rintro m13 _ ⟨rfl, rfl⟩
    replace h := flowK_go hk16
    try dsimp only at h
    refine (show At _ _ _ [(0, vu m13)] _ from ?_)
    refine At.inBlockHit ?_
    refine At.then ?_
    refine WC.seq ?_
    refine WC.region ?_
    refine WL.y (Y.move rfl) rfl ?_
    refine WL.y (Y.assign rfl) rfl ?_
    refine WL.nil ?_
    refine At.then ?_
    refine WC.ret ?_
    obtain rfl := some1 h
    have hs25 : Stp [] (Lg.O0 (fun _ => False)) w (Lg.O0 (fun _ => False)) w := (Stp.refl _ _ _)
    exact At.res (.inl rfl) rfl (.tmp rfl .nil) ⟨rfl, (Stp.ext hs25 rfl rfl)⟩

theorem c_ref05_round {a0 : UInt64} {a1 : Int} {a2 : Bool} {w : World} {r0 : UInt64} (h : ref05_round a0 a1 a2 = some r0) : Rets Try.prog 28 [vu a0, vi a1, .bool a2] w (fun v w' => v = vu r0 ∧ Ext w w') := by
  unfold ref05_round at h
  refine Rets.enter Try.func28 rfl rfl ?_
  refine (show WC _ _ _ _ [(0, vu a0), (1, vi a1), (2, .bool a2)] _ from ?_)
  refine WC.seq ?_
  refine WC.region ?_
  refine WL.y (Y.assign (v := vu 0) rfl) rfl ?_
  refine WL.nil ?_
  refine At.then ?_
  refine WC.seq ?_
  refine WC.seq ?_
  refine WC.region ?_
  refine WL.y (Y.move rfl) rfl ?_
  refine WL.y (Y.eql_u (b := 0) rfl rfl) rfl ?_
  refine WL.nil ?_
  refine At.then ?_
  rcases cnd h with ⟨hc11, h⟩ | ⟨hc11, h⟩
  · refine WC.condT' rfl hc11 ?_
    refine WC.seq ?_
    refine WC.region ?_
    refine WL.y (Y.assign (v := vu 0) rfl) rfl ?_
    refine WL.nil ?_
    refine At.then ?_
    refine WC.ret ?_
    refine At.thenR ?_
    obtain rfl := some1 h
    have hs12 : Stp [] (Lg.O0 (fun _ => False)) w (Lg.O0 (fun _ => False)) w := (Stp.refl _ _ _)
    exact At.res (.inl rfl) rfl (.tmp rfl .nil) ⟨rfl, (Stp.ext hs12 rfl rfl)⟩
  · refine WC.condF' rfl hc11 ?_
    refine WC.skip ?_
    refine At.then ?_
    refine WC.seq ?_
    obtain ⟨p18, h, hk19⟩ := bnd h
    refine WC.join (σ := (UInt64 × Int × Own)) (fun x w' => (x.1, x.2.1) = p18 ∧ Stp [] (Lg.O0 (fun _ => False)) w x.2.2 w') (fun x => [(0, vu x.1), (1, vi x.2.1), (2, .bool a2)]) ?_ ?_
    · refine WC.block ?_
      obtain ⟨p30, h, hk32⟩ := flow1 h
      obtain ⟨k31, h⟩ := loop_some h
      refine WC.joinB 0 (σ := (UInt64 × Int × Own)) (fun x w' => p30 = .go (x.1, x.2.1) ∧ Stp [] (Lg.O0 (fun _ => False)) w x.2.2 w') (fun x => [(0, vu x.1), (1, vi x.2.1), (2, .bool a2)]) ?_ ?_
      · refine WC.loop (σ := (UInt64 × Int × Own)) (fun x k w' => loopN k (ref05_round_lp1) (x.1, x.2.1) = some p30 ∧ Stp [] (Lg.O0 (fun _ => False)) w x.2.2 w') (fun x => [(0, vu x.1), (1, vi x.2.1), (2, .bool a2)]) (a0, a1, (Lg.O0 (fun _ => False))) k31 (.cons rfl (.cons rfl (.cons rfl .nil))) ⟨h, (Stp.refl _ _ _)⟩ ?_
        rintro ⟨m20, e21, O22⟩ k31 wd23 ⟨h, hst24⟩
        obtain ⟨j33, q34, rfl, h, hn35⟩ := rnd1 h
        unfold ref05_round_lp1 at h
        try dsimp only at h hst24
        refine (show WC _ _ _ _ [(0, vu m20), (1, vi e21), (2, .bool a2)] _ from ?_)
        refine WC.seq ?_
        refine WC.seq ?_
        refine WC.region ?_
        refine WL.y (Y.move rfl) rfl ?_
        refine WL.y (Y.geq_u (b := 72057594037927936) rfl rfl) rfl ?_
        refine WL.nil ?_
        refine At.then ?_
        rcases cnd h with ⟨hc36, h⟩ | ⟨hc36, h⟩
        · refine WC.condT' rfl hc36 ?_
          refine WC.skip ?_
          refine At.then ?_
          refine WC.block ?_
          refine WC.seq ?_
          refine WC.region ?_
          refine WL.y (Y.move rfl) rfl ?_
          obtain ⟨r37, hp38, h⟩ := bnd h
          refine WL.call (vals := [vu m20, vi 1]) kok27 rfl rfl (c_ref05_shifted hp38) ?_
          rintro vr41 wd40 ⟨rfl, hm39⟩
          obtain ⟨O42, hold43, hnew44, hst45⟩ := adoptE O22 (fun k => 1) hm39
          refine WL.y (Y.assign rfl) rfl ?_
          refine WL.nil ?_
          refine At.then ?_
          refine WC.region ?_
          refine WL.y (Y.move rfl) rfl ?_
          refine WL.y (Y.add_i rfl rfl) rfl ?_
          obtain ⟨e46, he46, h⟩ := lt1 h
          refine WL.yE (Y.assign rfl) (congrArg vi he46.symm) rfl ?_
          refine WL.nil ?_
          refine At.inBlock ?_
          exact At.round (r37, e46, O42) j33 (Nat.lt_succ_self _) ⟨next1 h hn35, (Stp.trans (Stp.up hst24 rfl) (Stp.up hst45 rfl))⟩ (.cons rfl (.cons rfl (.cons rfl .nil)))
        · refine WC.condF' rfl hc36 ?_
          refine WC.exit ?_
          refine At.thenX ?_
          refine At.loopX ?_
          exact At.hitB (σ := (UInt64 × Int × Own)) (m20, e21, O22) ⟨brk1 h hn35, (Stp.up hst24 rfl)⟩ (.cons rfl (.cons rfl (.cons rfl .nil)))
      · rintro ⟨m25, e26, O27⟩ wd28 ⟨rfl, hst29⟩
        replace h := flowK_go hk32
        try dsimp only at h hst29
        refine (show At _ _ _ [(0, vu m25), (1, vi e26), (2, .bool a2)] _ from ?_)
        refine At.inBlockHit ?_
        exact At.join (σ := (UInt64 × Int × Own)) (m25, e26, O27) ⟨some1 h, (Stp.up hst29 rfl)⟩ (.cons rfl (.cons rfl (.cons rfl .nil)))
    · rintro ⟨m13, e14, O15⟩ wd16 ⟨rfl, hst17⟩
      replace h := hk19
      try dsimp only at h hst17
      refine (show At _ _ _ [(0, vu m13), (1, vi e14), (2, .bool a2)] _ from ?_)
      refine At.then ?_
      refine WC.seq ?_
      obtain ⟨p49, h, hk50⟩ := bnd h
      refine WC.join (σ := (UInt64 × Int)) (fun x w' => (x.1, x.2) = p49 ∧ wd16 = w') (fun x => [(0, vu x.1), (1, vi x.2), (2, .bool a2)]) ?_ ?_
      · refine WC.block ?_
        obtain ⟨p55, h, hk57⟩ := flow1 h
        obtain ⟨k56, h⟩ := loop_some h
        refine WC.joinB 2 (σ := (UInt64 × Int)) (fun x w' => p55 = .go (x.1, x.2) ∧ wd16 = w') (fun x => [(0, vu x.1), (1, vi x.2), (2, .bool a2)]) ?_ ?_
        · refine WC.loop (σ := (UInt64 × Int)) (fun x k w' => loopN k (ref05_round_lp2) (x.1, x.2) = some p55 ∧ wd16 = w') (fun x => [(0, vu x.1), (1, vi x.2), (2, .bool a2)]) (m13, e14) k56 (.cons rfl (.cons rfl (.cons rfl .nil))) ⟨h, rfl⟩ ?_
          rintro ⟨m51, e52⟩ k56 _ ⟨h, rfl⟩
          obtain ⟨j58, q59, rfl, h, hn60⟩ := rnd1 h
          unfold ref05_round_lp2 at h
          try dsimp only at h
          refine (show WC _ _ _ _ [(0, vu m51), (1, vi e52), (2, .bool a2)] _ from ?_)
          refine WC.seq ?_
          refine WC.seq ?_
          refine WC.region ?_
          refine WL.y (Y.move rfl) rfl ?_
          refine WL.y (Y.lss_u (b := 36028797018963968) rfl rfl) rfl ?_
          refine WL.y (Y.move rfl) rfl ?_
          refine WL.cut 3 (σ := Unit) (fun _ w' => wd16 = w') (fun _ => [(0, vu m51), (1, vi e52), (2, .bool a2), (22, .bool ((decide (m51 < 36028797018963968)) && (decide (1 < e52))))]) ?_ ?_
          · refine WL.part 19 rfl (fun hE61 => ?_) (fun hE61 => ?_)
            · refine WL.ung rfl rfl ?_
              refine WL.y (Y.move rfl) rfl ?_
              refine WL.ung rfl rfl ?_
              refine WL.y (Y.gtr_i rfl rfl) rfl ?_
              refine WL.y (Y.pick (b := true) rfl rfl) rfl ?_
              refine WL.ren (v' := .bool ((decide (m51 < 36028797018963968)) && (decide (1 < e52)))) 22 rfl (congrArg Value.bool (andT hE61)) ?_
              exact WL.nil (At.join () rfl (.cons rfl (.cons rfl (.cons rfl (.cons rfl .nil)))))
            · refine WL.gS rfl rfl rfl rfl ?_
              refine WL.gS rfl rfl rfl rfl ?_
              refine WL.y (Y.pick (b := false) rfl rfl) rfl ?_
              refine WL.ren (v' := .bool ((decide (m51 < 36028797018963968)) && (decide (1 < e52)))) 22 rfl (congrArg Value.bool (andF hE61)) ?_
              exact WL.nil (At.join () rfl (.cons rfl (.cons rfl (.cons rfl (.cons rfl .nil)))))
          · rintro _ _ rfl
            refine (show WL _ _ _ _ _ [(0, vu m51), (1, vi e52), (2, .bool a2), (22, .bool ((decide (m51 < 36028797018963968)) && (decide (1 < e52))))] _ from ?_)
            refine WL.nil ?_
            refine At.then ?_
            rcases cnd h with ⟨hc62, h⟩ | ⟨hc62, h⟩
            · refine WC.condT' rfl hc62 ?_
              refine WC.skip ?_
              refine At.then ?_
              refine WC.block ?_
              refine WC.seq ?_
              refine WC.region ?_
              refine WL.y (Y.move rfl) rfl ?_
              refine WL.y (Y.mul_u (a := 2) rfl rfl) rfl ?_
              obtain ⟨m63, hm63, h⟩ := lt1 h
              refine WL.yE (Y.assign rfl) (congrArg vu hm63.symm) rfl ?_
              refine WL.nil ?_
              refine At.then ?_
              refine WC.region ?_
              refine WL.y (Y.move rfl) rfl ?_
              refine WL.y (Y.sub_i rfl rfl) rfl ?_
              obtain ⟨e64, he64, h⟩ := lt1 h
              refine WL.yE (Y.assign rfl) (congrArg vi he64.symm) rfl ?_
              refine WL.nil ?_
              refine At.inBlock ?_
              exact At.round (m63, e64) j58 (Nat.lt_succ_self _) ⟨next1 h hn60, rfl⟩ (.cons rfl (.cons rfl (.cons rfl .nil)))
            · refine WC.condF' rfl hc62 ?_
              refine WC.exit ?_
              refine At.thenX ?_
              refine At.loopX ?_
              exact At.hitB (σ := (UInt64 × Int)) (m51, e52) ⟨brk1 h hn60, rfl⟩ (.cons rfl (.cons rfl (.cons rfl .nil)))
        · rintro ⟨m53, e54⟩ _ ⟨rfl, rfl⟩
          replace h := flowK_go hk57
          try dsimp only at h
          refine (show At _ _ _ [(0, vu m53), (1, vi e54), (2, .bool a2)] _ from ?_)
          refine At.inBlockHit ?_
          exact At.join (σ := (UInt64 × Int)) (m53, e54) ⟨some1 h, rfl⟩ (.cons rfl (.cons rfl (.cons rfl .nil)))
      · rintro ⟨m47, e48⟩ _ ⟨rfl, rfl⟩
        replace h := hk50
        try dsimp only at h
        refine (show At _ _ _ [(0, vu m47), (1, vi e48), (2, .bool a2)] _ from ?_)
        refine At.then ?_
        refine WC.seq ?_
        refine WC.region ?_
        refine WL.y (Y.move rfl) rfl ?_
        refine WL.y (Y.rem_u (b := 8) (by decide) rfl rfl) rfl ?_
        obtain ⟨rest65, hrest65, h⟩ := lt1 h
        refine WL.yE (Y.assign rfl) (congrArg vu hrest65.symm) rfl ?_
        refine WL.nil ?_
        refine At.then ?_
        refine WC.seq ?_
        refine WC.region ?_
        refine WL.y (Y.move rfl) rfl ?_
        refine WL.y (Y.quo_u (b := 8) (by decide) rfl rfl) rfl ?_
        obtain ⟨m66, hm66, h⟩ := lt1 h
        refine WL.yE (Y.assign rfl) (congrArg vu hm66.symm) rfl ?_
        refine WL.nil ?_
        refine At.then ?_
        refine WC.seq ?_
        obtain ⟨p68, h, hk69⟩ := bnd h
        refine WC.join (σ := UInt64) (fun x w' => x = p68 ∧ wd16 = w') (fun x => [(0, vu x), (1, vi e48), (2, .bool a2)]) ?_ ?_
        · refine WC.seq ?_
          refine WC.region ?_
          refine WL.y (Y.move rfl) rfl ?_
          refine WL.y (Y.gtr_u (b := 4) rfl rfl) rfl ?_
          refine WL.y (Y.move rfl) rfl ?_
          refine WL.cut 8 (σ := Unit) (fun _ w' => wd16 = w') (fun _ => [(0, vu m66), (1, vi e48), (2, .bool a2), (41, .bool ((decide (4 < rest65)) || ((decide (rest65 = 4)) && (decide ((m66 % 2) = 1)))))]) ?_ ?_
          · refine WL.part 33 rfl (fun hE70 => ?_) (fun hE70 => ?_)
            · refine WL.gS rfl rfl rfl rfl ?_
              refine WL.gS rfl rfl rfl rfl ?_
              refine WL.gS rfl rfl rfl rfl ?_
              refine WL.gS rfl rfl rfl rfl ?_
              refine WL.gS rfl rfl rfl rfl ?_
              refine WL.gS rfl rfl rfl rfl ?_
              refine WL.gS rfl rfl rfl rfl ?_
              refine WL.y (Y.pick (b := true) rfl rfl) rfl ?_
              refine WL.ren (v' := .bool ((decide (4 < rest65)) || ((decide (rest65 = 4)) && (decide ((m66 % 2) = 1))))) 41 rfl (congrArg Value.bool (orT hE70)) ?_
              exact WL.nil (At.join () rfl (.cons rfl (.cons rfl (.cons rfl (.cons rfl .nil)))))
            · refine WL.ung rfl rfl ?_
              refine WL.y (Y.move rfl) rfl ?_
              refine WL.ung rfl rfl ?_
              refine WL.y (Y.eql_u (b := 4) rfl rfl) rfl ?_
              refine WL.ung rfl rfl ?_
              refine WL.y (Y.move rfl) rfl ?_
              refine WL.cut 4 (σ := Unit) (fun _ w' => wd16 = w') (fun _ => [(0, vu m66), (1, vi e48), (2, .bool a2), (33, .bool false), (40, .bool ((decide (rest65 = 4)) && (decide ((m66 % 2) = 1))))]) ?_ ?_
              · refine WL.part 36 rfl (fun hE71 => ?_) (fun hE71 => ?_)
                · refine WL.ung rfl rfl ?_
                  refine WL.y (Y.move rfl) rfl ?_
                  refine WL.ung rfl rfl ?_
                  refine WL.y (Y.rem_u (b := 2) (by decide) rfl rfl) rfl ?_
                  refine WL.ung rfl rfl ?_
                  refine WL.y (Y.eql_u (b := 1) rfl rfl) rfl ?_
                  refine WL.ung rfl rfl ?_
                  refine WL.y (Y.pick (b := true) rfl rfl) rfl ?_
                  refine WL.ren (v' := .bool ((decide (rest65 = 4)) && (decide ((m66 % 2) = 1)))) 40 rfl (congrArg Value.bool (andT hE71)) ?_
                  exact WL.nil (At.join () rfl (.cons rfl (.cons rfl (.cons rfl (.cons rfl (.cons rfl .nil))))))
                · refine WL.gS rfl rfl rfl rfl ?_
                  refine WL.gS rfl rfl rfl rfl ?_
                  refine WL.gS rfl rfl rfl rfl ?_
                  refine WL.ung rfl rfl ?_
                  refine WL.y (Y.pick (b := false) rfl rfl) rfl ?_
                  refine WL.ren (v' := .bool ((decide (rest65 = 4)) && (decide ((m66 % 2) = 1)))) 40 rfl (congrArg Value.bool (andF hE71)) ?_
                  exact WL.nil (At.join () rfl (.cons rfl (.cons rfl (.cons rfl (.cons rfl (.cons rfl .nil))))))
              · rintro _ _ rfl
                refine (show WL _ _ _ _ _ [(0, vu m66), (1, vi e48), (2, .bool a2), (33, .bool false), (40, .bool ((decide (rest65 = 4)) && (decide ((m66 % 2) = 1))))] _ from ?_)
                refine WL.y (Y.pick (b := false) rfl rfl) rfl ?_
                refine WL.ren (v' := .bool ((decide (4 < rest65)) || ((decide (rest65 = 4)) && (decide ((m66 % 2) = 1))))) 41 rfl (congrArg Value.bool (orF hE70)) ?_
                exact WL.nil (At.join () rfl (.cons rfl (.cons rfl (.cons rfl (.cons rfl .nil)))))
          · rintro _ _ rfl
            refine (show WL _ _ _ _ _ [(0, vu m66), (1, vi e48), (2, .bool a2), (41, .bool ((decide (4 < rest65)) || ((decide (rest65 = 4)) && (decide ((m66 % 2) = 1)))))] _ from ?_)
            refine WL.nil ?_
            refine At.then ?_
            rcases cnd h with ⟨hc72, h⟩ | ⟨hc72, h⟩
            · refine WC.condT' rfl hc72 ?_
              refine WC.region ?_
              refine WL.y (Y.move rfl) rfl ?_
              refine WL.y (Y.add_u (b := 1) rfl rfl) rfl ?_
              obtain ⟨m73, hm73, h⟩ := lt1 h
              refine WL.yE (Y.assign rfl) (congrArg vu hm73.symm) rfl ?_
              refine WL.nil ?_
              exact At.join (σ := UInt64) m73 ⟨some1 h, rfl⟩ (.cons rfl (.cons rfl (.cons rfl .nil)))
            · refine WC.condF' rfl hc72 ?_
              refine WC.skip ?_
              exact At.join (σ := UInt64) m66 ⟨some1 h, rfl⟩ (.cons rfl (.cons rfl (.cons rfl .nil)))
        · rintro m67 _ ⟨rfl, rfl⟩
          replace h := hk69
          try dsimp only at h
          refine (show At _ _ _ [(0, vu m67), (1, vi e48), (2, .bool a2)] _ from ?_)
          refine At.then ?_
          refine WC.seq ?_
          obtain ⟨p76, h, hk77⟩ := bnd h
          refine WC.join (σ := (UInt64 × Int)) (fun x w' => (x.1, x.2) = p76 ∧ wd16 = w') (fun x => [(0, vu x.1), (1, vi x.2), (2, .bool a2)]) ?_ ?_
          · refine WC.seq ?_
            refine WC.region ?_
            refine WL.y (Y.move rfl) rfl ?_
            refine WL.y (Y.geq_u (b := 9007199254740992) rfl rfl) rfl ?_
            refine WL.nil ?_
            refine At.then ?_
            rcases cnd h with ⟨hc78, h⟩ | ⟨hc78, h⟩
            · refine WC.condT' rfl hc78 ?_
              refine WC.seq ?_
              refine WC.region ?_
              refine WL.y (Y.move rfl) rfl ?_
              refine WL.y (Y.quo_u (b := 2) (by decide) rfl rfl) rfl ?_
              obtain ⟨m79, hm79, h⟩ := lt1 h
              refine WL.yE (Y.assign rfl) (congrArg vu hm79.symm) rfl ?_
              refine WL.nil ?_
              refine At.then ?_
              refine WC.region ?_
              refine WL.y (Y.move rfl) rfl ?_
              refine WL.y (Y.add_i rfl rfl) rfl ?_
              obtain ⟨e80, he80, h⟩ := lt1 h
              refine WL.yE (Y.assign rfl) (congrArg vi he80.symm) rfl ?_
              refine WL.nil ?_
              exact At.join (σ := (UInt64 × Int)) (m79, e80) ⟨some1 h, rfl⟩ (.cons rfl (.cons rfl (.cons rfl .nil)))
            · refine WC.condF' rfl hc78 ?_
              refine WC.skip ?_
              exact At.join (σ := (UInt64 × Int)) (m67, e48) ⟨some1 h, rfl⟩ (.cons rfl (.cons rfl (.cons rfl .nil)))
          · rintro ⟨m74, e75⟩ _ ⟨rfl, rfl⟩
            replace h := hk77
            try dsimp only at h
            refine (show At _ _ _ [(0, vu m74), (1, vi e75), (2, .bool a2)] _ from ?_)
            refine At.then ?_
            refine WC.seq ?_
            refine WC.region ?_
            refine WL.y (Y.assign (v := vu 9218868437227405312) rfl) rfl ?_
            refine WL.nil ?_
            refine At.then ?_
            refine WC.seq ?_
            obtain ⟨p82, h, hk83⟩ := bnd h
            refine WC.join (σ := UInt64) (fun x w' => x = p82 ∧ wd16 = w') (fun x => [(2, .bool a2), (8, vu x)]) ?_ ?_
            · refine WC.seq ?_
              refine WC.region ?_
              refine WL.y (Y.move rfl) rfl ?_
              refine WL.y (Y.lss_i rfl rfl) rfl ?_
              refine WL.nil ?_
              refine At.then ?_
              rcases cnd h with ⟨hc84, h⟩ | ⟨hc84, h⟩
              · refine WC.condT' rfl hc84 ?_
                refine WC.seq ?_
                refine WC.region ?_
                refine WL.y (Y.move rfl) rfl ?_
                refine WL.y (Y.assign rfl) rfl ?_
                refine WL.nil ?_
                refine At.then ?_
                refine WC.seq ?_
                refine WC.region ?_
                refine WL.y (Y.move rfl) rfl ?_
                refine WL.y (Y.geq_u (b := 4503599627370496) rfl rfl) rfl ?_
                refine WL.nil ?_
                refine At.then ?_
                rcases cnd h with ⟨hc85, h⟩ | ⟨hc85, h⟩
                · refine WC.condT' rfl hc85 ?_
                  refine WC.region ?_
                  refine WL.y (Y.move rfl) rfl ?_
                  refine WL.y (Y.sub_u (b := 4503599627370496) rfl rfl) rfl ?_
                  refine WL.y (Y.move rfl) rfl ?_
                  refine WL.y (Y.conv_iu ty3.u ty22.u rfl) rfl ?_
                  refine WL.y (Y.mul_u (b := 4503599627370496) rfl rfl) rfl ?_
                  refine WL.y (Y.add_u rfl rfl) rfl ?_
                  obtain ⟨out86, hout86, h⟩ := lt1 h
                  refine WL.yE (Y.assign rfl) (congrArg vu hout86.symm) rfl ?_
                  refine WL.nil ?_
                  exact At.join (σ := UInt64) out86 ⟨some1 h, rfl⟩ (.cons rfl (.cons rfl .nil))
                · refine WC.condF' rfl hc85 ?_
                  refine WC.skip ?_
                  exact At.join (σ := UInt64) m74 ⟨some1 h, rfl⟩ (.cons rfl (.cons rfl .nil))
              · refine WC.condF' rfl hc84 ?_
                refine WC.skip ?_
                exact At.join (σ := UInt64) 9218868437227405312 ⟨some1 h, rfl⟩ (.cons rfl (.cons rfl .nil))
            · rintro out81 _ ⟨rfl, rfl⟩
              replace h := hk83
              try dsimp only at h
              refine (show At _ _ _ [(2, .bool a2), (8, vu out81)] _ from ?_)
              refine At.then ?_
              refine WC.seq ?_
              refine WC.seq ?_
              refine WC.region ?_
              refine WL.y (Y.move rfl) rfl ?_
              refine WL.nil ?_
              refine At.then ?_
              rcases cnd h with ⟨hc87, h⟩ | ⟨hc87, h⟩
              · refine WC.condT' rfl hc87 ?_
                refine WC.seq ?_
                refine WC.region ?_
                refine WL.y (Y.move rfl) rfl ?_
                refine WL.y (Y.add_u (b := 9223372036854775808) rfl rfl) rfl ?_
                obtain ⟨t88, ht88, h⟩ := lt1 h
                refine WL.yE (Y.assign rfl) (congrArg vu ht88.symm) rfl ?_
                refine WL.nil ?_
                refine At.then ?_
                refine WC.ret ?_
                refine At.thenR ?_
                obtain rfl := some1 h
                have hs89 : Stp [] (Lg.O0 (fun _ => False)) w O15 wd16 := (Stp.up hst17 rfl)
                exact At.res (.inl rfl) rfl (.tmp rfl .nil) ⟨rfl, (Stp.ext hs89 rfl rfl)⟩
              · refine WC.condF' rfl hc87 ?_
                refine WC.skip ?_
                refine At.then ?_
                refine WC.seq ?_
                refine WC.region ?_
                refine WL.y (Y.move rfl) rfl ?_
                refine WL.y (Y.assign rfl) rfl ?_
                refine WL.nil ?_
                refine At.then ?_
                refine WC.ret ?_
                obtain rfl := some1 h
                have hs90 : Stp [] (Lg.O0 (fun _ => False)) w O15 wd16 := (Stp.up hst17 rfl)
                exact At.res (.inl rfl) rfl (.tmp rfl .nil) ⟨rfl, (Stp.ext hs90 rfl rfl)⟩

theorem c_ref05_Add {a0 : UInt64} {a1 : UInt64} {w : World} {r0 : UInt64} (h : ref05_Add a0 a1 = some r0) : Rets Try.prog 9 [vu a0, vu a1] w (fun v w' => v = vu r0 ∧ Ext w w') := by
  unfold ref05_Add at h
  refine Rets.enter Try.func9 rfl rfl ?_
  refine (show WC _ _ _ _ [(0, vu a0), (1, vu a1)] _ from ?_)
  refine WC.seq ?_
  refine WC.region ?_
  refine WL.y (Y.assign (v := vu 0) rfl) rfl ?_
  refine WL.nil ?_
  refine At.then ?_
  refine WC.seq ?_
  refine WC.seq ?_
  refine WC.region ?_
  refine WL.y (Y.move rfl) rfl ?_
  obtain ⟨r11, hp12, h⟩ := bnd h
  refine WL.call (vals := [vu a0]) kok15 rfl rfl (c_ref05_Odd hp12) ?_
  rintro vr15 wd14 ⟨rfl, hm13⟩
  obtain ⟨O16, hold17, hnew18, hst19⟩ := adoptE (Lg.O0 (fun _ => False)) (fun k => 1) hm13
  refine WL.y (Y.move rfl) rfl ?_
  obtain ⟨p24, h, hk25⟩ := bnd h
  refine WL.cut 3 (σ := (Bool × Own)) (fun x w' => x.1 = p24 ∧ Stp [] O16 wd14 x.2 w') (fun x => [(0, vu a0), (1, vu a1), (16, .bool x.1)]) ?_ ?_
  · rcases cnd h with ⟨hE26, h⟩ | ⟨hE26, h⟩
    · refine WL.ren 13 rfl (congrArg Value.bool hE26) ?_
      refine WL.gS rfl rfl rfl rfl ?_
      refine WL.gS rfl rfl rfl rfl ?_
      refine WL.y (Y.pick (b := true) rfl rfl) rfl ?_
      exact WL.nil (At.join (σ := (Bool × Own)) (true, O16) ⟨some1 h, (Stp.refl _ _ _)⟩ (.cons rfl (.cons rfl (.cons rfl .nil))))
    · refine WL.ren 13 rfl (congrArg Value.bool hE26) ?_
      refine WL.ung rfl rfl ?_
      refine WL.y (Y.move rfl) rfl ?_
      refine WL.ung rfl rfl ?_
      obtain ⟨r27, hp28, h⟩ := bnd h
      refine WL.call (vals := [vu a1]) kok15 rfl rfl (c_ref05_Odd hp28) ?_
      rintro vr31 wd30 ⟨rfl, hm29⟩
      obtain ⟨O32, hold33, hnew34, hst35⟩ := adoptE O16 (fun k => 1) hm29
      refine WL.y (Y.pick (b := false) rfl rfl) rfl ?_
      exact WL.nil (At.join (σ := (Bool × Own)) (r27, O32) ⟨some1 h, (Stp.up hst35 rfl)⟩ (.cons rfl (.cons rfl (.cons rfl .nil))))
  · rintro ⟨x20, O21⟩ wd22 ⟨rfl, hst23⟩
    replace h := hk25
    try dsimp only at h hst23
    refine (show WL _ _ _ _ _ [(0, vu a0), (1, vu a1), (16, .bool x20)] _ from ?_)
    refine WL.nil ?_
    refine At.then ?_
    rcases cnd h with ⟨hc36, h⟩ | ⟨hc36, h⟩
    · refine WC.condT' rfl hc36 ?_
      refine WC.seq ?_
      refine WC.region ?_
      refine WL.y (Y.assign (v := vu 9221120237041090561) rfl) rfl ?_
      refine WL.nil ?_
      refine At.then ?_
      refine WC.ret ?_
      refine At.thenR ?_
      obtain rfl := some1 h
      have hs37 : Stp [] (Lg.O0 (fun _ => False)) w O21 wd22 := (Stp.trans (Stp.up hst19 rfl) (Stp.up hst23 rfl))
      exact At.res (.inl rfl) rfl (.tmp rfl .nil) ⟨rfl, (Stp.ext hs37 rfl rfl)⟩
    · refine WC.condF' rfl hc36 ?_
      refine WC.skip ?_
      refine At.then ?_
      refine WC.seq ?_
      refine WC.seq ?_
      refine WC.region ?_
      refine WL.y (Y.move rfl) rfl ?_
      obtain ⟨r38, hp39, h⟩ := bnd h
      refine WL.call (vals := [vu a0]) kok17 rfl rfl (c_ref05_Finite hp39) ?_
      rintro vr42 wd41 ⟨rfl, hm40⟩
      obtain ⟨O43, hold44, hnew45, hst46⟩ := adoptE O21 (fun k => 1) hm40
      refine WL.y (Y.not rfl) rfl ?_
      refine WL.y (Y.move rfl) rfl ?_
      obtain ⟨p51, h, hk52⟩ := bnd h
      refine WL.cut 4 (σ := (Bool × Own)) (fun x w' => x.1 = p51 ∧ Stp [] O43 wd41 x.2 w') (fun x => [(0, vu a0), (1, vu a1), (24, .bool x.1)]) ?_ ?_
      · rcases cnd h with ⟨hE53, h⟩ | ⟨hE53, h⟩
        · refine WL.ren 20 rfl (congrArg Value.bool hE53) ?_
          refine WL.ung rfl rfl ?_
          refine WL.y (Y.move rfl) rfl ?_
          refine WL.ung rfl rfl ?_
          obtain ⟨r54, hp55, h⟩ := bnd h
          refine WL.call (vals := [vu a1]) kok17 rfl rfl (c_ref05_Finite hp55) ?_
          rintro vr58 wd57 ⟨rfl, hm56⟩
          obtain ⟨O59, hold60, hnew61, hst62⟩ := adoptE O43 (fun k => 1) hm56
          refine WL.ung rfl rfl ?_
          refine WL.y (Y.not rfl) rfl ?_
          refine WL.y (Y.pick (b := true) rfl rfl) rfl ?_
          exact WL.nil (At.join (σ := (Bool × Own)) ((!r54), O59) ⟨some1 h, (Stp.up hst62 rfl)⟩ (.cons rfl (.cons rfl (.cons rfl .nil))))
        · refine WL.ren 20 rfl (congrArg Value.bool hE53) ?_
          refine WL.gS rfl rfl rfl rfl ?_
          refine WL.gS rfl rfl rfl rfl ?_
          refine WL.gS rfl rfl rfl rfl ?_
          refine WL.y (Y.pick (b := false) rfl rfl) rfl ?_
          exact WL.nil (At.join (σ := (Bool × Own)) (false, O43) ⟨some1 h, (Stp.refl _ _ _)⟩ (.cons rfl (.cons rfl (.cons rfl .nil))))
      · rintro ⟨x47, O48⟩ wd49 ⟨rfl, hst50⟩
        replace h := hk52
        try dsimp only at h hst50
        refine (show WL _ _ _ _ _ [(0, vu a0), (1, vu a1), (24, .bool x47)] _ from ?_)
        refine WL.y (Y.move rfl) rfl ?_
        refine WL.cut 4 (σ := Unit) (fun _ w' => wd49 = w') (fun _ => [(0, vu a0), (1, vu a1), (29, .bool (x47 && (!decide (a0 = a1))))]) ?_ ?_
        · refine WL.part 25 rfl (fun hE63 => ?_) (fun hE63 => ?_)
          · refine WL.ung rfl rfl ?_
            refine WL.y (Y.move rfl) rfl ?_
            refine WL.ung rfl rfl ?_
            refine WL.y (Y.move rfl) rfl ?_
            refine WL.ung rfl rfl ?_
            refine WL.y (Y.neq_u rfl rfl) rfl ?_
            refine WL.y (Y.pick (b := true) rfl rfl) rfl ?_
            refine WL.ren (v' := .bool (x47 && (!decide (a0 = a1)))) 29 rfl (congrArg Value.bool (andT hE63)) ?_
            exact WL.nil (At.join () rfl (.cons rfl (.cons rfl (.cons rfl .nil))))
          · refine WL.gS rfl rfl rfl rfl ?_
            refine WL.gS rfl rfl rfl rfl ?_
            refine WL.gS rfl rfl rfl rfl ?_
            refine WL.y (Y.pick (b := false) rfl rfl) rfl ?_
            refine WL.ren (v' := .bool (x47 && (!decide (a0 = a1)))) 29 rfl (congrArg Value.bool (andF hE63)) ?_
            exact WL.nil (At.join () rfl (.cons rfl (.cons rfl (.cons rfl .nil))))
        · rintro _ _ rfl
          refine (show WL _ _ _ _ _ [(0, vu a0), (1, vu a1), (29, .bool (x47 && (!decide (a0 = a1))))] _ from ?_)
          refine WL.nil ?_
          refine At.then ?_
          rcases cnd h with ⟨hc64, h⟩ | ⟨hc64, h⟩
          · refine WC.condT' rfl hc64 ?_
            refine WC.seq ?_
            refine WC.region ?_
            refine WL.y (Y.assign (v := vu 9221120237041090561) rfl) rfl ?_
            refine WL.nil ?_
            refine At.then ?_
            refine WC.ret ?_
            refine At.thenR ?_
            obtain rfl := some1 h
            have hs65 : Stp [] (Lg.O0 (fun _ => False)) w O48 wd49 := (Stp.trans (Stp.up hst19 rfl) (Stp.trans (Stp.up hst23 rfl) (Stp.trans (Stp.up hst46 rfl) (Stp.up hst50 rfl))))
            exact At.res (.inl rfl) rfl (.tmp rfl .nil) ⟨rfl, (Stp.ext hs65 rfl rfl)⟩
          · refine WC.condF' rfl hc64 ?_
            refine WC.skip ?_
            refine At.then ?_
            refine WC.seq ?_
            refine WC.seq ?_
            refine WC.region ?_
            refine WL.y (Y.move rfl) rfl ?_
            obtain ⟨r66, hp67, h⟩ := bnd h
            refine WL.call (vals := [vu a0]) kok17 rfl rfl (c_ref05_Finite hp67) ?_
            rintro vr70 wd69 ⟨rfl, hm68⟩
            obtain ⟨O71, hold72, hnew73, hst74⟩ := adoptE O48 (fun k => 1) hm68
            refine WL.y (Y.not rfl) rfl ?_
            refine WL.nil ?_
            refine At.then ?_
            rcases cnd h with ⟨hc75, h⟩ | ⟨hc75, h⟩
            · refine WC.condT' rfl hc75 ?_
              refine WC.seq ?_
              refine WC.region ?_
              refine WL.y (Y.move rfl) rfl ?_
              refine WL.y (Y.assign rfl) rfl ?_
              refine WL.nil ?_
              refine At.then ?_
              refine WC.ret ?_
              refine At.thenR ?_
              obtain rfl := some1 h
              have hs76 : Stp [] (Lg.O0 (fun _ => False)) w O71 wd69 := (Stp.trans (Stp.up hst19 rfl) (Stp.trans (Stp.up hst23 rfl) (Stp.trans (Stp.up hst46 rfl) (Stp.trans (Stp.up hst50 rfl) (Stp.up hst74 rfl)))))
              exact At.res (.inl rfl) rfl (.tmp rfl .nil) ⟨rfl, (Stp.ext hs76 rfl rfl)⟩
            · refine WC.condF' rfl hc75 ?_
              refine WC.skip ?_
              refine At.then ?_
              refine WC.seq ?_
              refine WC.seq ?_
              refine WC.region ?_
              refine WL.y (Y.move rfl) rfl ?_
              obtain ⟨r77, hp78, h⟩ := bnd h
              refine WL.call (vals := [vu a1]) kok17 rfl rfl (c_ref05_Finite hp78) ?_
              rintro vr81 wd80 ⟨rfl, hm79⟩
              obtain ⟨O82, hold83, hnew84, hst85⟩ := adoptE O71 (fun k => 1) hm79
              refine WL.y (Y.not rfl) rfl ?_
              refine WL.nil ?_
              refine At.then ?_
              rcases cnd h with ⟨hc86, h⟩ | ⟨hc86, h⟩
              · refine WC.condT' rfl hc86 ?_
                refine WC.seq ?_
                refine WC.region ?_
                refine WL.y (Y.move rfl) rfl ?_
                refine WL.y (Y.assign rfl) rfl ?_
                refine WL.nil ?_
                refine At.then ?_
                refine WC.ret ?_
                refine At.thenR ?_
                obtain rfl := some1 h
                have hs87 : Stp [] (Lg.O0 (fun _ => False)) w O82 wd80 := (Stp.trans (Stp.up hst19 rfl) (Stp.trans (Stp.up hst23 rfl) (Stp.trans (Stp.up hst46 rfl) (Stp.trans (Stp.up hst50 rfl) (Stp.trans (Stp.up hst74 rfl) (Stp.up hst85 rfl))))))
                exact At.res (.inl rfl) rfl (.tmp rfl .nil) ⟨rfl, (Stp.ext hs87 rfl rfl)⟩
              · refine WC.condF' rfl hc86 ?_
                refine WC.skip ?_
                refine At.then ?_
                refine WC.seq ?_
                refine WC.region ?_
                refine WL.y (Y.move rfl) rfl ?_
                obtain ⟨⟨r88, r89⟩, hp90, h⟩ := bnd h
                refine WL.call (vals := [vu a0]) kok26 rfl rfl (c_ref05_wide hp90) ?_
                rintro vr93 wd92 ⟨rfl, hm91⟩
                obtain ⟨O94, hold95, hnew96, hst97⟩ := adoptE O82 (fun k => 1) hm91
                refine WL.y (Y.move rfl) rfl ?_
                refine WL.y (Y.extract rfl rfl) rfl ?_
                refine WL.y (Y.extract rfl rfl) rfl ?_
                refine WL.y (Y.assign rfl) rfl ?_
                refine WL.y (Y.assign rfl) rfl ?_
                refine WL.nil ?_
                refine At.then ?_
                refine WC.seq ?_
                refine WC.region ?_
                refine WL.y (Y.move rfl) rfl ?_
                obtain ⟨⟨r98, r99⟩, hp100, h⟩ := bnd h
                refine WL.call (vals := [vu a1]) kok26 rfl rfl (c_ref05_wide hp100) ?_
                rintro vr103 wd102 ⟨rfl, hm101⟩
                obtain ⟨O104, hold105, hnew106, hst107⟩ := adoptE O94 (fun k => 1) hm101
                refine WL.y (Y.move rfl) rfl ?_
                refine WL.y (Y.extract rfl rfl) rfl ?_
                refine WL.y (Y.extract rfl rfl) rfl ?_
                refine WL.y (Y.assign rfl) rfl ?_
                refine WL.y (Y.assign rfl) rfl ?_
                refine WL.nil ?_
                refine At.then ?_
                refine WC.seq ?_
                refine WC.region ?_
                refine WL.y (Y.move rfl) rfl ?_
                refine WL.y (Y.mul_u (a := 8) rfl rfl) rfl ?_
                obtain ⟨m108, hm108, h⟩ := lt1 h
                refine WL.yE (Y.assign rfl) (congrArg vu hm108.symm) rfl ?_
                refine WL.nil ?_
                refine At.then ?_
                refine WC.seq ?_
                refine WC.region ?_
                refine WL.y (Y.move rfl) rfl ?_
                refine WL.y (Y.mul_u (a := 8) rfl rfl) rfl ?_
                obtain ⟨nv109, hnv109, h⟩ := lt1 h
                refine WL.yE (Y.assign rfl) (congrArg vu hnv109.symm) rfl ?_
                refine WL.nil ?_
                refine At.then ?_
                refine WC.seq ?_
                obtain ⟨p116, h, hk117⟩ := bnd h
                refine WC.join (σ := (UInt64 × Int × UInt64 × Own)) (fun x w' => (x.1, x.2.1, x.2.2.1) = p116 ∧ Stp [] O104 wd102 x.2.2.2 w') (fun x => [(0, vu a0), (1, vu a1), (5, vu x.1), (6, vi x.2.1), (7, vu x.2.2.1)]) ?_ ?_
                · refine WC.seq ?_
                  refine WC.region ?_
                  refine WL.y (Y.move rfl) rfl ?_
                  refine WL.y (Y.move rfl) rfl ?_
                  refine WL.y (Y.lss_i rfl rfl) rfl ?_
                  refine WL.nil ?_
                  refine At.then ?_
                  rcases cnd h with ⟨hc118, h⟩ | ⟨hc118, h⟩
                  · refine WC.condT' rfl hc118 ?_
                    refine WC.seq ?_
                    refine WC.region ?_
                    refine WL.y (Y.move rfl) rfl ?_
                    refine WL.y (Y.move rfl) rfl ?_
                    refine WL.y (Y.move rfl) rfl ?_
                    refine WL.y (Y.sub_i rfl rfl) rfl ?_
                    obtain ⟨r119, hp120, h⟩ := bnd h
                    refine WL.call (vals := [vu m108, vi (w64 (r99 - r89))]) kok27 rfl rfl (c_ref05_shifted hp120) ?_
                    rintro vr123 wd122 ⟨rfl, hm121⟩
                    obtain ⟨O124, hold125, hnew126, hst127⟩ := adoptE O104 (fun k => 1) hm121
                    refine WL.y (Y.assign rfl) rfl ?_
                    refine WL.nil ?_
                    refine At.then ?_
                    refine WC.region ?_
                    refine WL.y (Y.move rfl) rfl ?_
                    refine WL.y (Y.assign rfl) rfl ?_
                    refine WL.nil ?_
                    exact At.join (σ := (UInt64 × Int × UInt64 × Own)) (r119, r99, nv109, O124) ⟨some1 h, (Stp.up hst127 rfl)⟩ (.cons rfl (.cons rfl (.cons rfl (.cons rfl (.cons rfl .nil)))))
                  · refine WC.condF' rfl hc118 ?_
                    refine WC.region ?_
                    refine WL.y (Y.move rfl) rfl ?_
                    refine WL.y (Y.move rfl) rfl ?_
                    refine WL.y (Y.move rfl) rfl ?_
                    refine WL.y (Y.sub_i rfl rfl) rfl ?_
                    obtain ⟨r128, hp129, h⟩ := bnd h
                    refine WL.call (vals := [vu nv109, vi (w64 (r89 - r99))]) kok27 rfl rfl (c_ref05_shifted hp129) ?_
                    rintro vr132 wd131 ⟨rfl, hm130⟩
                    obtain ⟨O133, hold134, hnew135, hst136⟩ := adoptE O104 (fun k => 1) hm130
                    refine WL.y (Y.assign rfl) rfl ?_
                    refine WL.nil ?_
                    exact At.join (σ := (UInt64 × Int × UInt64 × Own)) (m108, r89, r128, O133) ⟨some1 h, (Stp.up hst136 rfl)⟩ (.cons rfl (.cons rfl (.cons rfl (.cons rfl (.cons rfl .nil)))))
                · rintro ⟨m110, e111, nv112, O113⟩ wd114 ⟨rfl, hst115⟩
                  replace h := hk117
                  try dsimp only at h hst115
                  refine (show At _ _ _ [(0, vu a0), (1, vu a1), (5, vu m110), (6, vi e111), (7, vu nv112)] _ from ?_)
                  refine At.then ?_
                  refine WC.seq ?_
                  refine WC.region ?_
                  refine WL.y (Y.move rfl) rfl ?_
                  refine WL.y (Y.geq_u (b := 9223372036854775808) rfl rfl) rfl ?_
                  refine WL.y (Y.move rfl) rfl ?_
                  refine WL.y (Y.geq_u (b := 9223372036854775808) rfl rfl) rfl ?_
                  obtain ⟨an137, han137, h⟩ := lt1 h
                  refine WL.yE (Y.assign rfl) (congrArg Value.bool han137.symm) rfl ?_
                  obtain ⟨bn138, hbn138, h⟩ := lt1 h
                  refine WL.yE (Y.assign rfl) (congrArg Value.bool hbn138.symm) rfl ?_
                  refine WL.nil ?_
                  refine At.then ?_
                  refine WC.seq ?_
                  refine WC.seq ?_
                  refine WC.region ?_
                  refine WL.y (Y.move rfl) rfl ?_
                  refine WL.y (Y.move rfl) rfl ?_
                  refine WL.y (Y.eqlB rfl rfl ty4.u) rfl ?_
                  refine WL.nil ?_
                  refine At.then ?_
                  rcases cnd h with ⟨hc139, h⟩ | ⟨hc139, h⟩
                  · refine WC.condT' rfl hc139 ?_
                    refine WC.seq ?_
                    refine WC.seq ?_
                    refine WC.region ?_
                    refine WL.y (Y.move rfl) rfl ?_
                    refine WL.y (Y.eql_u (b := 0) rfl rfl) rfl ?_
                    refine WL.y (Y.move rfl) rfl ?_
                    refine WL.cut 3 (σ := Unit) (fun _ w' => wd114 = w') (fun _ => [(0, vu a0), (5, vu m110), (6, vi e111), (7, vu nv112), (9, .bool an137), (78, .bool ((decide (m110 = 0)) && (decide (nv112 = 0))))]) ?_ ?_
                    · refine WL.part 75 rfl (fun hE140 => ?_) (fun hE140 => ?_)
                      · refine WL.ung rfl rfl ?_
                        refine WL.y (Y.move rfl) rfl ?_
                        refine WL.ung rfl rfl ?_
                        refine WL.y (Y.eql_u (b := 0) rfl rfl) rfl ?_
                        refine WL.y (Y.pick (b := true) rfl rfl) rfl ?_
                        refine WL.ren (v' := .bool ((decide (m110 = 0)) && (decide (nv112 = 0)))) 78 rfl (congrArg Value.bool (andT hE140)) ?_
                        exact WL.nil (At.join () rfl (.cons rfl (.cons rfl (.cons rfl (.cons rfl (.cons rfl (.cons rfl .nil)))))))
                      · refine WL.gS rfl rfl rfl rfl ?_
                        refine WL.gS rfl rfl rfl rfl ?_
                        refine WL.y (Y.pick (b := false) rfl rfl) rfl ?_
                        refine WL.ren (v' := .bool ((decide (m110 = 0)) && (decide (nv112 = 0)))) 78 rfl (congrArg Value.bool (andF hE140)) ?_
                        exact WL.nil (At.join () rfl (.cons rfl (.cons rfl (.cons rfl (.cons rfl (.cons rfl (.cons rfl .nil)))))))
                    · rintro _ _ rfl
                      refine (show WL _ _ _ _ _ [(0, vu a0), (5, vu m110), (6, vi e111), (7, vu nv112), (9, .bool an137), (78, .bool ((decide (m110 = 0)) && (decide (nv112 = 0))))] _ from ?_)
                      refine WL.nil ?_
                      refine At.then ?_
                      rcases cnd h with ⟨hc141, h⟩ | ⟨hc141, h⟩
                      · refine WC.condT' rfl hc141 ?_
                        refine WC.seq ?_
                        refine WC.region ?_
                        refine WL.y (Y.move rfl) rfl ?_
                        refine WL.y (Y.assign rfl) rfl ?_
                        refine WL.nil ?_
                        refine At.then ?_
                        refine WC.ret ?_
                        refine At.thenR ?_
                        refine At.thenR ?_
                        obtain rfl := some1 h
                        have hs142 : Stp [] (Lg.O0 (fun _ => False)) w O113 wd114 := (Stp.trans (Stp.up hst19 rfl) (Stp.trans (Stp.up hst23 rfl) (Stp.trans (Stp.up hst46 rfl) (Stp.trans (Stp.up hst50 rfl) (Stp.trans (Stp.up hst74 rfl) (Stp.trans (Stp.up hst85 rfl) (Stp.trans (Stp.up hst97 rfl) (Stp.trans (Stp.up hst107 rfl) (Stp.up hst115 rfl)))))))))
                        exact At.res (.inl rfl) rfl (.tmp rfl .nil) ⟨rfl, (Stp.ext hs142 rfl rfl)⟩
                      · refine WC.condF' rfl hc141 ?_
                        refine WC.skip ?_
                        refine At.then ?_
                        refine WC.seq ?_
                        refine WC.region ?_
                        refine WL.y (Y.move rfl) rfl ?_
                        refine WL.y (Y.move rfl) rfl ?_
                        refine WL.y (Y.add_u rfl rfl) rfl ?_
                        refine WL.y (Y.move rfl) rfl ?_
                        refine WL.y (Y.move rfl) rfl ?_
                        obtain ⟨r143, hp144, h⟩ := bnd h
                        refine WL.call (vals := [vu (m110 + nv112), vi e111, .bool an137]) kok28 rfl rfl (c_ref05_round hp144) ?_
                        rintro vr147 wd146 ⟨rfl, hm145⟩
                        obtain ⟨O148, hold149, hnew150, hst151⟩ := adoptE O113 (fun k => 1) hm145
                        refine WL.y (Y.assign rfl) rfl ?_
                        refine WL.nil ?_
                        refine At.then ?_
                        refine WC.ret ?_
                        refine At.thenR ?_
                        obtain rfl := some1 h
                        have hs152 : Stp [] (Lg.O0 (fun _ => False)) w O148 wd146 := (Stp.trans (Stp.up hst19 rfl) (Stp.trans (Stp.up hst23 rfl) (Stp.trans (Stp.up hst46 rfl) (Stp.trans (Stp.up hst50 rfl) (Stp.trans (Stp.up hst74 rfl) (Stp.trans (Stp.up hst85 rfl) (Stp.trans (Stp.up hst97 rfl) (Stp.trans (Stp.up hst107 rfl) (Stp.trans (Stp.up hst115 rfl) (Stp.up hst151 rfl))))))))))
                        exact At.res (.inl rfl) rfl (.tmp rfl .nil) ⟨rfl, (Stp.ext hs152 rfl rfl)⟩
                  · refine WC.condF' rfl hc139 ?_
                    refine WC.skip ?_
                    refine At.then ?_
                    refine WC.seq ?_
                    refine WC.seq ?_
                    refine WC.region ?_
                    refine WL.y (Y.move rfl) rfl ?_
                    refine WL.y (Y.move rfl) rfl ?_
                    refine WL.y (Y.geq_u rfl rfl) rfl ?_
                    refine WL.nil ?_
                    refine At.then ?_
                    rcases cnd h with ⟨hc153, h⟩ | ⟨hc153, h⟩
                    · refine WC.condT' rfl hc153 ?_
                      refine WC.seq ?_
                      refine WC.region ?_
                      refine WL.y (Y.move rfl) rfl ?_
                      refine WL.y (Y.move rfl) rfl ?_
                      refine WL.y (Y.sub_u rfl rfl) rfl ?_
                      refine WL.y (Y.move rfl) rfl ?_
                      refine WL.y (Y.move rfl) rfl ?_
                      refine WL.y (Y.move rfl) rfl ?_
                      refine WL.cut 4 (σ := Unit) (fun _ w' => wd114 = w') (fun _ => [(91, vu (m110 - nv112)), (92, vi e111), (98, .bool (an137 && (decide (nv112 < m110))))]) ?_ ?_
                      · refine WL.part 94 rfl (fun hE154 => ?_) (fun hE154 => ?_)
                        · refine WL.ung rfl rfl ?_
                          refine WL.y (Y.move rfl) rfl ?_
                          refine WL.ung rfl rfl ?_
                          refine WL.y (Y.move rfl) rfl ?_
                          refine WL.ung rfl rfl ?_
                          refine WL.y (Y.gtr_u rfl rfl) rfl ?_
                          refine WL.y (Y.pick (b := true) rfl rfl) rfl ?_
                          refine WL.ren (v' := .bool (an137 && (decide (nv112 < m110)))) 98 rfl (congrArg Value.bool (andT hE154)) ?_
                          exact WL.nil (At.join () rfl (.cons rfl (.cons rfl (.cons rfl .nil))))
                        · refine WL.gS rfl rfl rfl rfl ?_
                          refine WL.gS rfl rfl rfl rfl ?_
                          refine WL.gS rfl rfl rfl rfl ?_
                          refine WL.y (Y.pick (b := false) rfl rfl) rfl ?_
                          refine WL.ren (v' := .bool (an137 && (decide (nv112 < m110)))) 98 rfl (congrArg Value.bool (andF hE154)) ?_
                          exact WL.nil (At.join () rfl (.cons rfl (.cons rfl (.cons rfl .nil))))
                      · rintro _ _ rfl
                        refine (show WL _ _ _ _ _ [(91, vu (m110 - nv112)), (92, vi e111), (98, .bool (an137 && (decide (nv112 < m110))))] _ from ?_)
                        obtain ⟨r155, hp156, h⟩ := bnd h
                        refine WL.call (vals := [vu (m110 - nv112), vi e111, .bool (an137 && (decide (nv112 < m110)))]) kok28 rfl rfl (c_ref05_round hp156) ?_
                        rintro vr159 wd158 ⟨rfl, hm157⟩
                        obtain ⟨O160, hold161, hnew162, hst163⟩ := adoptE O113 (fun k => 1) hm157
                        refine WL.y (Y.assign rfl) rfl ?_
                        refine WL.nil ?_
                        refine At.then ?_
                        refine WC.ret ?_
                        refine At.thenR ?_
                        obtain rfl := some1 h
                        have hs164 : Stp [] (Lg.O0 (fun _ => False)) w O160 wd158 := (Stp.trans (Stp.up hst19 rfl) (Stp.trans (Stp.up hst23 rfl) (Stp.trans (Stp.up hst46 rfl) (Stp.trans (Stp.up hst50 rfl) (Stp.trans (Stp.up hst74 rfl) (Stp.trans (Stp.up hst85 rfl) (Stp.trans (Stp.up hst97 rfl) (Stp.trans (Stp.up hst107 rfl) (Stp.trans (Stp.up hst115 rfl) (Stp.up hst163 rfl))))))))))
                        exact At.res (.inl rfl) rfl (.tmp rfl .nil) ⟨rfl, (Stp.ext hs164 rfl rfl)⟩
                    · refine WC.condF' rfl hc153 ?_
                      refine WC.skip ?_
                      refine At.then ?_
                      refine WC.seq ?_
                      refine WC.region ?_
                      refine WL.y (Y.move rfl) rfl ?_
                      refine WL.y (Y.move rfl) rfl ?_
                      refine WL.y (Y.sub_u rfl rfl) rfl ?_
                      refine WL.y (Y.move rfl) rfl ?_
                      refine WL.y (Y.move rfl) rfl ?_
                      obtain ⟨r165, hp166, h⟩ := bnd h
                      refine WL.call (vals := [vu (nv112 - m110), vi e111, .bool bn138]) kok28 rfl rfl (c_ref05_round hp166) ?_
                      rintro vr169 wd168 ⟨rfl, hm167⟩
                      obtain ⟨O170, hold171, hnew172, hst173⟩ := adoptE O113 (fun k => 1) hm167
                      refine WL.y (Y.assign rfl) rfl ?_
                      refine WL.nil ?_
                      refine At.then ?_
                      refine WC.ret ?_
                      obtain rfl := some1 h
                      have hs174 : Stp [] (Lg.O0 (fun _ => False)) w O170 wd168 := (Stp.trans (Stp.up hst19 rfl) (Stp.trans (Stp.up hst23 rfl) (Stp.trans (Stp.up hst46 rfl) (Stp.trans (Stp.up hst50 rfl) (Stp.trans (Stp.up hst74 rfl) (Stp.trans (Stp.up hst85 rfl) (Stp.trans (Stp.up hst97 rfl) (Stp.trans (Stp.up hst107 rfl) (Stp.trans (Stp.up hst115 rfl) (Stp.up hst173 rfl))))))))))
                      exact At.res (.inl rfl) rfl (.tmp rfl .nil) ⟨rfl, (Stp.ext hs174 rfl rfl)⟩

theorem c_ref05_Minus {a0 : UInt64} {w : World} {r0 : UInt64} (h : ref05_Minus a0 = some r0) : Rets Try.prog 22 [vu a0] w (fun v w' => v = vu r0 ∧ Ext w w') := by
  unfold ref05_Minus at h
  refine Rets.enter Try.func22 rfl rfl ?_
  refine (show WC _ _ _ _ [(0, vu a0)] _ from ?_)
  refine WC.seq ?_
  refine WC.region ?_
  refine WL.y (Y.assign (v := vu 0) rfl) rfl ?_
  refine WL.nil ?_
  refine At.then ?_
  refine WC.seq ?_
  refine WC.seq ?_
  refine WC.region ?_
  refine WL.y (Y.move rfl) rfl ?_
  refine WL.y (Y.geq_u (b := 9223372036854775808) rfl rfl) rfl ?_
  refine WL.nil ?_
  refine At.then ?_
  rcases cnd h with ⟨hc11, h⟩ | ⟨hc11, h⟩
  · refine WC.condT' rfl hc11 ?_
    refine WC.seq ?_
    refine WC.region ?_
    refine WL.y (Y.move rfl) rfl ?_
    refine WL.y (Y.sub_u (b := 9223372036854775808) rfl rfl) rfl ?_
    obtain ⟨t12, ht12, h⟩ := lt1 h
    refine WL.yE (Y.assign rfl) (congrArg vu ht12.symm) rfl ?_
    refine WL.nil ?_
    refine At.then ?_
    refine WC.ret ?_
    refine At.thenR ?_
    obtain rfl := some1 h
    have hs13 : Stp [] (Lg.O0 (fun _ => False)) w (Lg.O0 (fun _ => False)) w := (Stp.refl _ _ _)
    exact At.res (.inl rfl) rfl (.tmp rfl .nil) ⟨rfl, (Stp.ext hs13 rfl rfl)⟩
  · refine WC.condF' rfl hc11 ?_
    refine WC.skip ?_
    refine At.then ?_
    refine WC.seq ?_
    refine WC.region ?_
    refine WL.y (Y.move rfl) rfl ?_
    refine WL.y (Y.add_u (b := 9223372036854775808) rfl rfl) rfl ?_
    obtain ⟨t14, ht14, h⟩ := lt1 h
    refine WL.yE (Y.assign rfl) (congrArg vu ht14.symm) rfl ?_
    refine WL.nil ?_
    refine At.then ?_
    refine WC.ret ?_
    obtain rfl := some1 h
    have hs15 : Stp [] (Lg.O0 (fun _ => False)) w (Lg.O0 (fun _ => False)) w := (Stp.refl _ _ _)
    exact At.res (.inl rfl) rfl (.tmp rfl .nil) ⟨rfl, (Stp.ext hs15 rfl rfl)⟩

theorem c_ref05_Sub {a0 : UInt64} {a1 : UInt64} {w : World} {r0 : UInt64} (h : ref05_Sub a0 a1 = some r0) : Rets Try.prog 11 [vu a0, vu a1] w (fun v w' => v = vu r0 ∧ Ext w w') := by
  unfold ref05_Sub at h
  refine Rets.enter Try.func11 rfl rfl ?_
  refine (show WC _ _ _ _ [(0, vu a0), (1, vu a1)] _ from ?_)
  refine WC.seq ?_
  refine WC.region ?_
  refine WL.y (Y.assign (v := vu 0) rfl) rfl ?_
  refine WL.nil ?_
  refine At.then ?_
  refine WC.seq ?_
  refine WC.seq ?_
  refine WC.region ?_
  refine WL.y (Y.move rfl) rfl ?_
  obtain ⟨r11, hp12, h⟩ := bnd h
  refine WL.call (vals := [vu a1]) kok15 rfl rfl (c_ref05_Odd hp12) ?_
  rintro vr15 wd14 ⟨rfl, hm13⟩
  obtain ⟨O16, hold17, hnew18, hst19⟩ := adoptE (Lg.O0 (fun _ => False)) (fun k => 1) hm13
  refine WL.nil ?_
  refine At.then ?_
  rcases cnd h with ⟨hc20, h⟩ | ⟨hc20, h⟩
  · refine WC.condT' rfl hc20 ?_
    refine WC.seq ?_
    refine WC.region ?_
    refine WL.y (Y.assign (v := vu 9221120237041090561) rfl) rfl ?_
    refine WL.nil ?_
    refine At.then ?_
    refine WC.ret ?_
    refine At.thenR ?_
    obtain rfl := some1 h
    have hs21 : Stp [] (Lg.O0 (fun _ => False)) w O16 wd14 := (Stp.up hst19 rfl)
    exact At.res (.inl rfl) rfl (.tmp rfl .nil) ⟨rfl, (Stp.ext hs21 rfl rfl)⟩
  · refine WC.condF' rfl hc20 ?_
    refine WC.skip ?_
    refine At.then ?_
    refine WC.seq ?_
    refine WC.region ?_
    refine WL.y (Y.move rfl) rfl ?_
    refine WL.y (Y.move rfl) rfl ?_
    obtain ⟨r22, hp23, h⟩ := bnd h
    refine WL.call (vals := [vu a1]) kok22 rfl rfl (c_ref05_Minus hp23) ?_
    rintro vr26 wd25 ⟨rfl, hm24⟩
    obtain ⟨O27, hold28, hnew29, hst30⟩ := adoptE O16 (fun k => 1) hm24
    obtain ⟨r31, hp32, h⟩ := bnd h
    refine WL.call (vals := [vu a0, vu r22]) kok9 rfl rfl (c_ref05_Add hp32) ?_
    rintro vr35 wd34 ⟨rfl, hm33⟩
    obtain ⟨O36, hold37, hnew38, hst39⟩ := adoptE O27 (fun k => 1) hm33
    refine WL.y (Y.assign rfl) rfl ?_
    refine WL.nil ?_
    refine At.then ?_
    refine WC.ret ?_
    obtain rfl := some1 h
    have hs40 : Stp [] (Lg.O0 (fun _ => False)) w O36 wd34 := (Stp.trans (Stp.up hst19 rfl) (Stp.trans (Stp.up hst30 rfl) (Stp.up hst39 rfl)))
    exact At.res (.inl rfl) rfl (.tmp rfl .nil) ⟨rfl, (Stp.ext hs40 rfl rfl)⟩

theorem c_ref05_Less {a0 : UInt64} {a1 : UInt64} {w : World} {r0 : Bool} (h : ref05_Less a0 a1 = some r0) : Rets Try.prog 13 [vu a0, vu a1] w (fun v w' => v = .bool r0 ∧ Ext w w') := by
  unfold ref05_Less at h
  refine Rets.enter Try.func13 rfl rfl ?_
  refine (show WC _ _ _ _ [(0, vu a0), (1, vu a1)] _ from ?_)
  refine WC.seq ?_
  refine WC.region ?_
  refine WL.y (Y.assign rfl) rfl ?_
  refine WL.nil ?_
  refine At.then ?_
  refine WC.seq ?_
  refine WC.seq ?_
  refine WC.region ?_
  refine WL.y (Y.move rfl) rfl ?_
  obtain ⟨r11, hp12, h⟩ := bnd h
  refine WL.call (vals := [vu a0]) kok15 rfl rfl (c_ref05_Odd hp12) ?_
  rintro vr15 wd14 ⟨rfl, hm13⟩
  obtain ⟨O16, hold17, hnew18, hst19⟩ := adoptE (Lg.O0 (fun _ => False)) (fun k => 1) hm13
  refine WL.y (Y.move rfl) rfl ?_
  obtain ⟨p24, h, hk25⟩ := bnd h
  refine WL.cut 3 (σ := (Bool × Own)) (fun x w' => x.1 = p24 ∧ Stp [] O16 wd14 x.2 w') (fun x => [(0, vu a0), (1, vu a1), (12, .bool x.1)]) ?_ ?_
  · rcases cnd h with ⟨hE26, h⟩ | ⟨hE26, h⟩
    · refine WL.ren 9 rfl (congrArg Value.bool hE26) ?_
      refine WL.gS rfl rfl rfl rfl ?_
      refine WL.gS rfl rfl rfl rfl ?_
      refine WL.y (Y.pick (b := true) rfl rfl) rfl ?_
      exact WL.nil (At.join (σ := (Bool × Own)) (true, O16) ⟨some1 h, (Stp.refl _ _ _)⟩ (.cons rfl (.cons rfl (.cons rfl .nil))))
    · refine WL.ren 9 rfl (congrArg Value.bool hE26) ?_
      refine WL.ung rfl rfl ?_
      refine WL.y (Y.move rfl) rfl ?_
      refine WL.ung rfl rfl ?_
      obtain ⟨r27, hp28, h⟩ := bnd h
      refine WL.call (vals := [vu a1]) kok15 rfl rfl (c_ref05_Odd hp28) ?_
      rintro vr31 wd30 ⟨rfl, hm29⟩
      obtain ⟨O32, hold33, hnew34, hst35⟩ := adoptE O16 (fun k => 1) hm29
      refine WL.y (Y.pick (b := false) rfl rfl) rfl ?_
      exact WL.nil (At.join (σ := (Bool × Own)) (r27, O32) ⟨some1 h, (Stp.up hst35 rfl)⟩ (.cons rfl (.cons rfl (.cons rfl .nil))))
  · rintro ⟨x20, O21⟩ wd22 ⟨rfl, hst23⟩
    replace h := hk25
    try dsimp only at h hst23
    refine (show WL _ _ _ _ _ [(0, vu a0), (1, vu a1), (12, .bool x20)] _ from ?_)
    refine WL.nil ?_
    refine At.then ?_
    rcases cnd h with ⟨hc36, h⟩ | ⟨hc36, h⟩
    · refine WC.condT' rfl hc36 ?_
      refine WC.seq ?_
      refine WC.region ?_
      refine WL.y (Y.assign rfl) rfl ?_
      refine WL.nil ?_
      refine At.then ?_
      refine WC.ret ?_
      refine At.thenR ?_
      obtain rfl := some1 h
      have hs37 : Stp [] (Lg.O0 (fun _ => False)) w O21 wd22 := (Stp.trans (Stp.up hst19 rfl) (Stp.up hst23 rfl))
      exact At.res (.inl rfl) rfl (.tmp rfl .nil) ⟨rfl, (Stp.ext hs37 rfl rfl)⟩
    · refine WC.condF' rfl hc36 ?_
      refine WC.skip ?_
      refine At.then ?_
      refine WC.seq ?_
      refine WC.region ?_
      refine WL.y (Y.move rfl) rfl ?_
      refine WL.y (Y.rem_u (b := 9223372036854775808) (by decide) rfl rfl) rfl ?_
      refine WL.y (Y.move rfl) rfl ?_
      refine WL.y (Y.rem_u (b := 9223372036854775808) (by decide) rfl rfl) rfl ?_
      obtain ⟨x38, hx38, h⟩ := lt1 h
      refine WL.yE (Y.assign rfl) (congrArg vu hx38.symm) rfl ?_
      obtain ⟨y39, hy39, h⟩ := lt1 h
      refine WL.yE (Y.assign rfl) (congrArg vu hy39.symm) rfl ?_
      refine WL.nil ?_
      refine At.then ?_
      refine WC.seq ?_
      refine WC.seq ?_
      refine WC.region ?_
      refine WL.y (Y.move rfl) rfl ?_
      refine WL.y (Y.eql_u (b := 0) rfl rfl) rfl ?_
      refine WL.y (Y.move rfl) rfl ?_
      refine WL.cut 3 (σ := Unit) (fun _ w' => wd22 = w') (fun _ => [(0, vu a0), (1, vu a1), (5, vu x38), (6, vu y39), (22, .bool ((decide (x38 = 0)) && (decide (y39 = 0))))]) ?_ ?_
      · refine WL.part 19 rfl (fun hE40 => ?_) (fun hE40 => ?_)
        · refine WL.ung rfl rfl ?_
          refine WL.y (Y.move rfl) rfl ?_
          refine WL.ung rfl rfl ?_
          refine WL.y (Y.eql_u (b := 0) rfl rfl) rfl ?_
          refine WL.y (Y.pick (b := true) rfl rfl) rfl ?_
          refine WL.ren (v' := .bool ((decide (x38 = 0)) && (decide (y39 = 0)))) 22 rfl (congrArg Value.bool (andT hE40)) ?_
          exact WL.nil (At.join () rfl (.cons rfl (.cons rfl (.cons rfl (.cons rfl (.cons rfl .nil))))))
        · refine WL.gS rfl rfl rfl rfl ?_
          refine WL.gS rfl rfl rfl rfl ?_
          refine WL.y (Y.pick (b := false) rfl rfl) rfl ?_
          refine WL.ren (v' := .bool ((decide (x38 = 0)) && (decide (y39 = 0)))) 22 rfl (congrArg Value.bool (andF hE40)) ?_
          exact WL.nil (At.join () rfl (.cons rfl (.cons rfl (.cons rfl (.cons rfl (.cons rfl .nil))))))
      · rintro _ _ rfl
        refine (show WL _ _ _ _ _ [(0, vu a0), (1, vu a1), (5, vu x38), (6, vu y39), (22, .bool ((decide (x38 = 0)) && (decide (y39 = 0))))] _ from ?_)
        refine WL.nil ?_
        refine At.then ?_
        rcases cnd h with ⟨hc41, h⟩ | ⟨hc41, h⟩
        · refine WC.condT' rfl hc41 ?_
          refine WC.seq ?_
          refine WC.region ?_
          refine WL.y (Y.assign rfl) rfl ?_
          refine WL.nil ?_
          refine At.then ?_
          refine WC.ret ?_
          refine At.thenR ?_
          obtain rfl := some1 h
          have hs42 : Stp [] (Lg.O0 (fun _ => False)) w O21 wd22 := (Stp.trans (Stp.up hst19 rfl) (Stp.up hst23 rfl))
          exact At.res (.inl rfl) rfl (.tmp rfl .nil) ⟨rfl, (Stp.ext hs42 rfl rfl)⟩
        · refine WC.condF' rfl hc41 ?_
          refine WC.skip ?_
          refine At.then ?_
          refine WC.seq ?_
          refine WC.seq ?_
          refine WC.region ?_
          refine WL.y (Y.move rfl) rfl ?_
          refine WL.y (Y.geq_u (b := 9223372036854775808) rfl rfl) rfl ?_
          refine WL.y (Y.move rfl) rfl ?_
          refine WL.cut 3 (σ := Unit) (fun _ w' => wd22 = w') (fun _ => [(0, vu a0), (1, vu a1), (5, vu x38), (6, vu y39), (28, .bool ((decide (9223372036854775808 ≤ a0)) && (decide (9223372036854775808 ≤ a1))))]) ?_ ?_
          · refine WL.part 25 rfl (fun hE43 => ?_) (fun hE43 => ?_)
            · refine WL.ung rfl rfl ?_
              refine WL.y (Y.move rfl) rfl ?_
              refine WL.ung rfl rfl ?_
              refine WL.y (Y.geq_u (b := 9223372036854775808) rfl rfl) rfl ?_
              refine WL.y (Y.pick (b := true) rfl rfl) rfl ?_
              refine WL.ren (v' := .bool ((decide (9223372036854775808 ≤ a0)) && (decide (9223372036854775808 ≤ a1)))) 28 rfl (congrArg Value.bool (andT hE43)) ?_
              exact WL.nil (At.join () rfl (.cons rfl (.cons rfl (.cons rfl (.cons rfl (.cons rfl .nil))))))
            · refine WL.gS rfl rfl rfl rfl ?_
              refine WL.gS rfl rfl rfl rfl ?_
              refine WL.y (Y.pick (b := false) rfl rfl) rfl ?_
              refine WL.ren (v' := .bool ((decide (9223372036854775808 ≤ a0)) && (decide (9223372036854775808 ≤ a1)))) 28 rfl (congrArg Value.bool (andF hE43)) ?_
              exact WL.nil (At.join () rfl (.cons rfl (.cons rfl (.cons rfl (.cons rfl (.cons rfl .nil))))))
          · rintro _ _ rfl
            refine (show WL _ _ _ _ _ [(0, vu a0), (1, vu a1), (5, vu x38), (6, vu y39), (28, .bool ((decide (9223372036854775808 ≤ a0)) && (decide (9223372036854775808 ≤ a1))))] _ from ?_)
            refine WL.nil ?_
            refine At.then ?_
            rcases cnd h with ⟨hc44, h⟩ | ⟨hc44, h⟩
            · refine WC.condT' rfl hc44 ?_
              refine WC.seq ?_
              refine WC.region ?_
              refine WL.y (Y.move rfl) rfl ?_
              refine WL.y (Y.move rfl) rfl ?_
              refine WL.y (Y.gtr_u rfl rfl) rfl ?_
              obtain ⟨t45, ht45, h⟩ := lt1 h
              refine WL.yE (Y.assign rfl) (congrArg Value.bool ht45.symm) rfl ?_
              refine WL.nil ?_
              refine At.then ?_
              refine WC.ret ?_
              refine At.thenR ?_
              obtain rfl := some1 h
              have hs46 : Stp [] (Lg.O0 (fun _ => False)) w O21 wd22 := (Stp.trans (Stp.up hst19 rfl) (Stp.up hst23 rfl))
              exact At.res (.inl rfl) rfl (.tmp rfl .nil) ⟨rfl, (Stp.ext hs46 rfl rfl)⟩
            · refine WC.condF' rfl hc44 ?_
              refine WC.skip ?_
              refine At.then ?_
              refine WC.seq ?_
              refine WC.seq ?_
              refine WC.region ?_
              refine WL.y (Y.move rfl) rfl ?_
              refine WL.y (Y.lss_u (b := 9223372036854775808) rfl rfl) rfl ?_
              refine WL.y (Y.move rfl) rfl ?_
              refine WL.cut 3 (σ := Unit) (fun _ w' => wd22 = w') (fun _ => [(0, vu a0), (5, vu x38), (6, vu y39), (37, .bool ((decide (a0 < 9223372036854775808)) && (decide (a1 < 9223372036854775808))))]) ?_ ?_
              · refine WL.part 34 rfl (fun hE47 => ?_) (fun hE47 => ?_)
                · refine WL.ung rfl rfl ?_
                  refine WL.y (Y.move rfl) rfl ?_
                  refine WL.ung rfl rfl ?_
                  refine WL.y (Y.lss_u (b := 9223372036854775808) rfl rfl) rfl ?_
                  refine WL.y (Y.pick (b := true) rfl rfl) rfl ?_
                  refine WL.ren (v' := .bool ((decide (a0 < 9223372036854775808)) && (decide (a1 < 9223372036854775808)))) 37 rfl (congrArg Value.bool (andT hE47)) ?_
                  exact WL.nil (At.join () rfl (.cons rfl (.cons rfl (.cons rfl (.cons rfl .nil)))))
                · refine WL.gS rfl rfl rfl rfl ?_
                  refine WL.gS rfl rfl rfl rfl ?_
                  refine WL.y (Y.pick (b := false) rfl rfl) rfl ?_
                  refine WL.ren (v' := .bool ((decide (a0 < 9223372036854775808)) && (decide (a1 < 9223372036854775808)))) 37 rfl (congrArg Value.bool (andF hE47)) ?_
                  exact WL.nil (At.join () rfl (.cons rfl (.cons rfl (.cons rfl (.cons rfl .nil)))))
              · rintro _ _ rfl
                refine (show WL _ _ _ _ _ [(0, vu a0), (5, vu x38), (6, vu y39), (37, .bool ((decide (a0 < 9223372036854775808)) && (decide (a1 < 9223372036854775808))))] _ from ?_)
                refine WL.nil ?_
                refine At.then ?_
                rcases cnd h with ⟨hc48, h⟩ | ⟨hc48, h⟩
                · refine WC.condT' rfl hc48 ?_
                  refine WC.seq ?_
                  refine WC.region ?_
                  refine WL.y (Y.move rfl) rfl ?_
                  refine WL.y (Y.move rfl) rfl ?_
                  refine WL.y (Y.lss_u rfl rfl) rfl ?_
                  obtain ⟨t49, ht49, h⟩ := lt1 h
                  refine WL.yE (Y.assign rfl) (congrArg Value.bool ht49.symm) rfl ?_
                  refine WL.nil ?_
                  refine At.then ?_
                  refine WC.ret ?_
                  refine At.thenR ?_
                  obtain rfl := some1 h
                  have hs50 : Stp [] (Lg.O0 (fun _ => False)) w O21 wd22 := (Stp.trans (Stp.up hst19 rfl) (Stp.up hst23 rfl))
                  exact At.res (.inl rfl) rfl (.tmp rfl .nil) ⟨rfl, (Stp.ext hs50 rfl rfl)⟩
                · refine WC.condF' rfl hc48 ?_
                  refine WC.skip ?_
                  refine At.then ?_
                  refine WC.seq ?_
                  refine WC.region ?_
                  refine WL.y (Y.move rfl) rfl ?_
                  refine WL.y (Y.geq_u (b := 9223372036854775808) rfl rfl) rfl ?_
                  obtain ⟨t51, ht51, h⟩ := lt1 h
                  refine WL.yE (Y.assign rfl) (congrArg Value.bool ht51.symm) rfl ?_
                  refine WL.nil ?_
                  refine At.then ?_
                  refine WC.ret ?_
                  obtain rfl := some1 h
                  have hs52 : Stp [] (Lg.O0 (fun _ => False)) w O21 wd22 := (Stp.trans (Stp.up hst19 rfl) (Stp.up hst23 rfl))
                  exact At.res (.inl rfl) rfl (.tmp rfl .nil) ⟨rfl, (Stp.ext hs52 rfl rfl)⟩

theorem c_law05_NumAdds {a0 : UInt64} {a1 : UInt64} {w : World} {r0 : Bool} (h : law05_NumAdds a0 a1 = some r0) : Rets Try.prog 3 [vu a0, vu a1] w (fun v w' => v = .bool r0 ∧ Ext w w') := by
  unfold law05_NumAdds at h
  refine Rets.enter Try.func3 rfl rfl ?_
  refine (show WC _ _ _ _ [(0, vu a0), (1, vu a1)] _ from ?_)
  refine WC.seq ?_
  refine WC.region ?_
  refine WL.y (Y.assign rfl) rfl ?_
  refine WL.nil ?_
  refine At.then ?_
  refine WC.seq ?_
  refine WC.seq ?_
  refine WC.region ?_
  obtain ⟨r11, hp12, h⟩ := bnd h
  refine WL.call (vals := []) kok7 rfl rfl (c_law05_awake hp12) ?_
  rintro vr15 wd14 ⟨rfl, hm13⟩
  obtain ⟨O16, hold17, hnew18, hst19⟩ := adoptE (Lg.O0 (fun _ => False)) (fun k => 1) hm13
  refine WL.y (Y.not rfl) rfl ?_
  refine WL.nil ?_
  refine At.then ?_
  rcases cnd h with ⟨hc20, h⟩ | ⟨hc20, h⟩
  · refine WC.condT' rfl hc20 ?_
    refine WC.seq ?_
    refine WC.region ?_
    refine WL.y (Y.assign rfl) rfl ?_
    refine WL.nil ?_
    refine At.then ?_
    refine WC.ret ?_
    refine At.thenR ?_
    obtain rfl := some1 h
    have hs21 : Stp [] (Lg.O0 (fun _ => False)) w O16 wd14 := (Stp.up hst19 rfl)
    exact At.res (.inl rfl) rfl (.tmp rfl .nil) ⟨rfl, (Stp.ext hs21 rfl rfl)⟩
  · refine WC.condF' rfl hc20 ?_
    refine WC.skip ?_
    refine At.then ?_
    refine WC.seq ?_
    refine WC.region ?_
    refine WL.y (Y.move rfl) rfl ?_
    refine WL.y (Y.move rfl) rfl ?_
    obtain ⟨r22, hp23, h⟩ := bnd h
    refine WL.call (vals := [vu a0, vu a1]) kok8 rfl rfl (c_num_Add hp23) ?_
    rintro vr26 wd25 ⟨rfl, hm24⟩
    obtain ⟨O27, hold28, hnew29, hst30⟩ := adoptE O16 (fun k => 1) hm24
    refine WL.y (Y.move rfl) rfl ?_
    refine WL.y (Y.move rfl) rfl ?_
    obtain ⟨r31, hp32, h⟩ := bnd h
    refine WL.call (vals := [vu a0, vu a1]) kok9 rfl rfl (c_ref05_Add hp32) ?_
    rintro vr35 wd34 ⟨rfl, hm33⟩
    obtain ⟨O36, hold37, hnew38, hst39⟩ := adoptE O27 (fun k => 1) hm33
    refine WL.y (Y.eql_u rfl rfl) rfl ?_
    refine WL.y (Y.move rfl) rfl ?_
    obtain ⟨p44, h, hk45⟩ := bnd h
    refine WL.cut 8 (σ := (Bool × Own)) (fun x w' => x.1 = p44 ∧ Stp [] O36 wd34 x.2 w') (fun x => [(0, vu a0), (1, vu a1), (22, .bool x.1)]) ?_ ?_
    · rcases cnd h with ⟨hE46, h⟩ | ⟨hE46, h⟩
      · refine WL.ren 14 rfl (congrArg Value.bool hE46) ?_
        refine WL.ung rfl rfl ?_
        refine WL.y (Y.move rfl) rfl ?_
        refine WL.ung rfl rfl ?_
        refine WL.y (Y.move rfl) rfl ?_
        refine WL.ung rfl rfl ?_
        obtain ⟨r47, hp48, h⟩ := bnd h
        refine WL.call (vals := [vu a0, vu a1]) kok10 rfl rfl (c_num_Sub hp48) ?_
        rintro vr51 wd50 ⟨rfl, hm49⟩
        obtain ⟨O52, hold53, hnew54, hst55⟩ := adoptE O36 (fun k => 1) hm49
        refine WL.ung rfl rfl ?_
        refine WL.y (Y.move rfl) rfl ?_
        refine WL.ung rfl rfl ?_
        refine WL.y (Y.move rfl) rfl ?_
        refine WL.ung rfl rfl ?_
        obtain ⟨r56, hp57, h⟩ := bnd h
        refine WL.call (vals := [vu a0, vu a1]) kok11 rfl rfl (c_ref05_Sub hp57) ?_
        rintro vr60 wd59 ⟨rfl, hm58⟩
        obtain ⟨O61, hold62, hnew63, hst64⟩ := adoptE O52 (fun k => 1) hm58
        refine WL.ung rfl rfl ?_
        refine WL.y (Y.eql_u rfl rfl) rfl ?_
        refine WL.y (Y.pick (b := true) rfl rfl) rfl ?_
        exact WL.nil (At.join (σ := (Bool × Own)) (decide (r47 = r56), O61) ⟨some1 h, (Stp.trans (Stp.up hst55 rfl) (Stp.up hst64 rfl))⟩ (.cons rfl (.cons rfl (.cons rfl .nil))))
      · refine WL.ren 14 rfl (congrArg Value.bool hE46) ?_
        refine WL.gS rfl rfl rfl rfl ?_
        refine WL.gS rfl rfl rfl rfl ?_
        refine WL.gS rfl rfl rfl rfl ?_
        refine WL.gS rfl rfl rfl rfl ?_
        refine WL.gS rfl rfl rfl rfl ?_
        refine WL.gS rfl rfl rfl rfl ?_
        refine WL.gS rfl rfl rfl rfl ?_
        refine WL.y (Y.pick (b := false) rfl rfl) rfl ?_
        exact WL.nil (At.join (σ := (Bool × Own)) (false, O36) ⟨some1 h, (Stp.refl _ _ _)⟩ (.cons rfl (.cons rfl (.cons rfl .nil))))
    · rintro ⟨x40, O41⟩ wd42 ⟨rfl, hst43⟩
      replace h := hk45
      try dsimp only at h hst43
      refine (show WL _ _ _ _ _ [(0, vu a0), (1, vu a1), (22, .bool x40)] _ from ?_)
      refine WL.y (Y.move rfl) rfl ?_
      obtain ⟨p69, h, hk70⟩ := bnd h
      refine WL.cut 8 (σ := (Bool × Own)) (fun x w' => x.1 = p69 ∧ Stp [] O41 wd42 x.2 w') (fun x => [(31, .bool x.1)]) ?_ ?_
      · rcases cnd h with ⟨hE71, h⟩ | ⟨hE71, h⟩
        · refine WL.ren 23 rfl (congrArg Value.bool hE71) ?_
          refine WL.ung rfl rfl ?_
          refine WL.y (Y.move rfl) rfl ?_
          refine WL.ung rfl rfl ?_
          refine WL.y (Y.move rfl) rfl ?_
          refine WL.ung rfl rfl ?_
          obtain ⟨r72, hp73, h⟩ := bnd h
          refine WL.call (vals := [vu a0, vu a1]) kok12 rfl rfl (c_num_Less hp73) ?_
          rintro vr76 wd75 ⟨rfl, hm74⟩
          obtain ⟨O77, hold78, hnew79, hst80⟩ := adoptE O41 (fun k => 1) hm74
          refine WL.ung rfl rfl ?_
          refine WL.y (Y.move rfl) rfl ?_
          refine WL.ung rfl rfl ?_
          refine WL.y (Y.move rfl) rfl ?_
          refine WL.ung rfl rfl ?_
          obtain ⟨r81, hp82, h⟩ := bnd h
          refine WL.call (vals := [vu a0, vu a1]) kok13 rfl rfl (c_ref05_Less hp82) ?_
          rintro vr85 wd84 ⟨rfl, hm83⟩
          obtain ⟨O86, hold87, hnew88, hst89⟩ := adoptE O77 (fun k => 1) hm83
          refine WL.ung rfl rfl ?_
          refine WL.y (Y.eqlB rfl rfl ty4.u) rfl ?_
          refine WL.y (Y.pick (b := true) rfl rfl) rfl ?_
          exact WL.nil (At.join (σ := (Bool × Own)) (decide (r72 = r81), O86) ⟨some1 h, (Stp.trans (Stp.up hst80 rfl) (Stp.up hst89 rfl))⟩ (.cons rfl .nil))
        · refine WL.ren 23 rfl (congrArg Value.bool hE71) ?_
          refine WL.gS rfl rfl rfl rfl ?_
          refine WL.gS rfl rfl rfl rfl ?_
          refine WL.gS rfl rfl rfl rfl ?_
          refine WL.gS rfl rfl rfl rfl ?_
          refine WL.gS rfl rfl rfl rfl ?_
          refine WL.gS rfl rfl rfl rfl ?_
          refine WL.gS rfl rfl rfl rfl ?_
          refine WL.y (Y.pick (b := false) rfl rfl) rfl ?_
          exact WL.nil (At.join (σ := (Bool × Own)) (false, O41) ⟨some1 h, (Stp.refl _ _ _)⟩ (.cons rfl .nil))
      · rintro ⟨x65, O66⟩ wd67 ⟨rfl, hst68⟩
        replace h := hk70
        try dsimp only at h hst68
        refine (show WL _ _ _ _ _ [(31, .bool x65)] _ from ?_)
        refine WL.y (Y.assign rfl) rfl ?_
        refine WL.nil ?_
        refine At.then ?_
        refine WC.ret ?_
        obtain rfl := some1 h
        have hs90 : Stp [] (Lg.O0 (fun _ => False)) w O66 wd67 := (Stp.trans (Stp.up hst19 rfl) (Stp.trans (Stp.up hst30 rfl) (Stp.trans (Stp.up hst39 rfl) (Stp.trans (Stp.up hst43 rfl) (Stp.up hst68 rfl)))))
        exact At.res (.inl rfl) rfl (.tmp rfl .nil) ⟨rfl, (Stp.ext hs90 rfl rfl)⟩

end Go.Lg
