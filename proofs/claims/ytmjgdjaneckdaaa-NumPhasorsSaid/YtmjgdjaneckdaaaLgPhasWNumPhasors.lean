/- The walks of NumPhasors and of what it calls, printed by gen.py. -/
import Derived.Test.YtmjgdjaneckdaaaLgPhasP
import Derived.Test.YtmjgdjaneckdaaaProg
set_option linter.unusedVariables false
namespace Go.Lg
open Go Go.Proofs
set_option maxRecDepth 100000
theorem fmix : Try.prog.follows .mixedOrders = true := by kernel_rfl
theorem ty3 : TyOk Try.prog 3 (.int .i64) 1 8 (.int .i64 0) := tyOk Try.underlying3 (by kernel_rfl)
theorem ty4 : TyOk Try.prog 4 .bool 1 1 (.bool false) := tyOk Try.underlying4 (by kernel_rfl)
theorem ty22 : TyOk Try.prog 22 (.int .u64) 1 8 (.int .u64 0) := tyOk Try.underlying22 (by kernel_rfl)
theorem xfrom_32 : XFrom Try.prog 32 := xfrom Try.func32 (by kernel_rfl) rfl (by kernel_rfl) (by kernel_rfl)
theorem xbits_31 : XBits Try.prog 31 := xbits Try.func31 (by kernel_rfl) rfl (by kernel_rfl) (by kernel_rfl)
theorem kok7 : CallOk Try.prog 7 := callOk Try.func7 (by kernel_rfl) rfl
theorem kok8 : CallOk Try.prog 8 := callOk Try.func8 (by kernel_rfl) rfl
theorem kok9 : CallOk Try.prog 9 := callOk Try.func9 (by kernel_rfl) rfl
theorem kok10 : CallOk Try.prog 10 := callOk Try.func10 (by kernel_rfl) rfl
theorem kok11 : CallOk Try.prog 11 := callOk Try.func11 (by kernel_rfl) rfl
theorem kok12 : CallOk Try.prog 12 := callOk Try.func12 (by kernel_rfl) rfl
theorem kok14 : CallOk Try.prog 14 := callOk Try.func14 (by kernel_rfl) rfl
theorem kok15 : CallOk Try.prog 15 := callOk Try.func15 (by kernel_rfl) rfl
theorem kok17 : CallOk Try.prog 17 := callOk Try.func17 (by kernel_rfl) rfl
theorem kok18 : CallOk Try.prog 18 := callOk Try.func18 (by kernel_rfl) rfl
theorem kok20 : CallOk Try.prog 20 := callOk Try.func20 (by kernel_rfl) rfl
theorem kok21 : CallOk Try.prog 21 := callOk Try.func21 (by kernel_rfl) rfl
theorem kok22 : CallOk Try.prog 22 := callOk Try.func22 (by kernel_rfl) rfl
theorem kok23 : CallOk Try.prog 23 := callOk Try.func23 (by kernel_rfl) rfl
theorem kok24 : CallOk Try.prog 24 := callOk Try.func24 (by kernel_rfl) rfl
theorem kok25 : CallOk Try.prog 25 := callOk Try.func25 (by kernel_rfl) rfl
theorem kok26 : CallOk Try.prog 26 := callOk Try.func26 (by kernel_rfl) rfl
theorem kok27 : CallOk Try.prog 27 := callOk Try.func27 (by kernel_rfl) rfl
theorem kok28 : CallOk Try.prog 28 := callOk Try.func28 (by kernel_rfl) rfl
theorem kok29 : CallOk Try.prog 29 := callOk Try.func29 (by kernel_rfl) rfl
theorem kok30 : CallOk Try.prog 30 := callOk Try.func30 (by kernel_rfl) rfl

theorem c_num_Odd {a0 : UInt64} {w : World} {r0 : Bool} (h : num_Odd a0 = some r0) : Rets Try.prog 14 [vu a0] w (fun v w' => v = .bool r0 ∧ Ext w w') := by
  unfold num_Odd at h
  refine Rets.enter Try.func14 rfl rfl ?_
  refine (show WC _ _ _ _ [(0, vu a0)] _ from ?_)
  refine WC.seq ?_
  refine WC.region ?_
  refine WL.y (Y.assign rfl) rfl ?_
  refine WL.nil ?_
  refine At.then ?_
  refine WC.seq ?_
  refine WC.region ?_
  refine WL.y (Y.move rfl) rfl ?_
  refine WL.y (Y.andNot_u (b := 9223372036854775808) rfl rfl) rfl ?_
  refine WL.y (Y.gtr_u (b := 9218868437227405312) rfl rfl) rfl ?_
  obtain ⟨t11, ht11, h⟩ := lt1 h
  refine WL.yE (Y.assign rfl) (congrArg Value.bool ht11.symm) rfl ?_
  refine WL.nil ?_
  refine At.then ?_
  refine WC.ret ?_
  obtain rfl := some1 h
  have hs12 : Stp [] (Lg.O0 (fun _ => False)) w (Lg.O0 (fun _ => False)) w := (Stp.refl _ _ _)
  exact At.res (.inl rfl) rfl (.tmp rfl .nil) ⟨rfl, (Stp.ext hs12 rfl rfl)⟩

theorem c_num_Canon {a0 : UInt64} {w : World} {r0 : UInt64} (h : num_Canon a0 = some r0) : Rets Try.prog 18 [vu a0] w (fun v w' => v = vu r0 ∧ Ext w w') := by
  unfold num_Canon at h
  refine Rets.enter Try.func18 rfl rfl ?_
  refine (show WC _ _ _ _ [(0, vu a0)] _ from ?_)
  refine WC.seq ?_
  refine WC.region ?_
  refine WL.y (Y.assign (v := vu 0) rfl) rfl ?_
  refine WL.nil ?_
  refine At.then ?_
  refine WC.seq ?_
  refine WC.seq ?_
  refine WC.region ?_
  refine WL.y (Y.move rfl) rfl ?_
  obtain ⟨r11, hp12, h⟩ := bnd h
  refine WL.call (vals := [vu a0]) kok14 rfl rfl (c_num_Odd hp12) ?_
  rintro vr15 wd14 ⟨rfl, hm13⟩
  obtain ⟨O16, hold17, hnew18, hst19⟩ := adoptE (Lg.O0 (fun _ => False)) (fun k => 1) hm13
  refine WL.nil ?_
  refine At.then ?_
  rcases cnd h with ⟨hc20, h⟩ | ⟨hc20, h⟩
  · refine WC.condT' rfl hc20 ?_
    refine WC.seq ?_
    refine WC.region ?_
    refine WL.y (Y.assign (v := vu 9221120237041090561) rfl) rfl ?_
    refine WL.nil ?_
    refine At.then ?_
    refine WC.ret ?_
    refine At.thenR ?_
    obtain rfl := some1 h
    have hs21 : Stp [] (Lg.O0 (fun _ => False)) w O16 wd14 := (Stp.up hst19 rfl)
    exact At.res (.inl rfl) rfl (.tmp rfl .nil) ⟨rfl, (Stp.ext hs21 rfl rfl)⟩
  · refine WC.condF' rfl hc20 ?_
    refine WC.skip ?_
    refine At.then ?_
    refine WC.seq ?_
    refine WC.region ?_
    refine WL.y (Y.move rfl) rfl ?_
    refine WL.y (Y.assign rfl) rfl ?_
    refine WL.nil ?_
    refine At.then ?_
    refine WC.ret ?_
    obtain rfl := some1 h
    have hs22 : Stp [] (Lg.O0 (fun _ => False)) w O16 wd14 := (Stp.up hst19 rfl)
    exact At.res (.inl rfl) rfl (.tmp rfl .nil) ⟨rfl, (Stp.ext hs22 rfl rfl)⟩

theorem num_Canon_eq (a : UInt64) : num_Canon a = some (fCan a.toNat) := by
  have e : UInt64.ofNat a.toNat = a := UInt64.toNat_inj.1 (by rw [UInt64.toNat_ofNat']; have := UInt64.toNat_lt a; omega)
  unfold num_Canon num_Odd fCan lett
  rw [fodd_of]
  cases fOdd a.toNat
  · rw [if_neg (by simp), e]; rfl
  · rw [if_pos rfl]; rfl
theorem c_num_bits {r : Nat} {w : World} (hr : r < 18446744073709551616) : Rets Try.prog 24 [.float .f64 r] w (fun v w' => v = vu (fCan r) ∧ Ext w w') := by
  refine Rets.enter Try.func24 rfl rfl ?_
  refine (show WC _ _ _ _ [(0, .float .f64 r)] _ from ?_)
  refine WC.seq (WC.region (WL.y (Y.assign (v := vu 0) rfl) rfl (WL.nil (At.then ?_))))
  refine WC.seq (WC.region ?_)
  refine WL.y (Y.move rfl) rfl ?_
  have er : (UInt64.ofNat r).toNat = r := by rw [UInt64.toNat_ofNat']; omega
  refine WL.y (Y.fbits xbits_31 hr rfl) rfl ?_
  refine WL.call (vals := [vu (UInt64.ofNat r)]) kok18 rfl rfl (c_num_Canon (num_Canon_eq _)) ?_
  rintro vr1 wd1 ⟨rfl, hm1⟩
  obtain ⟨O1, hold1, hnew1, hst1⟩ := adoptE (Lg.O0 (fun _ => False)) (fun k => 1) hm1
  refine WL.y (Y.assign rfl) rfl (WL.nil (At.then (WC.ret ?_)))
  have hs : Stp [] (Lg.O0 (fun _ => False)) w O1 wd1 := (Stp.up hst1 rfl)
  rw [er]
  exact At.res (.inl rfl) rfl (.tmp rfl .nil) ⟨rfl, Stp.ext hs rfl rfl⟩

theorem c_num_of {a0 : UInt64} {w : World} : Rets Try.prog 25 [vu a0] w (fun v w' => v = .float .f64 a0.toNat ∧ Ext w w') := by
  refine Rets.enter Try.func25 rfl rfl ?_
  refine (show WC _ _ _ _ [(0, vu a0)] _ from ?_)
  refine WC.seq (WC.region (WL.y (Y.assign (v := .float .f64 0) rfl) rfl (WL.nil (At.then ?_))))
  refine WC.seq (WC.region ?_)
  refine WL.y (Y.move rfl) rfl ?_
  refine WL.y (Y.ffrom xfrom_32 rfl) rfl ?_
  refine WL.y (Y.assign rfl) rfl (WL.nil (At.then (WC.ret ?_)))
  exact At.res (.inl rfl) rfl (.tmp rfl .nil) ⟨rfl, Ext.refl w⟩

theorem c_num_Add {a0 : UInt64} {a1 : UInt64} {w : World} {r0 : UInt64} (h : num_Add a0 a1 = some r0) : Rets Try.prog 8 [vu a0, vu a1] w (fun v w' => v = vu r0 ∧ Ext w w') := by
  unfold num_Add at h
  obtain rfl := some1 h
  refine Rets.enter Try.func8 rfl rfl ?_
  refine (show WC _ _ _ _ [(0, vu a0), (1, vu a1)] _ from ?_)
  refine WC.seq (WC.region (WL.y (Y.assign (v := vu 0) rfl) rfl (WL.nil (At.then ?_))))
  refine WC.seq (WC.region ?_)
  refine WL.y (Y.move rfl) rfl ?_
  refine WL.call (vals := [vu a0]) kok25 rfl rfl (c_num_of) ?_
  rintro vr1 wd1 ⟨rfl, hm1⟩
  obtain ⟨O1, hold1, hnew1, hst1⟩ := adoptE (Lg.O0 (fun _ => False)) (fun k => 1) hm1
  refine WL.y (Y.move rfl) rfl ?_
  refine WL.call (vals := [vu a1]) kok25 rfl rfl (c_num_of) ?_
  rintro vr2 wd2 ⟨rfl, hm2⟩
  obtain ⟨O2, hold2, hnew2, hst2⟩ := adoptE O1 (fun k => 1) hm2
  refine WL.fadd (O := O2) rfl rfl rfl ?_
  intro r3 wd3 hst3 hr3
  refine WL.call (vals := [.float .f64 r3]) kok24 rfl rfl (c_num_bits hr3.1) ?_
  rintro vr4 wd4 ⟨rfl, hm4⟩
  obtain ⟨O4, hold4, hnew4, hst4⟩ := adoptE O2 (fun k => 1) hm4
  refine WL.y (Y.assign rfl) rfl (WL.nil (At.then (WC.ret ?_)))
  rw [fAdd_res hr3]
  have hs : Stp [] (Lg.O0 (fun _ => False)) w O4 wd4 := (Stp.trans (Stp.up hst1 rfl) (Stp.trans (Stp.up hst2 rfl) (Stp.trans (Stp.up hst3 rfl) (Stp.up hst4 rfl))))
  exact At.res (.inl rfl) rfl (.tmp rfl .nil) ⟨rfl, Stp.ext hs rfl rfl⟩

theorem c_num_Sub {a0 : UInt64} {a1 : UInt64} {w : World} {r0 : UInt64} (h : num_Sub a0 a1 = some r0) : Rets Try.prog 10 [vu a0, vu a1] w (fun v w' => v = vu r0 ∧ Ext w w') := by
  unfold num_Sub at h
  obtain rfl := some1 h
  refine Rets.enter Try.func10 rfl rfl ?_
  refine (show WC _ _ _ _ [(0, vu a0), (1, vu a1)] _ from ?_)
  refine WC.seq (WC.region (WL.y (Y.assign (v := vu 0) rfl) rfl (WL.nil (At.then ?_))))
  refine WC.seq (WC.region ?_)
  refine WL.y (Y.move rfl) rfl ?_
  refine WL.call (vals := [vu a0]) kok25 rfl rfl (c_num_of) ?_
  rintro vr1 wd1 ⟨rfl, hm1⟩
  obtain ⟨O1, hold1, hnew1, hst1⟩ := adoptE (Lg.O0 (fun _ => False)) (fun k => 1) hm1
  refine WL.y (Y.move rfl) rfl ?_
  refine WL.call (vals := [vu a1]) kok25 rfl rfl (c_num_of) ?_
  rintro vr2 wd2 ⟨rfl, hm2⟩
  obtain ⟨O2, hold2, hnew2, hst2⟩ := adoptE O1 (fun k => 1) hm2
  refine WL.fsub (O := O2) rfl rfl rfl ?_
  intro r3 wd3 hst3 hr3
  refine WL.call (vals := [.float .f64 r3]) kok24 rfl rfl (c_num_bits hr3.1) ?_
  rintro vr4 wd4 ⟨rfl, hm4⟩
  obtain ⟨O4, hold4, hnew4, hst4⟩ := adoptE O2 (fun k => 1) hm4
  refine WL.y (Y.assign rfl) rfl (WL.nil (At.then (WC.ret ?_)))
  rw [fSub_res hr3]
  have hs : Stp [] (Lg.O0 (fun _ => False)) w O4 wd4 := (Stp.trans (Stp.up hst1 rfl) (Stp.trans (Stp.up hst2 rfl) (Stp.trans (Stp.up hst3 rfl) (Stp.up hst4 rfl))))
  exact At.res (.inl rfl) rfl (.tmp rfl .nil) ⟨rfl, Stp.ext hs rfl rfl⟩

theorem c_num_Less {a0 : UInt64} {a1 : UInt64} {w : World} {r0 : Bool} (h : num_Less a0 a1 = some r0) : Rets Try.prog 12 [vu a0, vu a1] w (fun v w' => v = .bool r0 ∧ Ext w w') := by
  unfold num_Less at h
  obtain rfl := some1 h
  refine Rets.enter Try.func12 rfl rfl ?_
  refine (show WC _ _ _ _ [(0, vu a0), (1, vu a1)] _ from ?_)
  refine WC.seq (WC.region (WL.y (Y.assign (v := .bool false) rfl) rfl (WL.nil (At.then ?_))))
  refine WC.seq (WC.region ?_)
  refine WL.y (Y.move rfl) rfl ?_
  refine WL.call (vals := [vu a0]) kok25 rfl rfl (c_num_of) ?_
  rintro vr1 wd1 ⟨rfl, hm1⟩
  obtain ⟨O1, hold1, hnew1, hst1⟩ := adoptE (Lg.O0 (fun _ => False)) (fun k => 1) hm1
  refine WL.y (Y.move rfl) rfl ?_
  refine WL.call (vals := [vu a1]) kok25 rfl rfl (c_num_of) ?_
  rintro vr2 wd2 ⟨rfl, hm2⟩
  obtain ⟨O2, hold2, hnew2, hst2⟩ := adoptE O1 (fun k => 1) hm2
  refine WL.y (Y.fless rfl rfl) rfl ?_
  refine WL.y (Y.assign rfl) rfl (WL.nil (At.then (WC.ret ?_)))
  have hs : Stp [] (Lg.O0 (fun _ => False)) w O2 wd2 := (Stp.trans (Stp.up hst1 rfl) (Stp.up hst2 rfl))
  exact At.res (.inl rfl) rfl (.tmp rfl .nil) ⟨rfl, Stp.ext hs rfl rfl⟩

theorem c_law05_awake {w : World} {r0 : Bool} (h : law05_awake = some r0) : Rets Try.prog 7 [] w (fun v w' => v = .bool r0 ∧ Ext w w') := by
  unfold law05_awake at h
  refine Rets.enter Try.func7 rfl rfl ?_
  refine (show WC _ _ _ _ [] _ from ?_)
  refine WC.seq ?_
  refine WC.region ?_
  refine WL.y (Y.assign rfl) rfl ?_
  refine WL.nil ?_
  refine At.then ?_
  refine WC.seq ?_
  refine WC.region ?_
  obtain ⟨r11, hp12, h⟩ := bnd h
  refine WL.call (vals := [vu 4607182418800017408, vu 4607182418800017408]) kok8 rfl rfl (c_num_Add hp12) ?_
  rintro vr15 wd14 ⟨rfl, hm13⟩
  obtain ⟨O16, hold17, hnew18, hst19⟩ := adoptE (Lg.O0 (fun _ => False)) (fun k => 1) hm13
  refine WL.y (Y.eql_u (b := 4611686018427387904) rfl rfl) rfl ?_
  refine WL.y (Y.move rfl) rfl ?_
  obtain ⟨p24, h, hk25⟩ := bnd h
  refine WL.cut 3 (σ := (Bool × Own)) (fun x w' => x.1 = p24 ∧ Stp [] O16 wd14 x.2 w') (fun x => [(6, .bool x.1)]) ?_ ?_
  · rcases cnd h with ⟨hE26, h⟩ | ⟨hE26, h⟩
    · refine WL.ren 3 rfl (congrArg Value.bool hE26) ?_
      refine WL.ung rfl rfl ?_
      obtain ⟨r27, hp28, h⟩ := bnd h
      refine WL.call (vals := [vu 9218868437227405312, vu 9218868437227405312]) kok10 rfl rfl (c_num_Sub hp28) ?_
      rintro vr31 wd30 ⟨rfl, hm29⟩
      obtain ⟨O32, hold33, hnew34, hst35⟩ := adoptE O16 (fun k => 1) hm29
      refine WL.ung rfl rfl ?_
      refine WL.y (Y.eql_u (b := 9221120237041090561) rfl rfl) rfl ?_
      refine WL.y (Y.pick (b := true) rfl rfl) rfl ?_
      exact WL.nil (At.join (σ := (Bool × Own)) (decide (r27 = 9221120237041090561), O32) ⟨some1 h, (Stp.up hst35 rfl)⟩ (.cons rfl .nil))
    · refine WL.ren 3 rfl (congrArg Value.bool hE26) ?_
      refine WL.gS rfl rfl rfl rfl ?_
      refine WL.gS rfl rfl rfl rfl ?_
      refine WL.y (Y.pick (b := false) rfl rfl) rfl ?_
      exact WL.nil (At.join (σ := (Bool × Own)) (false, O16) ⟨some1 h, (Stp.refl _ _ _)⟩ (.cons rfl .nil))
  · rintro ⟨x20, O21⟩ wd22 ⟨rfl, hst23⟩
    replace h := hk25
    try dsimp only at h hst23
    refine (show WL _ _ _ _ _ [(6, .bool x20)] _ from ?_)
    refine WL.y (Y.move rfl) rfl ?_
    obtain ⟨p40, h, hk41⟩ := bnd h
    refine WL.cut 2 (σ := (Bool × Own)) (fun x w' => x.1 = p40 ∧ Stp [] O21 wd22 x.2 w') (fun x => [(9, .bool x.1)]) ?_ ?_
    · rcases cnd h with ⟨hE42, h⟩ | ⟨hE42, h⟩
      · refine WL.ren 7 rfl (congrArg Value.bool hE42) ?_
        refine WL.ung rfl rfl ?_
        obtain ⟨r43, hp44, h⟩ := bnd h
        refine WL.call (vals := [vu 13830554455654793216, vu 0]) kok12 rfl rfl (c_num_Less hp44) ?_
        rintro vr47 wd46 ⟨rfl, hm45⟩
        obtain ⟨O48, hold49, hnew50, hst51⟩ := adoptE O21 (fun k => 1) hm45
        refine WL.y (Y.pick (b := true) rfl rfl) rfl ?_
        exact WL.nil (At.join (σ := (Bool × Own)) (r43, O48) ⟨some1 h, (Stp.up hst51 rfl)⟩ (.cons rfl .nil))
      · refine WL.ren 7 rfl (congrArg Value.bool hE42) ?_
        refine WL.gS rfl rfl rfl rfl ?_
        refine WL.y (Y.pick (b := false) rfl rfl) rfl ?_
        exact WL.nil (At.join (σ := (Bool × Own)) (false, O21) ⟨some1 h, (Stp.refl _ _ _)⟩ (.cons rfl .nil))
    · rintro ⟨x36, O37⟩ wd38 ⟨rfl, hst39⟩
      replace h := hk41
      try dsimp only at h hst39
      refine (show WL _ _ _ _ _ [(9, .bool x36)] _ from ?_)
      refine WL.y (Y.move rfl) rfl ?_
      obtain ⟨p56, h, hk57⟩ := bnd h
      refine WL.cut 2 (σ := (Bool × Own)) (fun x w' => x.1 = p56 ∧ Stp [] O37 wd38 x.2 w') (fun x => [(12, .bool x.1)]) ?_ ?_
      · rcases cnd h with ⟨hE58, h⟩ | ⟨hE58, h⟩
        · refine WL.ren 10 rfl (congrArg Value.bool hE58) ?_
          refine WL.ung rfl rfl ?_
          obtain ⟨r59, hp60, h⟩ := bnd h
          refine WL.call (vals := [vu 9218868437227405313]) kok14 rfl rfl (c_num_Odd hp60) ?_
          rintro vr63 wd62 ⟨rfl, hm61⟩
          obtain ⟨O64, hold65, hnew66, hst67⟩ := adoptE O37 (fun k => 1) hm61
          refine WL.y (Y.pick (b := true) rfl rfl) rfl ?_
          exact WL.nil (At.join (σ := (Bool × Own)) (r59, O64) ⟨some1 h, (Stp.up hst67 rfl)⟩ (.cons rfl .nil))
        · refine WL.ren 10 rfl (congrArg Value.bool hE58) ?_
          refine WL.gS rfl rfl rfl rfl ?_
          refine WL.y (Y.pick (b := false) rfl rfl) rfl ?_
          exact WL.nil (At.join (σ := (Bool × Own)) (false, O37) ⟨some1 h, (Stp.refl _ _ _)⟩ (.cons rfl .nil))
      · rintro ⟨x52, O53⟩ wd54 ⟨rfl, hst55⟩
        replace h := hk57
        try dsimp only at h hst55
        refine (show WL _ _ _ _ _ [(12, .bool x52)] _ from ?_)
        refine WL.y (Y.assign rfl) rfl ?_
        refine WL.nil ?_
        refine At.then ?_
        refine WC.ret ?_
        obtain rfl := some1 h
        have hs68 : Stp [] (Lg.O0 (fun _ => False)) w O53 wd54 := (Stp.trans (Stp.up hst19 rfl) (Stp.trans (Stp.up hst23 rfl) (Stp.trans (Stp.up hst39 rfl) (Stp.up hst55 rfl))))
        exact At.res (.inl rfl) rfl (.tmp rfl .nil) ⟨rfl, (Stp.ext hs68 rfl rfl)⟩

theorem c_ref05_Odd {a0 : UInt64} {w : World} {r0 : Bool} (h : ref05_Odd a0 = some r0) : Rets Try.prog 15 [vu a0] w (fun v w' => v = .bool r0 ∧ Ext w w') := by
  unfold ref05_Odd at h
  refine Rets.enter Try.func15 rfl rfl ?_
  refine (show WC _ _ _ _ [(0, vu a0)] _ from ?_)
  refine WC.seq ?_
  refine WC.region ?_
  refine WL.y (Y.assign rfl) rfl ?_
  refine WL.nil ?_
  refine At.then ?_
  refine WC.seq ?_
  refine WC.region ?_
  refine WL.y (Y.move rfl) rfl ?_
  refine WL.y (Y.quo_u (b := 4503599627370496) (by decide) rfl rfl) rfl ?_
  refine WL.y (Y.rem_u (b := 2048) (by decide) rfl rfl) rfl ?_
  refine WL.y (Y.eql_u (b := 2047) rfl rfl) rfl ?_
  refine WL.y (Y.move rfl) rfl ?_
  refine WL.cut 4 (σ := Unit) (fun _ w' => w = w') (fun _ => [(11, .bool ((decide (((a0 / 4503599627370496) % 2048) = 2047)) && (!decide ((a0 % 4503599627370496) = 0))))]) ?_ ?_
  · refine WL.part 7 rfl (fun hE11 => ?_) (fun hE11 => ?_)
    · refine WL.ung rfl rfl ?_
      refine WL.y (Y.move rfl) rfl ?_
      refine WL.ung rfl rfl ?_
      refine WL.y (Y.rem_u (b := 4503599627370496) (by decide) rfl rfl) rfl ?_
      refine WL.ung rfl rfl ?_
      refine WL.y (Y.neq_u (b := 0) rfl rfl) rfl ?_
      refine WL.y (Y.pick (b := true) rfl rfl) rfl ?_
      refine WL.ren (v' := .bool ((decide (((a0 / 4503599627370496) % 2048) = 2047)) && (!decide ((a0 % 4503599627370496) = 0)))) 11 rfl (congrArg Value.bool (andT hE11)) ?_
      exact WL.nil (At.join () rfl (.cons rfl .nil))
    · refine WL.gS rfl rfl rfl rfl ?_
      refine WL.gS rfl rfl rfl rfl ?_
      refine WL.gS rfl rfl rfl rfl ?_
      refine WL.y (Y.pick (b := false) rfl rfl) rfl ?_
      refine WL.ren (v' := .bool ((decide (((a0 / 4503599627370496) % 2048) = 2047)) && (!decide ((a0 % 4503599627370496) = 0)))) 11 rfl (congrArg Value.bool (andF hE11)) ?_
      exact WL.nil (At.join () rfl (.cons rfl .nil))
  · rintro _ _ rfl
    refine (show WL _ _ _ _ _ [(11, .bool ((decide (((a0 / 4503599627370496) % 2048) = 2047)) && (!decide ((a0 % 4503599627370496) = 0))))] _ from ?_)
    obtain ⟨t12, ht12, h⟩ := lt1 h
    refine WL.yE (Y.assign rfl) (congrArg Value.bool ht12.symm) rfl ?_
    refine WL.nil ?_
    refine At.then ?_
    refine WC.ret ?_
    obtain rfl := some1 h
    have hs13 : Stp [] (Lg.O0 (fun _ => False)) w (Lg.O0 (fun _ => False)) w := (Stp.refl _ _ _)
    exact At.res (.inl rfl) rfl (.tmp rfl .nil) ⟨rfl, (Stp.ext hs13 rfl rfl)⟩

theorem c_ref05_Finite {a0 : UInt64} {w : World} {r0 : Bool} (h : ref05_Finite a0 = some r0) : Rets Try.prog 17 [vu a0] w (fun v w' => v = .bool r0 ∧ Ext w w') := by
  unfold ref05_Finite at h
  refine Rets.enter Try.func17 rfl rfl ?_
  refine (show WC _ _ _ _ [(0, vu a0)] _ from ?_)
  refine WC.seq ?_
  refine WC.region ?_
  refine WL.y (Y.assign rfl) rfl ?_
  refine WL.nil ?_
  refine At.then ?_
  refine WC.seq ?_
  refine WC.region ?_
  refine WL.y (Y.move rfl) rfl ?_
  refine WL.y (Y.quo_u (b := 4503599627370496) (by decide) rfl rfl) rfl ?_
  refine WL.y (Y.rem_u (b := 2048) (by decide) rfl rfl) rfl ?_
  refine WL.y (Y.neq_u (b := 2047) rfl rfl) rfl ?_
  obtain ⟨t11, ht11, h⟩ := lt1 h
  refine WL.yE (Y.assign rfl) (congrArg Value.bool ht11.symm) rfl ?_
  refine WL.nil ?_
  refine At.then ?_
  refine WC.ret ?_
  obtain rfl := some1 h
  have hs12 : Stp [] (Lg.O0 (fun _ => False)) w (Lg.O0 (fun _ => False)) w := (Stp.refl _ _ _)
  exact At.res (.inl rfl) rfl (.tmp rfl .nil) ⟨rfl, (Stp.ext hs12 rfl rfl)⟩

theorem c_ref05_wide {a0 : UInt64} {w : World} {r0 : UInt64} {r1 : Int} (h : ref05_wide a0 = some (r0, r1)) : Rets Try.prog 26 [vu a0] w (fun v w' => v = .tuple (List.toArray [vu r0, vi r1]) ∧ Ext w w') := by
  unfold ref05_wide at h
  refine Rets.enter Try.func26 rfl rfl ?_
  refine (show WC _ _ _ _ [(0, vu a0)] _ from ?_)
  refine WC.seq ?_
  refine WC.region ?_
  refine WL.y (Y.assign (v := vu 0) rfl) rfl ?_
  refine WL.y (Y.assign rfl) rfl ?_
  refine WL.nil ?_
  refine At.then ?_
  refine WC.seq ?_
  refine WC.region ?_
  refine WL.y (Y.move rfl) rfl ?_
  refine WL.y (Y.quo_u (b := 4503599627370496) (by decide) rfl rfl) rfl ?_
  refine WL.y (Y.rem_u (b := 2048) (by decide) rfl rfl) rfl ?_
  refine WL.y (Y.conv_ui ty22.u ty3.u rfl) rfl ?_
  obtain ⟨e11, he11, h⟩ := lt1 h
  refine WL.yE (Y.assign rfl) (congrArg vi he11.symm) rfl ?_
  refine WL.nil ?_
  refine At.then ?_
  refine WC.seq ?_
  refine WC.region ?_
  refine WL.y (Y.move rfl) rfl ?_
  refine WL.y (Y.rem_u (b := 4503599627370496) (by decide) rfl rfl) rfl ?_
  obtain ⟨m12, hm12, h⟩ := lt1 h
  refine WL.yE (Y.assign rfl) (congrArg vu hm12.symm) rfl ?_
  refine WL.nil ?_
  refine At.then ?_
  refine WC.seq ?_
  refine WC.seq ?_
  refine WC.region ?_
  refine WL.y (Y.move rfl) rfl ?_
  refine WL.y (Y.eql_i rfl rfl) rfl ?_
  refine WL.nil ?_
  refine At.then ?_
  rcases cnd h with ⟨hc13, h⟩ | ⟨hc13, h⟩
  · refine WC.condT' rfl hc13 ?_
    refine WC.seq ?_
    refine WC.region ?_
    refine WL.y (Y.move rfl) rfl ?_
    refine WL.y (Y.assign rfl) rfl ?_
    refine WL.y (Y.assign rfl) rfl ?_
    refine WL.nil ?_
    refine At.then ?_
    refine WC.ret ?_
    refine At.thenR ?_
    obtain ⟨rfl, rfl⟩ := tup2 h
    have hs14 : Stp [] (Lg.O0 (fun _ => False)) w (Lg.O0 (fun _ => False)) w := (Stp.refl _ _ _)
    exact At.res (.inl rfl) rfl (.tmp rfl (.tmp rfl .nil)) ⟨rfl, (Stp.ext hs14 rfl rfl)⟩
  · refine WC.condF' rfl hc13 ?_
    refine WC.skip ?_
    refine At.then ?_
    refine WC.seq ?_
    refine WC.region ?_
    refine WL.y (Y.move rfl) rfl ?_
    refine WL.y (Y.add_u (b := 4503599627370496) rfl rfl) rfl ?_
    refine WL.y (Y.move rfl) rfl ?_
    obtain ⟨t15, ht15, h⟩ := lt1 h
    refine WL.yE (Y.assign rfl) (congrArg vu ht15.symm) rfl ?_
    refine WL.y (Y.assign rfl) rfl ?_
    refine WL.nil ?_
    refine At.then ?_
    refine WC.ret ?_
    obtain ⟨rfl, rfl⟩ := tup2 h
    have hs16 : Stp [] (Lg.O0 (fun _ => False)) w (Lg.O0 (fun _ => False)) w := (Stp.refl _ _ _)
    exact At.res (.inl rfl) rfl (.tmp rfl (.tmp rfl .nil)) ⟨rfl, (Stp.ext hs16 rfl rfl)⟩

theorem c_ref05_shifted {a0 : UInt64} {a1 : Int} {w : World} {r0 : UInt64} (h : ref05_shifted a0 a1 = some r0) : Rets Try.prog 27 [vu a0, vi a1] w (fun v w' => v = vu r0 ∧ Ext w w') := by
  unfold ref05_shifted at h
  refine Rets.enter Try.func27 rfl rfl ?_
  refine (show WC _ _ _ _ [(0, vu a0), (1, vi a1)] _ from ?_)
  refine WC.seq ?_
  refine WC.region ?_
  refine WL.y (Y.assign (v := vu 0) rfl) rfl ?_
  refine WL.nil ?_
  refine At.then ?_
  refine WC.seq ?_
  refine WC.seq ?_
  refine WC.region ?_
  refine WL.y (Y.assign rfl) rfl ?_
  refine WL.nil ?_
  refine At.then ?_
  refine WC.block ?_
  obtain ⟨p14, h, hk16⟩ := flow1 h
  obtain ⟨k15, h⟩ := loop_some h
  refine WC.joinB 0 (σ := UInt64) (fun x w' => p14 = .go x ∧ w = w') (fun x => [(0, vu x)]) ?_ ?_
  · refine WC.loop (σ := (UInt64 × Int)) (fun x k w' => loopN k (ref05_shifted_lp1 a1) (x.1, x.2) = some p14 ∧ w = w') (fun x => [(0, vu x.1), (1, vi a1), (5, vi x.2)]) (a0, 0) k15 (.cons rfl (.cons rfl (.cons rfl .nil))) ⟨h, rfl⟩ ?_
    rintro ⟨m11, i12⟩ k15 _ ⟨h, rfl⟩
    obtain ⟨j17, q18, rfl, h, hn19⟩ := rnd1 h
    unfold ref05_shifted_lp1 at h
    try dsimp only at h
    refine (show WC _ _ _ _ [(0, vu m11), (1, vi a1), (5, vi i12)] _ from ?_)
    refine WC.seq ?_
    refine WC.seq ?_
    refine WC.region ?_
    refine WL.y (Y.move rfl) rfl ?_
    refine WL.y (Y.move rfl) rfl ?_
    refine WL.y (Y.lss_i rfl rfl) rfl ?_
    refine WL.nil ?_
    refine At.then ?_
    rcases cnd h with ⟨hc20, h⟩ | ⟨hc20, h⟩
    · refine WC.condT' rfl hc20 ?_
      refine WC.skip ?_
      refine At.then ?_
      refine WC.seq ?_
      refine WC.block ?_
      refine WC.seq ?_
      refine WC.seq ?_
      refine WC.region ?_
      refine WL.y (Y.move rfl) rfl ?_
      refine WL.y (Y.lss_u (b := 2) rfl rfl) rfl ?_
      refine WL.nil ?_
      refine At.then ?_
      rcases cnd h with ⟨hc21, h⟩ | ⟨hc21, h⟩
      · refine WC.condT' rfl hc21 ?_
        refine WC.seq ?_
        refine WC.region ?_
        refine WL.y (Y.move rfl) rfl ?_
        refine WL.y (Y.assign rfl) rfl ?_
        refine WL.nil ?_
        refine At.then ?_
        refine WC.ret ?_
        refine At.thenR ?_
        refine At.inBlockR ?_
        refine At.thenR ?_
        refine At.loopR ?_
        have h := outr1 h hn19 hk16
        refine At.joinBR ?_
        refine At.inBlockR ?_
        refine At.thenR ?_
        obtain rfl := some1 h
        have hs22 : Stp [] (Lg.O0 (fun _ => False)) w (Lg.O0 (fun _ => False)) w := (Stp.refl _ _ _)
        exact At.res (.inl rfl) rfl (.tmp rfl .nil) ⟨rfl, (Stp.ext hs22 rfl rfl)⟩
      · refine WC.condF' rfl hc21 ?_
        refine WC.skip ?_
        refine At.then ?_
        refine WC.region ?_
        refine WL.y (Y.move rfl) rfl ?_
        refine WL.y (Y.quo_u (b := 2) (by decide) rfl rfl) rfl ?_
        refine WL.y (Y.move rfl) rfl ?_
        refine WL.y (Y.rem_u (b := 2) (by decide) rfl rfl) rfl ?_
        refine WL.y (Y.or_u rfl rfl) rfl ?_
        obtain ⟨m23, hm23, h⟩ := lt1 h
        refine WL.yE (Y.assign rfl) (congrArg vu hm23.symm) rfl ?_
        refine WL.nil ?_
        refine At.inBlock ?_
        refine At.then ?_
        refine WC.region ?_
        refine WL.y (Y.move rfl) rfl ?_
        refine WL.y (Y.add_i rfl rfl) rfl ?_
        obtain ⟨i24, hi24, h⟩ := lt1 h
        refine WL.yE (Y.assign rfl) (congrArg vi hi24.symm) rfl ?_
        refine WL.nil ?_
        exact At.round (m23, i24) j17 (Nat.lt_succ_self _) ⟨next1 h hn19, rfl⟩ (.cons rfl (.cons rfl (.cons rfl .nil)))
    · refine WC.condF' rfl hc20 ?_
      refine WC.exit ?_
      refine At.thenX ?_
      refine At.loopX ?_
      exact At.hitB (σ := UInt64) m11 ⟨brk1 h hn19, rfl⟩ (.cons rfl .nil)
  · rintro m13 _ ⟨rfl, rfl⟩
    replace h := flowK_go hk16
    try dsimp only at h
    refine (show At _ _ _ [(0, vu m13)] _ from ?_)
    refine At.inBlockHit ?_
    refine At.then ?_
    refine WC.seq ?_
    refine WC.region ?_
    refine WL.y (Y.move rfl) rfl ?_
    refine WL.y (Y.assign rfl) rfl ?_
    refine WL.nil ?_
    refine At.then ?_
    refine WC.ret ?_
    obtain rfl := some1 h
    have hs25 : Stp [] (Lg.O0 (fun _ => False)) w (Lg.O0 (fun _ => False)) w := (Stp.refl _ _ _)
    exact At.res (.inl rfl) rfl (.tmp rfl .nil) ⟨rfl, (Stp.ext hs25 rfl rfl)⟩

theorem c_ref05_round {a0 : UInt64} {a1 : Int} {a2 : Bool} {w : World} {r0 : UInt64} (h : ref05_round a0 a1 a2 = some r0) : Rets Try.prog 28 [vu a0, vi a1, .bool a2] w (fun v w' => v = vu r0 ∧ Ext w w') := by
  unfold ref05_round at h
  refine Rets.enter Try.func28 rfl rfl ?_
  refine (show WC _ _ _ _ [(0, vu a0), (1, vi a1), (2, .bool a2)] _ from ?_)
  refine WC.seq ?_
  refine WC.region ?_
  refine WL.y (Y.assign (v := vu 0) rfl) rfl ?_
  refine WL.nil ?_
  refine At.then ?_
  refine WC.seq ?_
  refine WC.seq ?_
  refine WC.region ?_
  refine WL.y (Y.move rfl) rfl ?_
  refine WL.y (Y.eql_u (b := 0) rfl rfl) rfl ?_
  refine WL.nil ?_
  refine At.then ?_
  rcases cnd h with ⟨hc11, h⟩ | ⟨hc11, h⟩
  · refine WC.condT' rfl hc11 ?_
    refine WC.seq ?_
    refine WC.region ?_
    refine WL.y (Y.assign (v := vu 0) rfl) rfl ?_
    refine WL.nil ?_
    refine At.then ?_
    refine WC.ret ?_
    refine At.thenR ?_
    obtain rfl := some1 h
    have hs12 : Stp [] (Lg.O0 (fun _ => False)) w (Lg.O0 (fun _ => False)) w := (Stp.refl _ _ _)
    exact At.res (.inl rfl) rfl (.tmp rfl .nil) ⟨rfl, (Stp.ext hs12 rfl rfl)⟩
  · refine WC.condF' rfl hc11 ?_
    refine WC.skip ?_
    refine At.then ?_
    refine WC.seq ?_
    obtain ⟨p18, h, hk19⟩ := bnd h
    refine WC.join (σ := (UInt64 × Int × Own)) (fun x w' => (x.1, x.2.1) = p18 ∧ Stp [] (Lg.O0 (fun _ => False)) w x.2.2 w') (fun x => [(0, vu x.1), (1, vi x.2.1), (2, .bool a2)]) ?_ ?_
    · refine WC.block ?_
      obtain ⟨p30, h, hk32⟩ := flow1 h
      obtain ⟨k31, h⟩ := loop_some h
      refine WC.joinB 0 (σ := (UInt64 × Int × Own)) (fun x w' => p30 = .go (x.1, x.2.1) ∧ Stp [] (Lg.O0 (fun _ => False)) w x.2.2 w') (fun x => [(0, vu x.1), (1, vi x.2.1), (2, .bool a2)]) ?_ ?_
      · refine WC.loop (σ := (UInt64 × Int × Own)) (fun x k w' => loopN k (ref05_round_lp1) (x.1, x.2.1) = some p30 ∧ Stp [] (Lg.O0 (fun _ => False)) w x.2.2 w') (fun x => [(0, vu x.1), (1, vi x.2.1), (2, .bool a2)]) (a0, a1, (Lg.O0 (fun _ => False))) k31 (.cons rfl (.cons rfl (.cons rfl .nil))) ⟨h, (Stp.refl _ _ _)⟩ ?_
        rintro ⟨m20, e21, O22⟩ k31 wd23 ⟨h, hst24⟩
        obtain ⟨j33, q34, rfl, h, hn35⟩ := rnd1 h
        unfold ref05_round_lp1 at h
        try dsimp only at h hst24
        refine (show WC _ _ _ _ [(0, vu m20), (1, vi e21), (2, .bool a2)] _ from ?_)
        refine WC.seq ?_
        refine WC.seq ?_
        refine WC.region ?_
        refine WL.y (Y.move rfl) rfl ?_
        refine WL.y (Y.geq_u (b := 72057594037927936) rfl rfl) rfl ?_
        refine WL.nil ?_
        refine At.then ?_
        rcases cnd h with ⟨hc36, h⟩ | ⟨hc36, h⟩
        · refine WC.condT' rfl hc36 ?_
          refine WC.skip ?_
          refine At.then ?_
          refine WC.block ?_
          refine WC.seq ?_
          refine WC.region ?_
          refine WL.y (Y.move rfl) rfl ?_
          obtain ⟨r37, hp38, h⟩ := bnd h
          refine WL.call (vals := [vu m20, vi 1]) kok27 rfl rfl (c_ref05_shifted hp38) ?_
          rintro vr41 wd40 ⟨rfl, hm39⟩
          obtain ⟨O42, hold43, hnew44, hst45⟩ := adoptE O22 (fun k => 1) hm39
          refine WL.y (Y.assign rfl) rfl ?_
          refine WL.nil ?_
          refine At.then ?_
          refine WC.region ?_
          refine WL.y (Y.move rfl) rfl ?_
          refine WL.y (Y.add_i rfl rfl) rfl ?_
          obtain ⟨e46, he46, h⟩ := lt1 h
          refine WL.yE (Y.assign rfl) (congrArg vi he46.symm) rfl ?_
          refine WL.nil ?_
          refine At.inBlock ?_
          exact At.round (r37, e46, O42) j33 (Nat.lt_succ_self _) ⟨next1 h hn35, (Stp.trans (Stp.up hst24 rfl) (Stp.up hst45 rfl))⟩ (.cons rfl (.cons rfl (.cons rfl .nil)))
        · refine WC.condF' rfl hc36 ?_
          refine WC.exit ?_
          refine At.thenX ?_
          refine At.loopX ?_
          exact At.hitB (σ := (UInt64 × Int × Own)) (m20, e21, O22) ⟨brk1 h hn35, (Stp.up hst24 rfl)⟩ (.cons rfl (.cons rfl (.cons rfl .nil)))
      · rintro ⟨m25, e26, O27⟩ wd28 ⟨rfl, hst29⟩
        replace h := flowK_go hk32
        try dsimp only at h hst29
        refine (show At _ _ _ [(0, vu m25), (1, vi e26), (2, .bool a2)] _ from ?_)
        refine At.inBlockHit ?_
        exact At.join (σ := (UInt64 × Int × Own)) (m25, e26, O27) ⟨some1 h, (Stp.up hst29 rfl)⟩ (.cons rfl (.cons rfl (.cons rfl .nil)))
    · rintro ⟨m13, e14, O15⟩ wd16 ⟨rfl, hst17⟩
      replace h := hk19
      try dsimp only at h hst17
      refine (show At _ _ _ [(0, vu m13), (1, vi e14), (2, .bool a2)] _ from ?_)
      refine At.then ?_
      refine WC.seq ?_
      obtain ⟨p49, h, hk50⟩ := bnd h
      refine WC.join (σ := (UInt64 × Int)) (fun x w' => (x.1, x.2) = p49 ∧ wd16 = w') (fun x => [(0, vu x.1), (1, vi x.2), (2, .bool a2)]) ?_ ?_
      · refine WC.block ?_
        obtain ⟨p55, h, hk57⟩ := flow1 h
        obtain ⟨k56, h⟩ := loop_some h
        refine WC.joinB 2 (σ := (UInt64 × Int)) (fun x w' => p55 = .go (x.1, x.2) ∧ wd16 = w') (fun x => [(0, vu x.1), (1, vi x.2), (2, .bool a2)]) ?_ ?_
        · refine WC.loop (σ := (UInt64 × Int)) (fun x k w' => loopN k (ref05_round_lp2) (x.1, x.2) = some p55 ∧ wd16 = w') (fun x => [(0, vu x.1), (1, vi x.2), (2, .bool a2)]) (m13, e14) k56 (.cons rfl (.cons rfl (.cons rfl .nil))) ⟨h, rfl⟩ ?_
          rintro ⟨m51, e52⟩ k56 _ ⟨h, rfl⟩
          obtain ⟨j58, q59, rfl, h, hn60⟩ := rnd1 h
          unfold ref05_round_lp2 at h
          try dsimp only at h
          refine (show WC _ _ _ _ [(0, vu m51), (1, vi e52), (2, .bool a2)] _ from ?_)
          refine WC.seq ?_
          refine WC.seq ?_
          refine WC.region ?_
          refine WL.y (Y.move rfl) rfl ?_
          refine WL.y (Y.lss_u (b := 36028797018963968) rfl rfl) rfl ?_
          refine WL.y (Y.move rfl) rfl ?_
          refine WL.cut 3 (σ := Unit) (fun _ w' => wd16 = w') (fun _ => [(0, vu m51), (1, vi e52), (2, .bool a2), (22, .bool ((decide (m51 < 36028797018963968)) && (decide (1 < e52))))]) ?_ ?_
          · refine WL.part 19 rfl (fun hE61 => ?_) (fun hE61 => ?_)
            · refine WL.ung rfl rfl ?_
              refine WL.y (Y.move rfl) rfl ?_
              refine WL.ung rfl rfl ?_
              refine WL.y (Y.gtr_i rfl rfl) rfl ?_
              refine WL.y (Y.pick (b := true) rfl rfl) rfl ?_
              refine WL.ren (v' := .bool ((decide (m51 < 36028797018963968)) && (decide (1 < e52)))) 22 rfl (congrArg Value.bool (andT hE61)) ?_
              exact WL.nil (At.join () rfl (.cons rfl (.cons rfl (.cons rfl (.cons rfl .nil)))))
            · refine WL.gS rfl rfl rfl rfl ?_
              refine WL.gS rfl rfl rfl rfl ?_
              refine WL.y (Y.pick (b := false) rfl rfl) rfl ?_
              refine WL.ren (v' := .bool ((decide (m51 < 36028797018963968)) && (decide (1 < e52)))) 22 rfl (congrArg Value.bool (andF hE61)) ?_
              exact WL.nil (At.join () rfl (.cons rfl (.cons rfl (.cons rfl (.cons rfl .nil)))))
          · rintro _ _ rfl
            refine (show WL _ _ _ _ _ [(0, vu m51), (1, vi e52), (2, .bool a2), (22, .bool ((decide (m51 < 36028797018963968)) && (decide (1 < e52))))] _ from ?_)
            refine WL.nil ?_
            refine At.then ?_
            rcases cnd h with ⟨hc62, h⟩ | ⟨hc62, h⟩
            · refine WC.condT' rfl hc62 ?_
              refine WC.skip ?_
              refine At.then ?_
              refine WC.block ?_
              refine WC.seq ?_
              refine WC.region ?_
              refine WL.y (Y.move rfl) rfl ?_
              refine WL.y (Y.mul_u (a := 2) rfl rfl) rfl ?_
              obtain ⟨m63, hm63, h⟩ := lt1 h
              refine WL.yE (Y.assign rfl) (congrArg vu hm63.symm) rfl ?_
              refine WL.nil ?_
              refine At.then ?_
              refine WC.region ?_
              refine WL.y (Y.move rfl) rfl ?_
              refine WL.y (Y.sub_i rfl rfl) rfl ?_
              obtain ⟨e64, he64, h⟩ := lt1 h
              refine WL.yE (Y.assign rfl) (congrArg vi he64.symm) rfl ?_
              refine WL.nil ?_
              refine At.inBlock ?_
              exact At.round (m63, e64) j58 (Nat.lt_succ_self _) ⟨next1 h hn60, rfl⟩ (.cons rfl (.cons rfl (.cons rfl .nil)))
            · refine WC.condF' rfl hc62 ?_
              refine WC.exit ?_
              refine At.thenX ?_
              refine At.loopX ?_
              exact At.hitB (σ := (UInt64 × Int)) (m51, e52) ⟨brk1 h hn60, rfl⟩ (.cons rfl (.cons rfl (.cons rfl .nil)))
        · rintro ⟨m53, e54⟩ _ ⟨rfl, rfl⟩
          replace h := flowK_go hk57
          try dsimp only at h
          refine (show At _ _ _ [(0, vu m53), (1, vi e54), (2, .bool a2)] _ from ?_)
          refine At.inBlockHit ?_
          exact At.join (σ := (UInt64 × Int)) (m53, e54) ⟨some1 h, rfl⟩ (.cons rfl (.cons rfl (.cons rfl .nil)))
      · rintro ⟨m47, e48⟩ _ ⟨rfl, rfl⟩
        replace h := hk50
        try dsimp only at h
        refine (show At _ _ _ [(0, vu m47), (1, vi e48), (2, .bool a2)] _ from ?_)
        refine At.then ?_
        refine WC.seq ?_
        refine WC.region ?_
        refine WL.y (Y.move rfl) rfl ?_
        refine WL.y (Y.rem_u (b := 8) (by decide) rfl rfl) rfl ?_
        obtain ⟨rest65, hrest65, h⟩ := lt1 h
        refine WL.yE (Y.assign rfl) (congrArg vu hrest65.symm) rfl ?_
        refine WL.nil ?_
        refine At.then ?_
        refine WC.seq ?_
        refine WC.region ?_
        refine WL.y (Y.move rfl) rfl ?_
        refine WL.y (Y.quo_u (b := 8) (by decide) rfl rfl) rfl ?_
        obtain ⟨m66, hm66, h⟩ := lt1 h
        refine WL.yE (Y.assign rfl) (congrArg vu hm66.symm) rfl ?_
        refine WL.nil ?_
        refine At.then ?_
        refine WC.seq ?_
        obtain ⟨p68, h, hk69⟩ := bnd h
        refine WC.join (σ := UInt64) (fun x w' => x = p68 ∧ wd16 = w') (fun x => [(0, vu x), (1, vi e48), (2, .bool a2)]) ?_ ?_
        · refine WC.seq ?_
          refine WC.region ?_
          refine WL.y (Y.move rfl) rfl ?_
          refine WL.y (Y.gtr_u (b := 4) rfl rfl) rfl ?_
          refine WL.y (Y.move rfl) rfl ?_
          refine WL.cut 8 (σ := Unit) (fun _ w' => wd16 = w') (fun _ => [(0, vu m66), (1, vi e48), (2, .bool a2), (41, .bool ((decide (4 < rest65)) || ((decide (rest65 = 4)) && (decide ((m66 % 2) = 1)))))]) ?_ ?_
          · refine WL.part 33 rfl (fun hE70 => ?_) (fun hE70 => ?_)
            · refine WL.gS rfl rfl rfl rfl ?_
              refine WL.gS rfl rfl rfl rfl ?_
              refine WL.gS rfl rfl rfl rfl ?_
              refine WL.gS rfl rfl rfl rfl ?_
              refine WL.gS rfl rfl rfl rfl ?_
              refine WL.gS rfl rfl rfl rfl ?_
              refine WL.gS rfl rfl rfl rfl ?_
              refine WL.y (Y.pick (b := true) rfl rfl) rfl ?_
              refine WL.ren (v' := .bool ((decide (4 < rest65)) || ((decide (rest65 = 4)) && (decide ((m66 % 2) = 1))))) 41 rfl (congrArg Value.bool (orT hE70)) ?_
              exact WL.nil (At.join () rfl (.cons rfl (.cons rfl (.cons rfl (.cons rfl .nil)))))
            · refine WL.ung rfl rfl ?_
              refine WL.y (Y.move rfl) rfl ?_
              refine WL.ung rfl rfl ?_
              refine WL.y (Y.eql_u (b := 4) rfl rfl) rfl ?_
              refine WL.ung rfl rfl ?_
              refine WL.y (Y.move rfl) rfl ?_
              refine WL.cut 4 (σ := Unit) (fun _ w' => wd16 = w') (fun _ => [(0, vu m66), (1, vi e48), (2, .bool a2), (33, .bool false), (40, .bool ((decide (rest65 = 4)) && (decide ((m66 % 2) = 1))))]) ?_ ?_
              · refine WL.part 36 rfl (fun hE71 => ?_) (fun hE71 => ?_)
                · refine WL.ung rfl rfl ?_
                  refine WL.y (Y.move rfl) rfl ?_
                  refine WL.ung rfl rfl ?_
                  refine WL.y (Y.rem_u (b := 2) (by decide) rfl rfl) rfl ?_
                  refine WL.ung rfl rfl ?_
                  refine WL.y (Y.eql_u (b := 1) rfl rfl) rfl ?_
                  refine WL.ung rfl rfl ?_
                  refine WL.y (Y.pick (b := true) rfl rfl) rfl ?_
                  refine WL.ren (v' := .bool ((decide (rest65 = 4)) && (decide ((m66 % 2) = 1)))) 40 rfl (congrArg Value.bool (andT hE71)) ?_
                  exact WL.nil (At.join () rfl (.cons rfl (.cons rfl (.cons rfl (.cons rfl (.cons rfl .nil))))))
                · refine WL.gS rfl rfl rfl rfl ?_
                  refine WL.gS rfl rfl rfl rfl ?_
                  refine WL.gS rfl rfl rfl rfl ?_
                  refine WL.ung rfl rfl ?_
                  refine WL.y (Y.pick (b := false) rfl rfl) rfl ?_
                  refine WL.ren (v' := .bool ((decide (rest65 = 4)) && (decide ((m66 % 2) = 1)))) 40 rfl (congrArg Value.bool (andF hE71)) ?_
                  exact WL.nil (At.join () rfl (.cons rfl (.cons rfl (.cons rfl (.cons rfl (.cons rfl .nil))))))
              · rintro _ _ rfl
                refine (show WL _ _ _ _ _ [(0, vu m66), (1, vi e48), (2, .bool a2), (33, .bool false), (40, .bool ((decide (rest65 = 4)) && (decide ((m66 % 2) = 1))))] _ from ?_)
                refine WL.y (Y.pick (b := false) rfl rfl) rfl ?_
                refine WL.ren (v' := .bool ((decide (4 < rest65)) || ((decide (rest65 = 4)) && (decide ((m66 % 2) = 1))))) 41 rfl (congrArg Value.bool (orF hE70)) ?_
                exact WL.nil (At.join () rfl (.cons rfl (.cons rfl (.cons rfl (.cons rfl .nil)))))
          · rintro _ _ rfl
            refine (show WL _ _ _ _ _ [(0, vu m66), (1, vi e48), (2, .bool a2), (41, .bool ((decide (4 < rest65)) || ((decide (rest65 = 4)) && (decide ((m66 % 2) = 1)))))] _ from ?_)
            refine WL.nil ?_
            refine At.then ?_
            rcases cnd h with ⟨hc72, h⟩ | ⟨hc72, h⟩
            · refine WC.condT' rfl hc72 ?_
              refine WC.region ?_
              refine WL.y (Y.move rfl) rfl ?_
              refine WL.y (Y.add_u (b := 1) rfl rfl) rfl ?_
              obtain ⟨m73, hm73, h⟩ := lt1 h
              refine WL.yE (Y.assign rfl) (congrArg vu hm73.symm) rfl ?_
              refine WL.nil ?_
              exact At.join (σ := UInt64) m73 ⟨some1 h, rfl⟩ (.cons rfl (.cons rfl (.cons rfl .nil)))
            · refine WC.condF' rfl hc72 ?_
              refine WC.skip ?_
              exact At.join (σ := UInt64) m66 ⟨some1 h, rfl⟩ (.cons rfl (.cons rfl (.cons rfl .nil)))
        · rintro m67 _ ⟨rfl, rfl⟩
          replace h := hk69
          try dsimp only at h
          refine (show At _ _ _ [(0, vu m67), (1, vi e48), (2, .bool a2)] _ from ?_)
          refine At.then ?_
          refine WC.seq ?_
          obtain ⟨p76, h, hk77⟩ := bnd h
          refine WC.join (σ := (UInt64 × Int)) (fun x w' => (x.1, x.2) = p76 ∧ wd16 = w') (fun x => [(0, vu x.1), (1, vi x.2), (2, .bool a2)]) ?_ ?_
          · refine WC.seq ?_
            refine WC.region ?_
            refine WL.y (Y.move rfl) rfl ?_
            refine WL.y (Y.geq_u (b := 9007199254740992) rfl rfl) rfl ?_
            refine WL.nil ?_
            refine At.then ?_
            rcases cnd h with ⟨hc78, h⟩ | ⟨hc78, h⟩
            · refine WC.condT' rfl hc78 ?_
              refine WC.seq ?_
              refine WC.region ?_
              refine WL.y (Y.move rfl) rfl ?_
              refine WL.y (Y.quo_u (b := 2) (by decide) rfl rfl) rfl ?_
              obtain ⟨m79, hm79, h⟩ := lt1 h
              refine WL.yE (Y.assign rfl) (congrArg vu hm79.symm) rfl ?_
              refine WL.nil ?_
              refine At.then ?_
              refine WC.region ?_
              refine WL.y (Y.move rfl) rfl ?_
              refine WL.y (Y.add_i rfl rfl) rfl ?_
              obtain ⟨e80, he80, h⟩ := lt1 h
              refine WL.yE (Y.assign rfl) (congrArg vi he80.symm) rfl ?_
              refine WL.nil ?_
              exact At.join (σ := (UInt64 × Int)) (m79, e80) ⟨some1 h, rfl⟩ (.cons rfl (.cons rfl (.cons rfl .nil)))
            · refine WC.condF' rfl hc78 ?_
              refine WC.skip ?_
              exact At.join (σ := (UInt64 × Int)) (m67, e48) ⟨some1 h, rfl⟩ (.cons rfl (.cons rfl (.cons rfl .nil)))
          · rintro ⟨m74, e75⟩ _ ⟨rfl, rfl⟩
            replace h := hk77
            try dsimp only at h
            refine (show At _ _ _ [(0, vu m74), (1, vi e75), (2, .bool a2)] _ from ?_)
            refine At.then ?_
            refine WC.seq ?_
            refine WC.region ?_
            refine WL.y (Y.assign (v := vu 9218868437227405312) rfl) rfl ?_
            refine WL.nil ?_
            refine At.then ?_
            refine WC.seq ?_
            obtain ⟨p82, h, hk83⟩ := bnd h
            refine WC.join (σ := UInt64) (fun x w' => x = p82 ∧ wd16 = w') (fun x => [(2, .bool a2), (8, vu x)]) ?_ ?_
            · refine WC.seq ?_
              refine WC.region ?_
              refine WL.y (Y.move rfl) rfl ?_
              refine WL.y (Y.lss_i rfl rfl) rfl ?_
              refine WL.nil ?_
              refine At.then ?_
              rcases cnd h with ⟨hc84, h⟩ | ⟨hc84, h⟩
              · refine WC.condT' rfl hc84 ?_
                refine WC.seq ?_
                refine WC.region ?_
                refine WL.y (Y.move rfl) rfl ?_
                refine WL.y (Y.assign rfl) rfl ?_
                refine WL.nil ?_
                refine At.then ?_
                refine WC.seq ?_
                refine WC.region ?_
                refine WL.y (Y.move rfl) rfl ?_
                refine WL.y (Y.geq_u (b := 4503599627370496) rfl rfl) rfl ?_
                refine WL.nil ?_
                refine At.then ?_
                rcases cnd h with ⟨hc85, h⟩ | ⟨hc85, h⟩
                · refine WC.condT' rfl hc85 ?_
                  refine WC.region ?_
                  refine WL.y (Y.move rfl) rfl ?_
                  refine WL.y (Y.sub_u (b := 4503599627370496) rfl rfl) rfl ?_
                  refine WL.y (Y.move rfl) rfl ?_
                  refine WL.y (Y.conv_iu ty3.u ty22.u rfl) rfl ?_
                  refine WL.y (Y.mul_u (b := 4503599627370496) rfl rfl) rfl ?_
                  refine WL.y (Y.add_u rfl rfl) rfl ?_
                  obtain ⟨out86, hout86, h⟩ := lt1 h
                  refine WL.yE (Y.assign rfl) (congrArg vu hout86.symm) rfl ?_
                  refine WL.nil ?_
                  exact At.join (σ := UInt64) out86 ⟨some1 h, rfl⟩ (.cons rfl (.cons rfl .nil))
                · refine WC.condF' rfl hc85 ?_
                  refine WC.skip ?_
                  exact At.join (σ := UInt64) m74 ⟨some1 h, rfl⟩ (.cons rfl (.cons rfl .nil))
              · refine WC.condF' rfl hc84 ?_
                refine WC.skip ?_
                exact At.join (σ := UInt64) 9218868437227405312 ⟨some1 h, rfl⟩ (.cons rfl (.cons rfl .nil))
            · rintro out81 _ ⟨rfl, rfl⟩
              replace h := hk83
              try dsimp only at h
              refine (show At _ _ _ [(2, .bool a2), (8, vu out81)] _ from ?_)
              refine At.then ?_
              refine WC.seq ?_
              refine WC.seq ?_
              refine WC.region ?_
              refine WL.y (Y.move rfl) rfl ?_
              refine WL.nil ?_
              refine At.then ?_
              rcases cnd h with ⟨hc87, h⟩ | ⟨hc87, h⟩
              · refine WC.condT' rfl hc87 ?_
                refine WC.seq ?_
                refine WC.region ?_
                refine WL.y (Y.move rfl) rfl ?_
                refine WL.y (Y.add_u (b := 9223372036854775808) rfl rfl) rfl ?_
                obtain ⟨t88, ht88, h⟩ := lt1 h
                refine WL.yE (Y.assign rfl) (congrArg vu ht88.symm) rfl ?_
                refine WL.nil ?_
                refine At.then ?_
                refine WC.ret ?_
                refine At.thenR ?_
                obtain rfl := some1 h
                have hs89 : Stp [] (Lg.O0 (fun _ => False)) w O15 wd16 := (Stp.up hst17 rfl)
                exact At.res (.inl rfl) rfl (.tmp rfl .nil) ⟨rfl, (Stp.ext hs89 rfl rfl)⟩
              · refine WC.condF' rfl hc87 ?_
                refine WC.skip ?_
                refine At.then ?_
                refine WC.seq ?_
                refine WC.region ?_
                refine WL.y (Y.move rfl) rfl ?_
                refine WL.y (Y.assign rfl) rfl ?_
                refine WL.nil ?_
                refine At.then ?_
                refine WC.ret ?_
                obtain rfl := some1 h
                have hs90 : Stp [] (Lg.O0 (fun _ => False)) w O15 wd16 := (Stp.up hst17 rfl)
                exact At.res (.inl rfl) rfl (.tmp rfl .nil) ⟨rfl, (Stp.ext hs90 rfl rfl)⟩

theorem c_ref05_Add {a0 : UInt64} {a1 : UInt64} {w : World} {r0 : UInt64} (h : ref05_Add a0 a1 = some r0) : Rets Try.prog 9 [vu a0, vu a1] w (fun v w' => v = vu r0 ∧ Ext w w') := by
  unfold ref05_Add at h
  refine Rets.enter Try.func9 rfl rfl ?_
  refine (show WC _ _ _ _ [(0, vu a0), (1, vu a1)] _ from ?_)
  refine WC.seq ?_
  refine WC.region ?_
  refine WL.y (Y.assign (v := vu 0) rfl) rfl ?_
  refine WL.nil ?_
  refine At.then ?_
  refine WC.seq ?_
  refine WC.seq ?_
  refine WC.region ?_
  refine WL.y (Y.move rfl) rfl ?_
  obtain ⟨r11, hp12, h⟩ := bnd h
  refine WL.call (vals := [vu a0]) kok15 rfl rfl (c_ref05_Odd hp12) ?_
  rintro vr15 wd14 ⟨rfl, hm13⟩
  obtain ⟨O16, hold17, hnew18, hst19⟩ := adoptE (Lg.O0 (fun _ => False)) (fun k => 1) hm13
  refine WL.y (Y.move rfl) rfl ?_
  obtain ⟨p24, h, hk25⟩ := bnd h
  refine WL.cut 3 (σ := (Bool × Own)) (fun x w' => x.1 = p24 ∧ Stp [] O16 wd14 x.2 w') (fun x => [(0, vu a0), (1, vu a1), (16, .bool x.1)]) ?_ ?_
  · rcases cnd h with ⟨hE26, h⟩ | ⟨hE26, h⟩
    · refine WL.ren 13 rfl (congrArg Value.bool hE26) ?_
      refine WL.gS rfl rfl rfl rfl ?_
      refine WL.gS rfl rfl rfl rfl ?_
      refine WL.y (Y.pick (b := true) rfl rfl) rfl ?_
      exact WL.nil (At.join (σ := (Bool × Own)) (true, O16) ⟨some1 h, (Stp.refl _ _ _)⟩ (.cons rfl (.cons rfl (.cons rfl .nil))))
    · refine WL.ren 13 rfl (congrArg Value.bool hE26) ?_
      refine WL.ung rfl rfl ?_
      refine WL.y (Y.move rfl) rfl ?_
      refine WL.ung rfl rfl ?_
      obtain ⟨r27, hp28, h⟩ := bnd h
      refine WL.call (vals := [vu a1]) kok15 rfl rfl (c_ref05_Odd hp28) ?_
      rintro vr31 wd30 ⟨rfl, hm29⟩
      obtain ⟨O32, hold33, hnew34, hst35⟩ := adoptE O16 (fun k => 1) hm29
      refine WL.y (Y.pick (b := false) rfl rfl) rfl ?_
      exact WL.nil (At.join (σ := (Bool × Own)) (r27, O32) ⟨some1 h, (Stp.up hst35 rfl)⟩ (.cons rfl (.cons rfl (.cons rfl .nil))))
  · rintro ⟨x20, O21⟩ wd22 ⟨rfl, hst23⟩
    replace h := hk25
    try dsimp only at h hst23
    refine (show WL _ _ _ _ _ [(0, vu a0), (1, vu a1), (16, .bool x20)] _ from ?_)
    refine WL.nil ?_
    refine At.then ?_
    rcases cnd h with ⟨hc36, h⟩ | ⟨hc36, h⟩
    · refine WC.condT' rfl hc36 ?_
      refine WC.seq ?_
      refine WC.region ?_
      refine WL.y (Y.assign (v := vu 9221120237041090561) rfl) rfl ?_
      refine WL.nil ?_
      refine At.then ?_
      refine WC.ret ?_
      refine At.thenR ?_
      obtain rfl := some1 h
      have hs37 : Stp [] (Lg.O0 (fun _ => False)) w O21 wd22 := (Stp.trans (Stp.up hst19 rfl) (Stp.up hst23 rfl))
      exact At.res (.inl rfl) rfl (.tmp rfl .nil) ⟨rfl, (Stp.ext hs37 rfl rfl)⟩
    · refine WC.condF' rfl hc36 ?_
      refine WC.skip ?_
      refine At.then ?_
      refine WC.seq ?_
      refine WC.seq ?_
      refine WC.region ?_
      refine WL.y (Y.move rfl) rfl ?_
      obtain ⟨r38, hp39, h⟩ := bnd h
      refine WL.call (vals := [vu a0]) kok17 rfl rfl (c_ref05_Finite hp39) ?_
      rintro vr42 wd41 ⟨rfl, hm40⟩
      obtain ⟨O43, hold44, hnew45, hst46⟩ := adoptE O21 (fun k => 1) hm40
      refine WL.y (Y.not rfl) rfl ?_
      refine WL.y (Y.move rfl) rfl ?_
      obtain ⟨p51, h, hk52⟩ := bnd h
      refine WL.cut 4 (σ := (Bool × Own)) (fun x w' => x.1 = p51 ∧ Stp [] O43 wd41 x.2 w') (fun x => [(0, vu a0), (1, vu a1), (24, .bool x.1)]) ?_ ?_
      · rcases cnd h with ⟨hE53, h⟩ | ⟨hE53, h⟩
        · refine WL.ren 20 rfl (congrArg Value.bool hE53) ?_
          refine WL.ung rfl rfl ?_
          refine WL.y (Y.move rfl) rfl ?_
          refine WL.ung rfl rfl ?_
          obtain ⟨r54, hp55, h⟩ := bnd h
          refine WL.call (vals := [vu a1]) kok17 rfl rfl (c_ref05_Finite hp55) ?_
          rintro vr58 wd57 ⟨rfl, hm56⟩
          obtain ⟨O59, hold60, hnew61, hst62⟩ := adoptE O43 (fun k => 1) hm56
          refine WL.ung rfl rfl ?_
          refine WL.y (Y.not rfl) rfl ?_
          refine WL.y (Y.pick (b := true) rfl rfl) rfl ?_
          exact WL.nil (At.join (σ := (Bool × Own)) ((!r54), O59) ⟨some1 h, (Stp.up hst62 rfl)⟩ (.cons rfl (.cons rfl (.cons rfl .nil))))
        · refine WL.ren 20 rfl (congrArg Value.bool hE53) ?_
          refine WL.gS rfl rfl rfl rfl ?_
          refine WL.gS rfl rfl rfl rfl ?_
          refine WL.gS rfl rfl rfl rfl ?_
          refine WL.y (Y.pick (b := false) rfl rfl) rfl ?_
          exact WL.nil (At.join (σ := (Bool × Own)) (false, O43) ⟨some1 h, (Stp.refl _ _ _)⟩ (.cons rfl (.cons rfl (.cons rfl .nil))))
      · rintro ⟨x47, O48⟩ wd49 ⟨rfl, hst50⟩
        replace h := hk52
        try dsimp only at h hst50
        refine (show WL _ _ _ _ _ [(0, vu a0), (1, vu a1), (24, .bool x47)] _ from ?_)
        refine WL.y (Y.move rfl) rfl ?_
        refine WL.cut 4 (σ := Unit) (fun _ w' => wd49 = w') (fun _ => [(0, vu a0), (1, vu a1), (29, .bool (x47 && (!decide (a0 = a1))))]) ?_ ?_
        · refine WL.part 25 rfl (fun hE63 => ?_) (fun hE63 => ?_)
          · refine WL.ung rfl rfl ?_
            refine WL.y (Y.move rfl) rfl ?_
            refine WL.ung rfl rfl ?_
            refine WL.y (Y.move rfl) rfl ?_
            refine WL.ung rfl rfl ?_
            refine WL.y (Y.neq_u rfl rfl) rfl ?_
            refine WL.y (Y.pick (b := true) rfl rfl) rfl ?_
            refine WL.ren (v' := .bool (x47 && (!decide (a0 = a1)))) 29 rfl (congrArg Value.bool (andT hE63)) ?_
            exact WL.nil (At.join () rfl (.cons rfl (.cons rfl (.cons rfl .nil))))
          · refine WL.gS rfl rfl rfl rfl ?_
            refine WL.gS rfl rfl rfl rfl ?_
            refine WL.gS rfl rfl rfl rfl ?_
            refine WL.y (Y.pick (b := false) rfl rfl) rfl ?_
            refine WL.ren (v' := .bool (x47 && (!decide (a0 = a1)))) 29 rfl (congrArg Value.bool (andF hE63)) ?_
            exact WL.nil (At.join () rfl (.cons rfl (.cons rfl (.cons rfl .nil))))
        · rintro _ _ rfl
          refine (show WL _ _ _ _ _ [(0, vu a0), (1, vu a1), (29, .bool (x47 && (!decide (a0 = a1))))] _ from ?_)
          refine WL.nil ?_
          refine At.then ?_
          rcases cnd h with ⟨hc64, h⟩ | ⟨hc64, h⟩
          · refine WC.condT' rfl hc64 ?_
            refine WC.seq ?_
            refine WC.region ?_
            refine WL.y (Y.assign (v := vu 9221120237041090561) rfl) rfl ?_
            refine WL.nil ?_
            refine At.then ?_
            refine WC.ret ?_
            refine At.thenR ?_
            obtain rfl := some1 h
            have hs65 : Stp [] (Lg.O0 (fun _ => False)) w O48 wd49 := (Stp.trans (Stp.up hst19 rfl) (Stp.trans (Stp.up hst23 rfl) (Stp.trans (Stp.up hst46 rfl) (Stp.up hst50 rfl))))
            exact At.res (.inl rfl) rfl (.tmp rfl .nil) ⟨rfl, (Stp.ext hs65 rfl rfl)⟩
          · refine WC.condF' rfl hc64 ?_
            refine WC.skip ?_
            refine At.then ?_
            refine WC.seq ?_
            refine WC.seq ?_
            refine WC.region ?_
            refine WL.y (Y.move rfl) rfl ?_
            obtain ⟨r66, hp67, h⟩ := bnd h
            refine WL.call (vals := [vu a0]) kok17 rfl rfl (c_ref05_Finite hp67) ?_
            rintro vr70 wd69 ⟨rfl, hm68⟩
            obtain ⟨O71, hold72, hnew73, hst74⟩ := adoptE O48 (fun k => 1) hm68
            refine WL.y (Y.not rfl) rfl ?_
            refine WL.nil ?_
            refine At.then ?_
            rcases cnd h with ⟨hc75, h⟩ | ⟨hc75, h⟩
            · refine WC.condT' rfl hc75 ?_
              refine WC.seq ?_
              refine WC.region ?_
              refine WL.y (Y.move rfl) rfl ?_
              refine WL.y (Y.assign rfl) rfl ?_
              refine WL.nil ?_
              refine At.then ?_
              refine WC.ret ?_
              refine At.thenR ?_
              obtain rfl := some1 h
              have hs76 : Stp [] (Lg.O0 (fun _ => False)) w O71 wd69 := (Stp.trans (Stp.up hst19 rfl) (Stp.trans (Stp.up hst23 rfl) (Stp.trans (Stp.up hst46 rfl) (Stp.trans (Stp.up hst50 rfl) (Stp.up hst74 rfl)))))
              exact At.res (.inl rfl) rfl (.tmp rfl .nil) ⟨rfl, (Stp.ext hs76 rfl rfl)⟩
            · refine WC.condF' rfl hc75 ?_
              refine WC.skip ?_
              refine At.then ?_
              refine WC.seq ?_
              refine WC.seq ?_
              refine WC.region ?_
              refine WL.y (Y.move rfl) rfl ?_
              obtain ⟨r77, hp78, h⟩ := bnd h
              refine WL.call (vals := [vu a1]) kok17 rfl rfl (c_ref05_Finite hp78) ?_
              rintro vr81 wd80 ⟨rfl, hm79⟩
              obtain ⟨O82, hold83, hnew84, hst85⟩ := adoptE O71 (fun k => 1) hm79
              refine WL.y (Y.not rfl) rfl ?_
              refine WL.nil ?_
              refine At.then ?_
              rcases cnd h with ⟨hc86, h⟩ | ⟨hc86, h⟩
              · refine WC.condT' rfl hc86 ?_
                refine WC.seq ?_
                refine WC.region ?_
                refine WL.y (Y.move rfl) rfl ?_
                refine WL.y (Y.assign rfl) rfl ?_
                refine WL.nil ?_
                refine At.then ?_
                refine WC.ret ?_
                refine At.thenR ?_
                obtain rfl := some1 h
                have hs87 : Stp [] (Lg.O0 (fun _ => False)) w O82 wd80 := (Stp.trans (Stp.up hst19 rfl) (Stp.trans (Stp.up hst23 rfl) (Stp.trans (Stp.up hst46 rfl) (Stp.trans (Stp.up hst50 rfl) (Stp.trans (Stp.up hst74 rfl) (Stp.up hst85 rfl))))))
                exact At.res (.inl rfl) rfl (.tmp rfl .nil) ⟨rfl, (Stp.ext hs87 rfl rfl)⟩
              · refine WC.condF' rfl hc86 ?_
                refine WC.skip ?_
                refine At.then ?_
                refine WC.seq ?_
                refine WC.region ?_
                refine WL.y (Y.move rfl) rfl ?_
                obtain ⟨⟨r88, r89⟩, hp90, h⟩ := bnd h
                refine WL.call (vals := [vu a0]) kok26 rfl rfl (c_ref05_wide hp90) ?_
                rintro vr93 wd92 ⟨rfl, hm91⟩
                obtain ⟨O94, hold95, hnew96, hst97⟩ := adoptE O82 (fun k => 1) hm91
                refine WL.y (Y.move rfl) rfl ?_
                refine WL.y (Y.extract rfl rfl) rfl ?_
                refine WL.y (Y.extract rfl rfl) rfl ?_
                refine WL.y (Y.assign rfl) rfl ?_
                refine WL.y (Y.assign rfl) rfl ?_
                refine WL.nil ?_
                refine At.then ?_
                refine WC.seq ?_
                refine WC.region ?_
                refine WL.y (Y.move rfl) rfl ?_
                obtain ⟨⟨r98, r99⟩, hp100, h⟩ := bnd h
                refine WL.call (vals := [vu a1]) kok26 rfl rfl (c_ref05_wide hp100) ?_
                rintro vr103 wd102 ⟨rfl, hm101⟩
                obtain ⟨O104, hold105, hnew106, hst107⟩ := adoptE O94 (fun k => 1) hm101
                refine WL.y (Y.move rfl) rfl ?_
                refine WL.y (Y.extract rfl rfl) rfl ?_
                refine WL.y (Y.extract rfl rfl) rfl ?_
                refine WL.y (Y.assign rfl) rfl ?_
                refine WL.y (Y.assign rfl) rfl ?_
                refine WL.nil ?_
                refine At.then ?_
                refine WC.seq ?_
                refine WC.region ?_
                refine WL.y (Y.move rfl) rfl ?_
                refine WL.y (Y.mul_u (a := 8) rfl rfl) rfl ?_
                obtain ⟨m108, hm108, h⟩ := lt1 h
                refine WL.yE (Y.assign rfl) (congrArg vu hm108.symm) rfl ?_
                refine WL.nil ?_
                refine At.then ?_
                refine WC.seq ?_
                refine WC.region ?_
                refine WL.y (Y.move rfl) rfl ?_
                refine WL.y (Y.mul_u (a := 8) rfl rfl) rfl ?_
                obtain ⟨nv109, hnv109, h⟩ := lt1 h
                refine WL.yE (Y.assign rfl) (congrArg vu hnv109.symm) rfl ?_
                refine WL.nil ?_
                refine At.then ?_
                refine WC.seq ?_
                obtain ⟨p116, h, hk117⟩ := bnd h
                refine WC.join (σ := (UInt64 × Int × UInt64 × Own)) (fun x w' => (x.1, x.2.1, x.2.2.1) = p116 ∧ Stp [] O104 wd102 x.2.2.2 w') (fun x => [(0, vu a0), (1, vu a1), (5, vu x.1), (6, vi x.2.1), (7, vu x.2.2.1)]) ?_ ?_
                · refine WC.seq ?_
                  refine WC.region ?_
                  refine WL.y (Y.move rfl) rfl ?_
                  refine WL.y (Y.move rfl) rfl ?_
                  refine WL.y (Y.lss_i rfl rfl) rfl ?_
                  refine WL.nil ?_
                  refine At.then ?_
                  rcases cnd h with ⟨hc118, h⟩ | ⟨hc118, h⟩
                  · refine WC.condT' rfl hc118 ?_
                    refine WC.seq ?_
                    refine WC.region ?_
                    refine WL.y (Y.move rfl) rfl ?_
                    refine WL.y (Y.move rfl) rfl ?_
                    refine WL.y (Y.move rfl) rfl ?_
                    refine WL.y (Y.sub_i rfl rfl) rfl ?_
                    obtain ⟨r119, hp120, h⟩ := bnd h
                    refine WL.call (vals := [vu m108, vi (w64 (r99 - r89))]) kok27 rfl rfl (c_ref05_shifted hp120) ?_
                    rintro vr123 wd122 ⟨rfl, hm121⟩
                    obtain ⟨O124, hold125, hnew126, hst127⟩ := adoptE O104 (fun k => 1) hm121
                    refine WL.y (Y.assign rfl) rfl ?_
                    refine WL.nil ?_
                    refine At.then ?_
                    refine WC.region ?_
                    refine WL.y (Y.move rfl) rfl ?_
                    refine WL.y (Y.assign rfl) rfl ?_
                    refine WL.nil ?_
                    exact At.join (σ := (UInt64 × Int × UInt64 × Own)) (r119, r99, nv109, O124) ⟨some1 h, (Stp.up hst127 rfl)⟩ (.cons rfl (.cons rfl (.cons rfl (.cons rfl (.cons rfl .nil)))))
                  · refine WC.condF' rfl hc118 ?_
                    refine WC.region ?_
                    refine WL.y (Y.move rfl) rfl ?_
                    refine WL.y (Y.move rfl) rfl ?_
                    refine WL.y (Y.move rfl) rfl ?_
                    refine WL.y (Y.sub_i rfl rfl) rfl ?_
                    obtain ⟨r128, hp129, h⟩ := bnd h
                    refine WL.call (vals := [vu nv109, vi (w64 (r89 - r99))]) kok27 rfl rfl (c_ref05_shifted hp129) ?_
                    rintro vr132 wd131 ⟨rfl, hm130⟩
                    obtain ⟨O133, hold134, hnew135, hst136⟩ := adoptE O104 (fun k => 1) hm130
                    refine WL.y (Y.assign rfl) rfl ?_
                    refine WL.nil ?_
                    exact At.join (σ := (UInt64 × Int × UInt64 × Own)) (m108, r89, r128, O133) ⟨some1 h, (Stp.up hst136 rfl)⟩ (.cons rfl (.cons rfl (.cons rfl (.cons rfl (.cons rfl .nil)))))
                · rintro ⟨m110, e111, nv112, O113⟩ wd114 ⟨rfl, hst115⟩
                  replace h := hk117
                  try dsimp only at h hst115
                  refine (show At _ _ _ [(0, vu a0), (1, vu a1), (5, vu m110), (6, vi e111), (7, vu nv112)] _ from ?_)
                  refine At.then ?_
                  refine WC.seq ?_
                  refine WC.region ?_
                  refine WL.y (Y.move rfl) rfl ?_
                  refine WL.y (Y.geq_u (b := 9223372036854775808) rfl rfl) rfl ?_
                  refine WL.y (Y.move rfl) rfl ?_
                  refine WL.y (Y.geq_u (b := 9223372036854775808) rfl rfl) rfl ?_
                  obtain ⟨an137, han137, h⟩ := lt1 h
                  refine WL.yE (Y.assign rfl) (congrArg Value.bool han137.symm) rfl ?_
                  obtain ⟨bn138, hbn138, h⟩ := lt1 h
                  refine WL.yE (Y.assign rfl) (congrArg Value.bool hbn138.symm) rfl ?_
                  refine WL.nil ?_
                  refine At.then ?_
                  refine WC.seq ?_
                  refine WC.seq ?_
                  refine WC.region ?_
                  refine WL.y (Y.move rfl) rfl ?_
                  refine WL.y (Y.move rfl) rfl ?_
                  refine WL.y (Y.eqlB rfl rfl ty4.u) rfl ?_
                  refine WL.nil ?_
                  refine At.then ?_
                  rcases cnd h with ⟨hc139, h⟩ | ⟨hc139, h⟩
                  · refine WC.condT' rfl hc139 ?_
                    refine WC.seq ?_
                    refine WC.seq ?_
                    refine WC.region ?_
                    refine WL.y (Y.move rfl) rfl ?_
                    refine WL.y (Y.eql_u (b := 0) rfl rfl) rfl ?_
                    refine WL.y (Y.move rfl) rfl ?_
                    refine WL.cut 3 (σ := Unit) (fun _ w' => wd114 = w') (fun _ => [(0, vu a0), (5, vu m110), (6, vi e111), (7, vu nv112), (9, .bool an137), (78, .bool ((decide (m110 = 0)) && (decide (nv112 = 0))))]) ?_ ?_
                    · refine WL.part 75 rfl (fun hE140 => ?_) (fun hE140 => ?_)
                      · refine WL.ung rfl rfl ?_
                        refine WL.y (Y.move rfl) rfl ?_
                        refine WL.ung rfl rfl ?_
                        refine WL.y (Y.eql_u (b := 0) rfl rfl) rfl ?_
                        refine WL.y (Y.pick (b := true) rfl rfl) rfl ?_
                        refine WL.ren (v' := .bool ((decide (m110 = 0)) && (decide (nv112 = 0)))) 78 rfl (congrArg Value.bool (andT hE140)) ?_
                        exact WL.nil (At.join () rfl (.cons rfl (.cons rfl (.cons rfl (.cons rfl (.cons rfl (.cons rfl .nil)))))))
                      · refine WL.gS rfl rfl rfl rfl ?_
                        refine WL.gS rfl rfl rfl rfl ?_
                        refine WL.y (Y.pick (b := false) rfl rfl) rfl ?_
                        refine WL.ren (v' := .bool ((decide (m110 = 0)) && (decide (nv112 = 0)))) 78 rfl (congrArg Value.bool (andF hE140)) ?_
                        exact WL.nil (At.join () rfl (.cons rfl (.cons rfl (.cons rfl (.cons rfl (.cons rfl (.cons rfl .nil)))))))
                    · rintro _ _ rfl
                      refine (show WL _ _ _ _ _ [(0, vu a0), (5, vu m110), (6, vi e111), (7, vu nv112), (9, .bool an137), (78, .bool ((decide (m110 = 0)) && (decide (nv112 = 0))))] _ from ?_)
                      refine WL.nil ?_
                      refine At.then ?_
                      rcases cnd h with ⟨hc141, h⟩ | ⟨hc141, h⟩
                      · refine WC.condT' rfl hc141 ?_
                        refine WC.seq ?_
                        refine WC.region ?_
                        refine WL.y (Y.move rfl) rfl ?_
                        refine WL.y (Y.assign rfl) rfl ?_
                        refine WL.nil ?_
                        refine At.then ?_
                        refine WC.ret ?_
                        refine At.thenR ?_
                        refine At.thenR ?_
                        obtain rfl := some1 h
                        have hs142 : Stp [] (Lg.O0 (fun _ => False)) w O113 wd114 := (Stp.trans (Stp.up hst19 rfl) (Stp.trans (Stp.up hst23 rfl) (Stp.trans (Stp.up hst46 rfl) (Stp.trans (Stp.up hst50 rfl) (Stp.trans (Stp.up hst74 rfl) (Stp.trans (Stp.up hst85 rfl) (Stp.trans (Stp.up hst97 rfl) (Stp.trans (Stp.up hst107 rfl) (Stp.up hst115 rfl)))))))))
                        exact At.res (.inl rfl) rfl (.tmp rfl .nil) ⟨rfl, (Stp.ext hs142 rfl rfl)⟩
                      · refine WC.condF' rfl hc141 ?_
                        refine WC.skip ?_
                        refine At.then ?_
                        refine WC.seq ?_
                        refine WC.region ?_
                        refine WL.y (Y.move rfl) rfl ?_
                        refine WL.y (Y.move rfl) rfl ?_
                        refine WL.y (Y.add_u rfl rfl) rfl ?_
                        refine WL.y (Y.move rfl) rfl ?_
                        refine WL.y (Y.move rfl) rfl ?_
                        obtain ⟨r143, hp144, h⟩ := bnd h
                        refine WL.call (vals := [vu (m110 + nv112), vi e111, .bool an137]) kok28 rfl rfl (c_ref05_round hp144) ?_
                        rintro vr147 wd146 ⟨rfl, hm145⟩
                        obtain ⟨O148, hold149, hnew150, hst151⟩ := adoptE O113 (fun k => 1) hm145
                        refine WL.y (Y.assign rfl) rfl ?_
                        refine WL.nil ?_
                        refine At.then ?_
                        refine WC.ret ?_
                        refine At.thenR ?_
                        obtain rfl := some1 h
                        have hs152 : Stp [] (Lg.O0 (fun _ => False)) w O148 wd146 := (Stp.trans (Stp.up hst19 rfl) (Stp.trans (Stp.up hst23 rfl) (Stp.trans (Stp.up hst46 rfl) (Stp.trans (Stp.up hst50 rfl) (Stp.trans (Stp.up hst74 rfl) (Stp.trans (Stp.up hst85 rfl) (Stp.trans (Stp.up hst97 rfl) (Stp.trans (Stp.up hst107 rfl) (Stp.trans (Stp.up hst115 rfl) (Stp.up hst151 rfl))))))))))
                        exact At.res (.inl rfl) rfl (.tmp rfl .nil) ⟨rfl, (Stp.ext hs152 rfl rfl)⟩
                  · refine WC.condF' rfl hc139 ?_
                    refine WC.skip ?_
                    refine At.then ?_
                    refine WC.seq ?_
                    refine WC.seq ?_
                    refine WC.region ?_
                    refine WL.y (Y.move rfl) rfl ?_
                    refine WL.y (Y.move rfl) rfl ?_
                    refine WL.y (Y.geq_u rfl rfl) rfl ?_
                    refine WL.nil ?_
                    refine At.then ?_
                    rcases cnd h with ⟨hc153, h⟩ | ⟨hc153, h⟩
                    · refine WC.condT' rfl hc153 ?_
                      refine WC.seq ?_
                      refine WC.region ?_
                      refine WL.y (Y.move rfl) rfl ?_
                      refine WL.y (Y.move rfl) rfl ?_
                      refine WL.y (Y.sub_u rfl rfl) rfl ?_
                      refine WL.y (Y.move rfl) rfl ?_
                      refine WL.y (Y.move rfl) rfl ?_
                      refine WL.y (Y.move rfl) rfl ?_
                      refine WL.cut 4 (σ := Unit) (fun _ w' => wd114 = w') (fun _ => [(91, vu (m110 - nv112)), (92, vi e111), (98, .bool (an137 && (decide (nv112 < m110))))]) ?_ ?_
                      · refine WL.part 94 rfl (fun hE154 => ?_) (fun hE154 => ?_)
                        · refine WL.ung rfl rfl ?_
                          refine WL.y (Y.move rfl) rfl ?_
                          refine WL.ung rfl rfl ?_
                          refine WL.y (Y.move rfl) rfl ?_
                          refine WL.ung rfl rfl ?_
                          refine WL.y (Y.gtr_u rfl rfl) rfl ?_
                          refine WL.y (Y.pick (b := true) rfl rfl) rfl ?_
                          refine WL.ren (v' := .bool (an137 && (decide (nv112 < m110)))) 98 rfl (congrArg Value.bool (andT hE154)) ?_
                          exact WL.nil (At.join () rfl (.cons rfl (.cons rfl (.cons rfl .nil))))
                        · refine WL.gS rfl rfl rfl rfl ?_
                          refine WL.gS rfl rfl rfl rfl ?_
                          refine WL.gS rfl rfl rfl rfl ?_
                          refine WL.y (Y.pick (b := false) rfl rfl) rfl ?_
                          refine WL.ren (v' := .bool (an137 && (decide (nv112 < m110)))) 98 rfl (congrArg Value.bool (andF hE154)) ?_
                          exact WL.nil (At.join () rfl (.cons rfl (.cons rfl (.cons rfl .nil))))
                      · rintro _ _ rfl
                        refine (show WL _ _ _ _ _ [(91, vu (m110 - nv112)), (92, vi e111), (98, .bool (an137 && (decide (nv112 < m110))))] _ from ?_)
                        obtain ⟨r155, hp156, h⟩ := bnd h
                        refine WL.call (vals := [vu (m110 - nv112), vi e111, .bool (an137 && (decide (nv112 < m110)))]) kok28 rfl rfl (c_ref05_round hp156) ?_
                        rintro vr159 wd158 ⟨rfl, hm157⟩
                        obtain ⟨O160, hold161, hnew162, hst163⟩ := adoptE O113 (fun k => 1) hm157
                        refine WL.y (Y.assign rfl) rfl ?_
                        refine WL.nil ?_
                        refine At.then ?_
                        refine WC.ret ?_
                        refine At.thenR ?_
                        obtain rfl := some1 h
                        have hs164 : Stp [] (Lg.O0 (fun _ => False)) w O160 wd158 := (Stp.trans (Stp.up hst19 rfl) (Stp.trans (Stp.up hst23 rfl) (Stp.trans (Stp.up hst46 rfl) (Stp.trans (Stp.up hst50 rfl) (Stp.trans (Stp.up hst74 rfl) (Stp.trans (Stp.up hst85 rfl) (Stp.trans (Stp.up hst97 rfl) (Stp.trans (Stp.up hst107 rfl) (Stp.trans (Stp.up hst115 rfl) (Stp.up hst163 rfl))))))))))
                        exact At.res (.inl rfl) rfl (.tmp rfl .nil) ⟨rfl, (Stp.ext hs164 rfl rfl)⟩
                    · refine WC.condF' rfl hc153 ?_
                      refine WC.skip ?_
                      refine At.then ?_
                      refine WC.seq ?_
                      refine WC.region ?_
                      refine WL.y (Y.move rfl) rfl ?_
                      refine WL.y (Y.move rfl) rfl ?_
                      refine WL.y (Y.sub_u rfl rfl) rfl ?_
                      refine WL.y (Y.move rfl) rfl ?_
                      refine WL.y (Y.move rfl) rfl ?_
                      obtain ⟨r165, hp166, h⟩ := bnd h
                      refine WL.call (vals := [vu (nv112 - m110), vi e111, .bool bn138]) kok28 rfl rfl (c_ref05_round hp166) ?_
                      rintro vr169 wd168 ⟨rfl, hm167⟩
                      obtain ⟨O170, hold171, hnew172, hst173⟩ := adoptE O113 (fun k => 1) hm167
                      refine WL.y (Y.assign rfl) rfl ?_
                      refine WL.nil ?_
                      refine At.then ?_
                      refine WC.ret ?_
                      obtain rfl := some1 h
                      have hs174 : Stp [] (Lg.O0 (fun _ => False)) w O170 wd168 := (Stp.trans (Stp.up hst19 rfl) (Stp.trans (Stp.up hst23 rfl) (Stp.trans (Stp.up hst46 rfl) (Stp.trans (Stp.up hst50 rfl) (Stp.trans (Stp.up hst74 rfl) (Stp.trans (Stp.up hst85 rfl) (Stp.trans (Stp.up hst97 rfl) (Stp.trans (Stp.up hst107 rfl) (Stp.trans (Stp.up hst115 rfl) (Stp.up hst173 rfl))))))))))
                      exact At.res (.inl rfl) rfl (.tmp rfl .nil) ⟨rfl, (Stp.ext hs174 rfl rfl)⟩

theorem c_ref05_Minus {a0 : UInt64} {w : World} {r0 : UInt64} (h : ref05_Minus a0 = some r0) : Rets Try.prog 22 [vu a0] w (fun v w' => v = vu r0 ∧ Ext w w') := by
  unfold ref05_Minus at h
  refine Rets.enter Try.func22 rfl rfl ?_
  refine (show WC _ _ _ _ [(0, vu a0)] _ from ?_)
  refine WC.seq ?_
  refine WC.region ?_
  refine WL.y (Y.assign (v := vu 0) rfl) rfl ?_
  refine WL.nil ?_
  refine At.then ?_
  refine WC.seq ?_
  refine WC.seq ?_
  refine WC.region ?_
  refine WL.y (Y.move rfl) rfl ?_
  refine WL.y (Y.geq_u (b := 9223372036854775808) rfl rfl) rfl ?_
  refine WL.nil ?_
  refine At.then ?_
  rcases cnd h with ⟨hc11, h⟩ | ⟨hc11, h⟩
  · refine WC.condT' rfl hc11 ?_
    refine WC.seq ?_
    refine WC.region ?_
    refine WL.y (Y.move rfl) rfl ?_
    refine WL.y (Y.sub_u (b := 9223372036854775808) rfl rfl) rfl ?_
    obtain ⟨t12, ht12, h⟩ := lt1 h
    refine WL.yE (Y.assign rfl) (congrArg vu ht12.symm) rfl ?_
    refine WL.nil ?_
    refine At.then ?_
    refine WC.ret ?_
    refine At.thenR ?_
    obtain rfl := some1 h
    have hs13 : Stp [] (Lg.O0 (fun _ => False)) w (Lg.O0 (fun _ => False)) w := (Stp.refl _ _ _)
    exact At.res (.inl rfl) rfl (.tmp rfl .nil) ⟨rfl, (Stp.ext hs13 rfl rfl)⟩
  · refine WC.condF' rfl hc11 ?_
    refine WC.skip ?_
    refine At.then ?_
    refine WC.seq ?_
    refine WC.region ?_
    refine WL.y (Y.move rfl) rfl ?_
    refine WL.y (Y.add_u (b := 9223372036854775808) rfl rfl) rfl ?_
    obtain ⟨t14, ht14, h⟩ := lt1 h
    refine WL.yE (Y.assign rfl) (congrArg vu ht14.symm) rfl ?_
    refine WL.nil ?_
    refine At.then ?_
    refine WC.ret ?_
    obtain rfl := some1 h
    have hs15 : Stp [] (Lg.O0 (fun _ => False)) w (Lg.O0 (fun _ => False)) w := (Stp.refl _ _ _)
    exact At.res (.inl rfl) rfl (.tmp rfl .nil) ⟨rfl, (Stp.ext hs15 rfl rfl)⟩

theorem c_ref05_Sub {a0 : UInt64} {a1 : UInt64} {w : World} {r0 : UInt64} (h : ref05_Sub a0 a1 = some r0) : Rets Try.prog 11 [vu a0, vu a1] w (fun v w' => v = vu r0 ∧ Ext w w') := by
  unfold ref05_Sub at h
  refine Rets.enter Try.func11 rfl rfl ?_
  refine (show WC _ _ _ _ [(0, vu a0), (1, vu a1)] _ from ?_)
  refine WC.seq ?_
  refine WC.region ?_
  refine WL.y (Y.assign (v := vu 0) rfl) rfl ?_
  refine WL.nil ?_
  refine At.then ?_
  refine WC.seq ?_
  refine WC.seq ?_
  refine WC.region ?_
  refine WL.y (Y.move rfl) rfl ?_
  obtain ⟨r11, hp12, h⟩ := bnd h
  refine WL.call (vals := [vu a1]) kok15 rfl rfl (c_ref05_Odd hp12) ?_
  rintro vr15 wd14 ⟨rfl, hm13⟩
  obtain ⟨O16, hold17, hnew18, hst19⟩ := adoptE (Lg.O0 (fun _ => False)) (fun k => 1) hm13
  refine WL.nil ?_
  refine At.then ?_
  rcases cnd h with ⟨hc20, h⟩ | ⟨hc20, h⟩
  · refine WC.condT' rfl hc20 ?_
    refine WC.seq ?_
    refine WC.region ?_
    refine WL.y (Y.assign (v := vu 9221120237041090561) rfl) rfl ?_
    refine WL.nil ?_
    refine At.then ?_
    refine WC.ret ?_
    refine At.thenR ?_
    obtain rfl := some1 h
    have hs21 : Stp [] (Lg.O0 (fun _ => False)) w O16 wd14 := (Stp.up hst19 rfl)
    exact At.res (.inl rfl) rfl (.tmp rfl .nil) ⟨rfl, (Stp.ext hs21 rfl rfl)⟩
  · refine WC.condF' rfl hc20 ?_
    refine WC.skip ?_
    refine At.then ?_
    refine WC.seq ?_
    refine WC.region ?_
    refine WL.y (Y.move rfl) rfl ?_
    refine WL.y (Y.move rfl) rfl ?_
    obtain ⟨r22, hp23, h⟩ := bnd h
    refine WL.call (vals := [vu a1]) kok22 rfl rfl (c_ref05_Minus hp23) ?_
    rintro vr26 wd25 ⟨rfl, hm24⟩
    obtain ⟨O27, hold28, hnew29, hst30⟩ := adoptE O16 (fun k => 1) hm24
    obtain ⟨r31, hp32, h⟩ := bnd h
    refine WL.call (vals := [vu a0, vu r22]) kok9 rfl rfl (c_ref05_Add hp32) ?_
    rintro vr35 wd34 ⟨rfl, hm33⟩
    obtain ⟨O36, hold37, hnew38, hst39⟩ := adoptE O27 (fun k => 1) hm33
    refine WL.y (Y.assign rfl) rfl ?_
    refine WL.nil ?_
    refine At.then ?_
    refine WC.ret ?_
    obtain rfl := some1 h
    have hs40 : Stp [] (Lg.O0 (fun _ => False)) w O36 wd34 := (Stp.trans (Stp.up hst19 rfl) (Stp.trans (Stp.up hst30 rfl) (Stp.up hst39 rfl)))
    exact At.res (.inl rfl) rfl (.tmp rfl .nil) ⟨rfl, (Stp.ext hs40 rfl rfl)⟩

theorem c_num_parts {r s : Nat} {w : World} (hr : r < 18446744073709551616) (hs0 : s < 18446744073709551616) : Rets Try.prog 29 [.complex .f64 r s] w (fun v w' => v = .tuple (List.toArray [vu (fCan r), vu (fCan s)]) ∧ Ext w w') := by
  refine Rets.enter Try.func29 rfl rfl ?_
  refine (show WC _ _ _ _ [(0, .complex .f64 r s)] _ from ?_)
  refine WC.seq (WC.region (WL.y (Y.assign (v := vu 0) rfl) rfl (WL.y (Y.assign (v := vu 0) rfl) rfl (WL.nil (At.then ?_)))))
  refine WC.seq (WC.region ?_)
  refine WL.y (Y.move rfl) rfl ?_
  refine WL.y (Y.creal rfl) rfl ?_
  refine WL.call (vals := [.float .f64 r]) kok24 rfl rfl (c_num_bits hr) ?_
  rintro vr1 wd1 ⟨rfl, hm1⟩
  obtain ⟨O1, hold1, hnew1, hst1⟩ := adoptE (Lg.O0 (fun _ => False)) (fun k => 1) hm1
  refine WL.y (Y.move rfl) rfl ?_
  refine WL.y (Y.cimag rfl) rfl ?_
  refine WL.call (vals := [.float .f64 s]) kok24 rfl rfl (c_num_bits hs0) ?_
  rintro vr2 wd2 ⟨rfl, hm2⟩
  obtain ⟨O2, hold2, hnew2, hst2⟩ := adoptE O1 (fun k => 1) hm2
  refine WL.y (Y.assign rfl) rfl (WL.y (Y.assign rfl) rfl (WL.nil (At.then (WC.ret ?_))))
  have hs : Stp [] (Lg.O0 (fun _ => False)) w O2 wd2 := (Stp.trans (Stp.up hst1 rfl) (Stp.up hst2 rfl))
  exact At.res (.inl rfl) rfl (.tmp rfl (.tmp rfl .nil)) ⟨rfl, Stp.ext hs rfl rfl⟩

theorem c_num_phasor {a0 a1 : UInt64} {w : World} : Rets Try.prog 30 [vu a0, vu a1] w (fun v w' => v = .complex .f64 a0.toNat a1.toNat ∧ Ext w w') := by
  refine Rets.enter Try.func30 rfl rfl ?_
  refine (show WC _ _ _ _ [(0, vu a0), (1, vu a1)] _ from ?_)
  refine WC.seq (WC.region (WL.y (Y.assign (v := .complex .f64 0 0) rfl) rfl (WL.nil (At.then ?_))))
  refine WC.seq (WC.region ?_)
  refine WL.y (Y.move rfl) rfl ?_
  refine WL.call (vals := [vu a0]) kok25 rfl rfl (c_num_of) ?_
  rintro vr1 wd1 ⟨rfl, hm1⟩
  obtain ⟨O1, hold1, hnew1, hst1⟩ := adoptE (Lg.O0 (fun _ => False)) (fun k => 1) hm1
  refine WL.y (Y.move rfl) rfl ?_
  refine WL.call (vals := [vu a1]) kok25 rfl rfl (c_num_of) ?_
  rintro vr2 wd2 ⟨rfl, hm2⟩
  obtain ⟨O2, hold2, hnew2, hst2⟩ := adoptE O1 (fun k => 1) hm2
  refine WL.y (Y.cplx rfl rfl) rfl ?_
  refine WL.y (Y.assign rfl) rfl (WL.nil (At.then (WC.ret ?_)))
  have hs : Stp [] (Lg.O0 (fun _ => False)) w O2 wd2 := (Stp.trans (Stp.up hst1 rfl) (Stp.up hst2 rfl))
  exact At.res (.inl rfl) rfl (.tmp rfl .nil) ⟨rfl, Stp.ext hs rfl rfl⟩

theorem c_num_AddPhasor {a0 : UInt64} {a1 : UInt64} {a2 : UInt64} {a3 : UInt64} {w : World} {r0 : UInt64} {r1 : UInt64} (h : num_AddPhasor a0 a1 a2 a3 = some (r0, r1)) : Rets Try.prog 20 [vu a0, vu a1, vu a2, vu a3] w (fun v w' => v = .tuple (List.toArray [vu r0, vu r1]) ∧ Ext w w') := by
  unfold num_AddPhasor at h
  obtain ⟨rfl, rfl⟩ := tup2 h
  refine Rets.enter Try.func20 rfl rfl ?_
  refine (show WC _ _ _ _ [(0, vu a0), (1, vu a1), (2, vu a2), (3, vu a3)] _ from ?_)
  refine WC.seq (WC.region (WL.y (Y.assign (v := vu 0) rfl) rfl (WL.y (Y.assign (v := vu 0) rfl) rfl (WL.nil (At.then ?_)))))
  refine WC.seq (WC.region ?_)
  refine WL.y (Y.move rfl) rfl ?_
  refine WL.y (Y.move rfl) rfl ?_
  refine WL.call (vals := [vu a0, vu a1]) kok30 rfl rfl (c_num_phasor) ?_
  rintro vr1 wd1 ⟨rfl, hm1⟩
  obtain ⟨O1, hold1, hnew1, hst1⟩ := adoptE (Lg.O0 (fun _ => False)) (fun k => 1) hm1
  refine WL.y (Y.move rfl) rfl ?_
  refine WL.y (Y.move rfl) rfl ?_
  refine WL.call (vals := [vu a2, vu a3]) kok30 rfl rfl (c_num_phasor) ?_
  rintro vr2 wd2 ⟨rfl, hm2⟩
  obtain ⟨O2, hold2, hnew2, hst2⟩ := adoptE O1 (fun k => 1) hm2
  refine WL.cadd (O := O2) rfl rfl rfl ?_
  intro r3 s3 wd3 hst3 hr3 hs3
  refine WL.call (vals := [.complex .f64 r3 s3]) kok29 rfl rfl (c_num_parts hr3.1 hs3.1) ?_
  rintro vr4 wd4 ⟨rfl, hm4⟩
  obtain ⟨O4, hold4, hnew4, hst4⟩ := adoptE O2 (fun k => 1) hm4
  refine WL.y (Y.extract rfl rfl) rfl (WL.y (Y.extract rfl rfl) rfl ?_)
  refine WL.y (Y.assign rfl) rfl (WL.y (Y.assign rfl) rfl (WL.nil (At.then (WC.ret ?_))))
  rw [fAdd_res hr3, fAdd_res hs3]
  have hs : Stp [] (Lg.O0 (fun _ => False)) w O4 wd4 := (Stp.trans (Stp.up hst1 rfl) (Stp.trans (Stp.up hst2 rfl) (Stp.trans (Stp.up hst3 rfl) (Stp.up hst4 rfl))))
  exact At.res (.inl rfl) rfl (.tmp rfl (.tmp rfl .nil)) ⟨rfl, Stp.ext hs rfl rfl⟩

theorem c_num_Turn {a0 : UInt64} {a1 : UInt64} {w : World} {r0 : UInt64} {r1 : UInt64} (h : num_Turn a0 a1 = some (r0, r1)) : Rets Try.prog 21 [vu a0, vu a1] w (fun v w' => v = .tuple (List.toArray [vu r0, vu r1]) ∧ Ext w w') := by
  unfold num_Turn at h
  obtain ⟨rfl, rfl⟩ := tup2 h
  refine Rets.enter Try.func21 rfl rfl ?_
  refine (show WC _ _ _ _ [(0, vu a0), (1, vu a1)] _ from ?_)
  refine WC.seq (WC.region (WL.y (Y.assign (v := vu 0) rfl) rfl (WL.y (Y.assign (v := vu 0) rfl) rfl (WL.nil (At.then ?_)))))
  refine WC.seq (WC.region ?_)
  refine WL.y (Y.move rfl) rfl ?_
  refine WL.y (Y.move rfl) rfl ?_
  refine WL.call (vals := [vu a0, vu a1]) kok30 rfl rfl (c_num_phasor) ?_
  rintro vr1 wd1 ⟨rfl, hm1⟩
  obtain ⟨O1, hold1, hnew1, hst1⟩ := adoptE (Lg.O0 (fun _ => False)) (fun k => 1) hm1
  refine WL.y (Y.assign rfl) rfl (WL.nil (At.then (WC.seq (WC.region ?_))))
  refine WL.y (Y.move rfl) rfl ?_
  refine WL.y (Y.cimag rfl) rfl ?_
  refine WL.y (Y.fneg rfl) rfl ?_
  refine WL.y (Y.move rfl) rfl ?_
  refine WL.y (Y.creal rfl) rfl ?_
  refine WL.y (Y.cplx rfl rfl) rfl ?_
  have hx : a1.toNat ^^^ 9223372036854775808 < 18446744073709551616 := Nat.xor_lt_two_pow (n := 64) (UInt64.toNat_lt a1) (by decide)
  refine WL.call (vals := [.complex .f64 (a1.toNat ^^^ 9223372036854775808) a0.toNat]) kok29 rfl rfl (c_num_parts hx (UInt64.toNat_lt a0)) ?_
  rintro vr2 wd2 ⟨rfl, hm2⟩
  obtain ⟨O2, hold2, hnew2, hst2⟩ := adoptE O1 (fun k => 1) hm2
  refine WL.y (Y.extract rfl rfl) rfl (WL.y (Y.extract rfl rfl) rfl ?_)
  refine WL.y (Y.assign rfl) rfl (WL.y (Y.assign rfl) rfl (WL.nil (At.then (WC.ret ?_))))
  have hs : Stp [] (Lg.O0 (fun _ => False)) w O2 wd2 := (Stp.trans (Stp.up hst1 rfl) (Stp.up hst2 rfl))
  exact At.res (.inl rfl) rfl (.tmp rfl (.tmp rfl .nil)) ⟨rfl, Stp.ext hs rfl rfl⟩

theorem c_num_SubPhasor {a0 : UInt64} {a1 : UInt64} {a2 : UInt64} {a3 : UInt64} {w : World} {r0 : UInt64} {r1 : UInt64} (h : num_SubPhasor a0 a1 a2 a3 = some (r0, r1)) : Rets Try.prog 23 [vu a0, vu a1, vu a2, vu a3] w (fun v w' => v = .tuple (List.toArray [vu r0, vu r1]) ∧ Ext w w') := by
  unfold num_SubPhasor at h
  obtain ⟨rfl, rfl⟩ := tup2 h
  refine Rets.enter Try.func23 rfl rfl ?_
  refine (show WC _ _ _ _ [(0, vu a0), (1, vu a1), (2, vu a2), (3, vu a3)] _ from ?_)
  refine WC.seq (WC.region (WL.y (Y.assign (v := vu 0) rfl) rfl (WL.y (Y.assign (v := vu 0) rfl) rfl (WL.nil (At.then ?_)))))
  refine WC.seq (WC.region ?_)
  refine WL.y (Y.move rfl) rfl ?_
  refine WL.y (Y.move rfl) rfl ?_
  refine WL.call (vals := [vu a0, vu a1]) kok30 rfl rfl (c_num_phasor) ?_
  rintro vr1 wd1 ⟨rfl, hm1⟩
  obtain ⟨O1, hold1, hnew1, hst1⟩ := adoptE (Lg.O0 (fun _ => False)) (fun k => 1) hm1
  refine WL.y (Y.move rfl) rfl ?_
  refine WL.y (Y.move rfl) rfl ?_
  refine WL.call (vals := [vu a2, vu a3]) kok30 rfl rfl (c_num_phasor) ?_
  rintro vr2 wd2 ⟨rfl, hm2⟩
  obtain ⟨O2, hold2, hnew2, hst2⟩ := adoptE O1 (fun k => 1) hm2
  refine WL.csub (O := O2) rfl rfl rfl ?_
  intro r3 s3 wd3 hst3 hr3 hs3
  refine WL.call (vals := [.complex .f64 r3 s3]) kok29 rfl rfl (c_num_parts hr3.1 hs3.1) ?_
  rintro vr4 wd4 ⟨rfl, hm4⟩
  obtain ⟨O4, hold4, hnew4, hst4⟩ := adoptE O2 (fun k => 1) hm4
  refine WL.y (Y.extract rfl rfl) rfl (WL.y (Y.extract rfl rfl) rfl ?_)
  refine WL.y (Y.assign rfl) rfl (WL.y (Y.assign rfl) rfl (WL.nil (At.then (WC.ret ?_))))
  rw [fSub_res hr3, fSub_res hs3]
  have hs : Stp [] (Lg.O0 (fun _ => False)) w O4 wd4 := (Stp.trans (Stp.up hst1 rfl) (Stp.trans (Stp.up hst2 rfl) (Stp.trans (Stp.up hst3 rfl) (Stp.up hst4 rfl))))
  exact At.res (.inl rfl) rfl (.tmp rfl (.tmp rfl .nil)) ⟨rfl, Stp.ext hs rfl rfl⟩

theorem c_law05_NumPhasors {a0 : UInt64} {a1 : UInt64} {a2 : UInt64} {a3 : UInt64} {w : World} {r0 : Bool} (h : law05_NumPhasors a0 a1 a2 a3 = some r0) : Rets Try.prog 6 [vu a0, vu a1, vu a2, vu a3] w (fun v w' => v = .bool r0 ∧ Ext w w') := by
  unfold law05_NumPhasors at h
  refine Rets.enter Try.func6 rfl rfl ?_
  refine (show WC _ _ _ _ [(0, vu a0), (1, vu a1), (2, vu a2), (3, vu a3)] _ from ?_)
  refine WC.seq ?_
  refine WC.region ?_
  refine WL.y (Y.assign rfl) rfl ?_
  refine WL.nil ?_
  refine At.then ?_
  refine WC.seq ?_
  refine WC.seq ?_
  refine WC.region ?_
  obtain ⟨r11, hp12, h⟩ := bnd h
  refine WL.call (vals := []) kok7 rfl rfl (c_law05_awake hp12) ?_
  rintro vr15 wd14 ⟨rfl, hm13⟩
  obtain ⟨O16, hold17, hnew18, hst19⟩ := adoptE (Lg.O0 (fun _ => False)) (fun k => 1) hm13
  refine WL.y (Y.not rfl) rfl ?_
  refine WL.nil ?_
  refine At.then ?_
  rcases cnd h with ⟨hc20, h⟩ | ⟨hc20, h⟩
  · refine WC.condT' rfl hc20 ?_
    refine WC.seq ?_
    refine WC.region ?_
    refine WL.y (Y.assign rfl) rfl ?_
    refine WL.nil ?_
    refine At.then ?_
    refine WC.ret ?_
    refine At.thenR ?_
    obtain rfl := some1 h
    have hs21 : Stp [] (Lg.O0 (fun _ => False)) w O16 wd14 := (Stp.up hst19 rfl)
    exact At.res (.inl rfl) rfl (.tmp rfl .nil) ⟨rfl, (Stp.ext hs21 rfl rfl)⟩
  · refine WC.condF' rfl hc20 ?_
    refine WC.skip ?_
    refine At.then ?_
    refine WC.seq ?_
    refine WC.region ?_
    refine WL.y (Y.move rfl) rfl ?_
    refine WL.y (Y.move rfl) rfl ?_
    refine WL.y (Y.move rfl) rfl ?_
    refine WL.y (Y.move rfl) rfl ?_
    obtain ⟨⟨r22, r23⟩, hp24, h⟩ := bnd h
    refine WL.call (vals := [vu a0, vu a1, vu a2, vu a3]) kok20 rfl rfl (c_num_AddPhasor hp24) ?_
    rintro vr27 wd26 ⟨rfl, hm25⟩
    obtain ⟨O28, hold29, hnew30, hst31⟩ := adoptE O16 (fun k => 1) hm25
    refine WL.y (Y.move rfl) rfl ?_
    refine WL.y (Y.extract rfl rfl) rfl ?_
    refine WL.y (Y.extract rfl rfl) rfl ?_
    refine WL.y (Y.assign rfl) rfl ?_
    refine WL.y (Y.assign rfl) rfl ?_
    refine WL.nil ?_
    refine At.then ?_
    refine WC.seq ?_
    refine WC.seq ?_
    refine WC.region ?_
    refine WL.y (Y.move rfl) rfl ?_
    refine WL.y (Y.move rfl) rfl ?_
    refine WL.y (Y.move rfl) rfl ?_
    obtain ⟨r32, hp33, h⟩ := bnd h
    refine WL.call (vals := [vu a0, vu a2]) kok9 rfl rfl (c_ref05_Add hp33) ?_
    rintro vr36 wd35 ⟨rfl, hm34⟩
    obtain ⟨O37, hold38, hnew39, hst40⟩ := adoptE O28 (fun k => 1) hm34
    refine WL.y (Y.neq_u rfl rfl) rfl ?_
    refine WL.y (Y.move rfl) rfl ?_
    obtain ⟨p45, h, hk46⟩ := bnd h
    refine WL.cut 6 (σ := (Bool × Own)) (fun x w' => x.1 = p45 ∧ Stp [] O37 wd35 x.2 w') (fun x => [(0, vu a0), (1, vu a1), (2, vu a2), (3, vu a3), (9, vu r22), (10, vu r23), (43, .bool x.1)]) ?_ ?_
    · rcases cnd h with ⟨hE47, h⟩ | ⟨hE47, h⟩
      · refine WL.ren 37 rfl (congrArg Value.bool hE47) ?_
        refine WL.gS rfl rfl rfl rfl ?_
        refine WL.gS rfl rfl rfl rfl ?_
        refine WL.gS rfl rfl rfl rfl ?_
        refine WL.gS rfl rfl rfl rfl ?_
        refine WL.gS rfl rfl rfl rfl ?_
        refine WL.y (Y.pick (b := true) rfl rfl) rfl ?_
        exact WL.nil (At.join (σ := (Bool × Own)) (true, O37) ⟨some1 h, (Stp.refl _ _ _)⟩ (.cons rfl (.cons rfl (.cons rfl (.cons rfl (.cons rfl (.cons rfl (.cons rfl .nil))))))))
      · refine WL.ren 37 rfl (congrArg Value.bool hE47) ?_
        refine WL.ung rfl rfl ?_
        refine WL.y (Y.move rfl) rfl ?_
        refine WL.ung rfl rfl ?_
        refine WL.y (Y.move rfl) rfl ?_
        refine WL.ung rfl rfl ?_
        refine WL.y (Y.move rfl) rfl ?_
        refine WL.ung rfl rfl ?_
        obtain ⟨r48, hp49, h⟩ := bnd h
        refine WL.call (vals := [vu a1, vu a3]) kok9 rfl rfl (c_ref05_Add hp49) ?_
        rintro vr52 wd51 ⟨rfl, hm50⟩
        obtain ⟨O53, hold54, hnew55, hst56⟩ := adoptE O37 (fun k => 1) hm50
        refine WL.ung rfl rfl ?_
        refine WL.y (Y.neq_u rfl rfl) rfl ?_
        refine WL.y (Y.pick (b := false) rfl rfl) rfl ?_
        exact WL.nil (At.join (σ := (Bool × Own)) ((!decide (r23 = r48)), O53) ⟨some1 h, (Stp.up hst56 rfl)⟩ (.cons rfl (.cons rfl (.cons rfl (.cons rfl (.cons rfl (.cons rfl (.cons rfl .nil))))))))
    · rintro ⟨x41, O42⟩ wd43 ⟨rfl, hst44⟩
      replace h := hk46
      try dsimp only at h hst44
      refine (show WL _ _ _ _ _ [(0, vu a0), (1, vu a1), (2, vu a2), (3, vu a3), (9, vu r22), (10, vu r23), (43, .bool x41)] _ from ?_)
      refine WL.nil ?_
      refine At.then ?_
      rcases cnd h with ⟨hc57, h⟩ | ⟨hc57, h⟩
      · refine WC.condT' rfl hc57 ?_
        refine WC.seq ?_
        refine WC.region ?_
        refine WL.y (Y.assign rfl) rfl ?_
        refine WL.nil ?_
        refine At.then ?_
        refine WC.ret ?_
        refine At.thenR ?_
        obtain rfl := some1 h
        have hs58 : Stp [] (Lg.O0 (fun _ => False)) w O42 wd43 := (Stp.trans (Stp.up hst19 rfl) (Stp.trans (Stp.up hst31 rfl) (Stp.trans (Stp.up hst40 rfl) (Stp.up hst44 rfl))))
        exact At.res (.inl rfl) rfl (.tmp rfl .nil) ⟨rfl, (Stp.ext hs58 rfl rfl)⟩
      · refine WC.condF' rfl hc57 ?_
        refine WC.skip ?_
        refine At.then ?_
        refine WC.seq ?_
        refine WC.region ?_
        refine WL.y (Y.move rfl) rfl ?_
        refine WL.y (Y.move rfl) rfl ?_
        obtain ⟨⟨r59, r60⟩, hp61, h⟩ := bnd h
        refine WL.call (vals := [vu r22, vu r23]) kok21 rfl rfl (c_num_Turn hp61) ?_
        rintro vr64 wd63 ⟨rfl, hm62⟩
        obtain ⟨O65, hold66, hnew67, hst68⟩ := adoptE O42 (fun k => 1) hm62
        refine WL.y (Y.move rfl) rfl ?_
        refine WL.y (Y.extract rfl rfl) rfl ?_
        refine WL.y (Y.extract rfl rfl) rfl ?_
        refine WL.y (Y.assign rfl) rfl ?_
        refine WL.y (Y.assign rfl) rfl ?_
        refine WL.nil ?_
        refine At.then ?_
        refine WC.seq ?_
        refine WC.region ?_
        refine WL.y (Y.move rfl) rfl ?_
        refine WL.y (Y.move rfl) rfl ?_
        obtain ⟨⟨r69, r70⟩, hp71, h⟩ := bnd h
        refine WL.call (vals := [vu a0, vu a1]) kok21 rfl rfl (c_num_Turn hp71) ?_
        rintro vr74 wd73 ⟨rfl, hm72⟩
        obtain ⟨O75, hold76, hnew77, hst78⟩ := adoptE O65 (fun k => 1) hm72
        refine WL.y (Y.move rfl) rfl ?_
        refine WL.y (Y.extract rfl rfl) rfl ?_
        refine WL.y (Y.extract rfl rfl) rfl ?_
        refine WL.y (Y.assign rfl) rfl ?_
        refine WL.y (Y.assign rfl) rfl ?_
        refine WL.nil ?_
        refine At.then ?_
        refine WC.seq ?_
        refine WC.region ?_
        refine WL.y (Y.move rfl) rfl ?_
        refine WL.y (Y.move rfl) rfl ?_
        obtain ⟨⟨r79, r80⟩, hp81, h⟩ := bnd h
        refine WL.call (vals := [vu a2, vu a3]) kok21 rfl rfl (c_num_Turn hp81) ?_
        rintro vr84 wd83 ⟨rfl, hm82⟩
        obtain ⟨O85, hold86, hnew87, hst88⟩ := adoptE O75 (fun k => 1) hm82
        refine WL.y (Y.move rfl) rfl ?_
        refine WL.y (Y.extract rfl rfl) rfl ?_
        refine WL.y (Y.extract rfl rfl) rfl ?_
        refine WL.y (Y.assign rfl) rfl ?_
        refine WL.y (Y.assign rfl) rfl ?_
        refine WL.nil ?_
        refine At.then ?_
        refine WC.seq ?_
        refine WC.region ?_
        refine WL.y (Y.move rfl) rfl ?_
        refine WL.y (Y.move rfl) rfl ?_
        refine WL.y (Y.move rfl) rfl ?_
        refine WL.y (Y.move rfl) rfl ?_
        obtain ⟨⟨r89, r90⟩, hp91, h⟩ := bnd h
        refine WL.call (vals := [vu r69, vu r70, vu r79, vu r80]) kok20 rfl rfl (c_num_AddPhasor hp91) ?_
        rintro vr94 wd93 ⟨rfl, hm92⟩
        obtain ⟨O95, hold96, hnew97, hst98⟩ := adoptE O85 (fun k => 1) hm92
        refine WL.y (Y.move rfl) rfl ?_
        refine WL.y (Y.extract rfl rfl) rfl ?_
        refine WL.y (Y.extract rfl rfl) rfl ?_
        refine WL.y (Y.assign rfl) rfl ?_
        refine WL.y (Y.assign rfl) rfl ?_
        refine WL.nil ?_
        refine At.then ?_
        refine WC.seq ?_
        refine WC.seq ?_
        refine WC.region ?_
        refine WL.y (Y.move rfl) rfl ?_
        obtain ⟨r99, hp100, h⟩ := bnd h
        refine WL.call (vals := [vu r23]) kok15 rfl rfl (c_ref05_Odd hp100) ?_
        rintro vr103 wd102 ⟨rfl, hm101⟩
        obtain ⟨O104, hold105, hnew106, hst107⟩ := adoptE O95 (fun k => 1) hm101
        refine WL.y (Y.move rfl) rfl ?_
        refine WL.cut 3 (σ := Unit) (fun _ w' => wd102 = w') (fun _ => [(0, vu a0), (1, vu a1), (2, vu a2), (3, vu a3), (9, vu r22), (10, vu r23), (11, vu r59), (12, vu r60), (13, vu r69), (14, vu r70), (17, vu r89), (18, vu r90), (75, .bool (r99 && (!decide (r59 = 9221120237041090561))))]) ?_ ?_
        · refine WL.part 72 rfl (fun hE108 => ?_) (fun hE108 => ?_)
          · refine WL.ung rfl rfl ?_
            refine WL.y (Y.move rfl) rfl ?_
            refine WL.ung rfl rfl ?_
            refine WL.y (Y.neq_u (b := 9221120237041090561) rfl rfl) rfl ?_
            refine WL.y (Y.pick (b := true) rfl rfl) rfl ?_
            refine WL.ren (v' := .bool (r99 && (!decide (r59 = 9221120237041090561)))) 75 rfl (congrArg Value.bool (andT hE108)) ?_
            exact WL.nil (At.join () rfl (.cons rfl (.cons rfl (.cons rfl (.cons rfl (.cons rfl (.cons rfl (.cons rfl (.cons rfl (.cons rfl (.cons rfl (.cons rfl (.cons rfl (.cons rfl .nil))))))))))))))
          · refine WL.gS rfl rfl rfl rfl ?_
            refine WL.gS rfl rfl rfl rfl ?_
            refine WL.y (Y.pick (b := false) rfl rfl) rfl ?_
            refine WL.ren (v' := .bool (r99 && (!decide (r59 = 9221120237041090561)))) 75 rfl (congrArg Value.bool (andF hE108)) ?_
            exact WL.nil (At.join () rfl (.cons rfl (.cons rfl (.cons rfl (.cons rfl (.cons rfl (.cons rfl (.cons rfl (.cons rfl (.cons rfl (.cons rfl (.cons rfl (.cons rfl (.cons rfl .nil))))))))))))))
        · rintro _ _ rfl
          refine (show WL _ _ _ _ _ [(0, vu a0), (1, vu a1), (2, vu a2), (3, vu a3), (9, vu r22), (10, vu r23), (11, vu r59), (12, vu r60), (13, vu r69), (14, vu r70), (17, vu r89), (18, vu r90), (75, .bool (r99 && (!decide (r59 = 9221120237041090561))))] _ from ?_)
          refine WL.y (Y.move rfl) rfl ?_
          obtain ⟨p113, h, hk114⟩ := bnd h
          refine WL.cut 10 (σ := (Bool × Own)) (fun x w' => x.1 = p113 ∧ Stp [] O104 wd102 x.2 w') (fun x => [(0, vu a0), (1, vu a1), (2, vu a2), (3, vu a3), (9, vu r22), (10, vu r23), (11, vu r59), (12, vu r60), (13, vu r69), (14, vu r70), (17, vu r89), (18, vu r90), (86, .bool x.1)]) ?_ ?_
          · rcases cnd h with ⟨hE115, h⟩ | ⟨hE115, h⟩
            · refine WL.ren 76 rfl (congrArg Value.bool hE115) ?_
              refine WL.gS rfl rfl rfl rfl ?_
              refine WL.gS rfl rfl rfl rfl ?_
              refine WL.gS rfl rfl rfl rfl ?_
              refine WL.gS rfl rfl rfl rfl ?_
              refine WL.gS rfl rfl rfl rfl ?_
              refine WL.gS rfl rfl rfl rfl ?_
              refine WL.gS rfl rfl rfl rfl ?_
              refine WL.gS rfl rfl rfl rfl ?_
              refine WL.gS rfl rfl rfl rfl ?_
              refine WL.y (Y.pick (b := true) rfl rfl) rfl ?_
              exact WL.nil (At.join (σ := (Bool × Own)) (true, O104) ⟨some1 h, (Stp.refl _ _ _)⟩ (.cons rfl (.cons rfl (.cons rfl (.cons rfl (.cons rfl (.cons rfl (.cons rfl (.cons rfl (.cons rfl (.cons rfl (.cons rfl (.cons rfl (.cons rfl .nil))))))))))))))
            · refine WL.ren 76 rfl (congrArg Value.bool hE115) ?_
              refine WL.ung rfl rfl ?_
              refine WL.y (Y.move rfl) rfl ?_
              refine WL.ung rfl rfl ?_
              obtain ⟨r116, hp117, h⟩ := bnd h
              refine WL.call (vals := [vu r23]) kok15 rfl rfl (c_ref05_Odd hp117) ?_
              rintro vr120 wd119 ⟨rfl, hm118⟩
              obtain ⟨O121, hold122, hnew123, hst124⟩ := adoptE O104 (fun k => 1) hm118
              refine WL.ung rfl rfl ?_
              refine WL.y (Y.not rfl) rfl ?_
              refine WL.ung rfl rfl ?_
              refine WL.y (Y.move rfl) rfl ?_
              obtain ⟨p129, h, hk130⟩ := bnd h
              refine WL.cut 5 (σ := (Bool × Own)) (fun x w' => x.1 = p129 ∧ Stp [] O121 wd119 x.2 w') (fun x => [(0, vu a0), (1, vu a1), (2, vu a2), (3, vu a3), (9, vu r22), (10, vu r23), (11, vu r59), (12, vu r60), (13, vu r69), (14, vu r70), (17, vu r89), (18, vu r90), (76, .bool false), (85, .bool x.1)]) ?_ ?_
              · rcases cnd h with ⟨hE131, h⟩ | ⟨hE131, h⟩
                · refine WL.ren 80 rfl (congrArg Value.bool hE131) ?_
                  refine WL.ung rfl rfl ?_
                  refine WL.y (Y.move rfl) rfl ?_
                  refine WL.ung rfl rfl ?_
                  refine WL.y (Y.move rfl) rfl ?_
                  refine WL.ung rfl rfl ?_
                  obtain ⟨r132, hp133, h⟩ := bnd h
                  refine WL.call (vals := [vu r23]) kok22 rfl rfl (c_ref05_Minus hp133) ?_
                  rintro vr136 wd135 ⟨rfl, hm134⟩
                  obtain ⟨O137, hold138, hnew139, hst140⟩ := adoptE O121 (fun k => 1) hm134
                  refine WL.ung rfl rfl ?_
                  refine WL.y (Y.neq_u rfl rfl) rfl ?_
                  refine WL.ung rfl rfl ?_
                  refine WL.y (Y.pick (b := true) rfl rfl) rfl ?_
                  exact WL.nil (At.join (σ := (Bool × Own)) ((!decide (r59 = r132)), O137) ⟨some1 h, (Stp.up hst140 rfl)⟩ (.cons rfl (.cons rfl (.cons rfl (.cons rfl (.cons rfl (.cons rfl (.cons rfl (.cons rfl (.cons rfl (.cons rfl (.cons rfl (.cons rfl (.cons rfl (.cons rfl .nil)))))))))))))))
                · refine WL.ren 80 rfl (congrArg Value.bool hE131) ?_
                  refine WL.gS rfl rfl rfl rfl ?_
                  refine WL.gS rfl rfl rfl rfl ?_
                  refine WL.gS rfl rfl rfl rfl ?_
                  refine WL.gS rfl rfl rfl rfl ?_
                  refine WL.ung rfl rfl ?_
                  refine WL.y (Y.pick (b := false) rfl rfl) rfl ?_
                  exact WL.nil (At.join (σ := (Bool × Own)) (false, O121) ⟨some1 h, (Stp.refl _ _ _)⟩ (.cons rfl (.cons rfl (.cons rfl (.cons rfl (.cons rfl (.cons rfl (.cons rfl (.cons rfl (.cons rfl (.cons rfl (.cons rfl (.cons rfl (.cons rfl (.cons rfl .nil)))))))))))))))
              · rintro ⟨x125, O126⟩ wd127 ⟨rfl, hst128⟩
                replace h := hk130
                try dsimp only at h hst128
                refine (show WL _ _ _ _ _ [(0, vu a0), (1, vu a1), (2, vu a2), (3, vu a3), (9, vu r22), (10, vu r23), (11, vu r59), (12, vu r60), (13, vu r69), (14, vu r70), (17, vu r89), (18, vu r90), (76, .bool false), (85, .bool x125)] _ from ?_)
                refine WL.y (Y.pick (b := false) rfl rfl) rfl ?_
                exact WL.nil (At.join (σ := (Bool × Own)) (x125, O126) ⟨some1 h, (Stp.trans (Stp.up hst124 rfl) (Stp.up hst128 rfl))⟩ (.cons rfl (.cons rfl (.cons rfl (.cons rfl (.cons rfl (.cons rfl (.cons rfl (.cons rfl (.cons rfl (.cons rfl (.cons rfl (.cons rfl (.cons rfl .nil))))))))))))))
          · rintro ⟨x109, O110⟩ wd111 ⟨rfl, hst112⟩
            replace h := hk114
            try dsimp only at h hst112
            refine (show WL _ _ _ _ _ [(0, vu a0), (1, vu a1), (2, vu a2), (3, vu a3), (9, vu r22), (10, vu r23), (11, vu r59), (12, vu r60), (13, vu r69), (14, vu r70), (17, vu r89), (18, vu r90), (86, .bool x109)] _ from ?_)
            refine WL.y (Y.move rfl) rfl ?_
            refine WL.cut 4 (σ := Unit) (fun _ w' => wd111 = w') (fun _ => [(0, vu a0), (1, vu a1), (2, vu a2), (3, vu a3), (10, vu r23), (11, vu r59), (12, vu r60), (13, vu r69), (14, vu r70), (17, vu r89), (18, vu r90), (91, .bool (x109 || (!decide (r60 = r22))))]) ?_ ?_
            · refine WL.part 87 rfl (fun hE141 => ?_) (fun hE141 => ?_)
              · refine WL.gS rfl rfl rfl rfl ?_
                refine WL.gS rfl rfl rfl rfl ?_
                refine WL.gS rfl rfl rfl rfl ?_
                refine WL.y (Y.pick (b := true) rfl rfl) rfl ?_
                refine WL.ren (v' := .bool (x109 || (!decide (r60 = r22)))) 91 rfl (congrArg Value.bool (orT hE141)) ?_
                exact WL.nil (At.join () rfl (.cons rfl (.cons rfl (.cons rfl (.cons rfl (.cons rfl (.cons rfl (.cons rfl (.cons rfl (.cons rfl (.cons rfl (.cons rfl (.cons rfl .nil)))))))))))))
              · refine WL.ung rfl rfl ?_
                refine WL.y (Y.move rfl) rfl ?_
                refine WL.ung rfl rfl ?_
                refine WL.y (Y.move rfl) rfl ?_
                refine WL.ung rfl rfl ?_
                refine WL.y (Y.neq_u rfl rfl) rfl ?_
                refine WL.y (Y.pick (b := false) rfl rfl) rfl ?_
                refine WL.ren (v' := .bool (x109 || (!decide (r60 = r22)))) 91 rfl (congrArg Value.bool (orF hE141)) ?_
                exact WL.nil (At.join () rfl (.cons rfl (.cons rfl (.cons rfl (.cons rfl (.cons rfl (.cons rfl (.cons rfl (.cons rfl (.cons rfl (.cons rfl (.cons rfl (.cons rfl .nil)))))))))))))
            · rintro _ _ rfl
              refine (show WL _ _ _ _ _ [(0, vu a0), (1, vu a1), (2, vu a2), (3, vu a3), (10, vu r23), (11, vu r59), (12, vu r60), (13, vu r69), (14, vu r70), (17, vu r89), (18, vu r90), (91, .bool (x109 || (!decide (r60 = r22))))] _ from ?_)
              refine WL.nil ?_
              refine At.then ?_
              rcases cnd h with ⟨hc142, h⟩ | ⟨hc142, h⟩
              · refine WC.condT' rfl hc142 ?_
                refine WC.seq ?_
                refine WC.region ?_
                refine WL.y (Y.assign rfl) rfl ?_
                refine WL.nil ?_
                refine At.then ?_
                refine WC.ret ?_
                refine At.thenR ?_
                obtain rfl := some1 h
                have hs143 : Stp [] (Lg.O0 (fun _ => False)) w O110 wd111 := (Stp.trans (Stp.up hst19 rfl) (Stp.trans (Stp.up hst31 rfl) (Stp.trans (Stp.up hst40 rfl) (Stp.trans (Stp.up hst44 rfl) (Stp.trans (Stp.up hst68 rfl) (Stp.trans (Stp.up hst78 rfl) (Stp.trans (Stp.up hst88 rfl) (Stp.trans (Stp.up hst98 rfl) (Stp.trans (Stp.up hst107 rfl) (Stp.up hst112 rfl))))))))))
                exact At.res (.inl rfl) rfl (.tmp rfl .nil) ⟨rfl, (Stp.ext hs143 rfl rfl)⟩
              · refine WC.condF' rfl hc142 ?_
                refine WC.skip ?_
                refine At.then ?_
                refine WC.seq ?_
                refine WC.seq ?_
                refine WC.region ?_
                refine WL.y (Y.move rfl) rfl ?_
                refine WL.y (Y.rem_u (b := 9223372036854775808) (by decide) rfl rfl) rfl ?_
                refine WL.y (Y.neq_u (b := 0) rfl rfl) rfl ?_
                refine WL.y (Y.move rfl) rfl ?_
                refine WL.cut 9 (σ := Unit) (fun _ w' => wd111 = w') (fun _ => [(0, vu a0), (1, vu a1), (2, vu a2), (3, vu a3), (12, vu r60), (13, vu r69), (14, vu r70), (18, vu r90), (104, .bool ((!decide ((r23 % 9223372036854775808) = 0)) && ((!decide (r89 = r59)) || (!decide (r90 = r60)))))]) ?_ ?_
                · refine WL.part 95 rfl (fun hE144 => ?_) (fun hE144 => ?_)
                  · refine WL.ung rfl rfl ?_
                    refine WL.y (Y.move rfl) rfl ?_
                    refine WL.ung rfl rfl ?_
                    refine WL.y (Y.move rfl) rfl ?_
                    refine WL.ung rfl rfl ?_
                    refine WL.y (Y.neq_u rfl rfl) rfl ?_
                    refine WL.ung rfl rfl ?_
                    refine WL.y (Y.move rfl) rfl ?_
                    refine WL.cut 4 (σ := Unit) (fun _ w' => wd111 = w') (fun _ => [(0, vu a0), (1, vu a1), (2, vu a2), (3, vu a3), (12, vu r60), (13, vu r69), (14, vu r70), (18, vu r90), (95, .bool true), (103, .bool ((!decide (r89 = r59)) || (!decide (r90 = r60))))]) ?_ ?_
                    · refine WL.part 99 rfl (fun hE145 => ?_) (fun hE145 => ?_)
                      · refine WL.gS rfl rfl rfl rfl ?_
                        refine WL.gS rfl rfl rfl rfl ?_
                        refine WL.gS rfl rfl rfl rfl ?_
                        refine WL.ung rfl rfl ?_
                        refine WL.y (Y.pick (b := true) rfl rfl) rfl ?_
                        refine WL.ren (v' := .bool ((!decide (r89 = r59)) || (!decide (r90 = r60)))) 103 rfl (congrArg Value.bool (orT hE145)) ?_
                        exact WL.nil (At.join () rfl (.cons rfl (.cons rfl (.cons rfl (.cons rfl (.cons rfl (.cons rfl (.cons rfl (.cons rfl (.cons rfl (.cons rfl .nil)))))))))))
                      · refine WL.ung rfl rfl ?_
                        refine WL.y (Y.move rfl) rfl ?_
                        refine WL.ung rfl rfl ?_
                        refine WL.y (Y.move rfl) rfl ?_
                        refine WL.ung rfl rfl ?_
                        refine WL.y (Y.neq_u rfl rfl) rfl ?_
                        refine WL.ung rfl rfl ?_
                        refine WL.y (Y.pick (b := false) rfl rfl) rfl ?_
                        refine WL.ren (v' := .bool ((!decide (r89 = r59)) || (!decide (r90 = r60)))) 103 rfl (congrArg Value.bool (orF hE145)) ?_
                        exact WL.nil (At.join () rfl (.cons rfl (.cons rfl (.cons rfl (.cons rfl (.cons rfl (.cons rfl (.cons rfl (.cons rfl (.cons rfl (.cons rfl .nil)))))))))))
                    · rintro _ _ rfl
                      refine (show WL _ _ _ _ _ [(0, vu a0), (1, vu a1), (2, vu a2), (3, vu a3), (12, vu r60), (13, vu r69), (14, vu r70), (18, vu r90), (95, .bool true), (103, .bool ((!decide (r89 = r59)) || (!decide (r90 = r60))))] _ from ?_)
                      refine WL.y (Y.pick (b := true) rfl rfl) rfl ?_
                      refine WL.ren (v' := .bool ((!decide ((r23 % 9223372036854775808) = 0)) && ((!decide (r89 = r59)) || (!decide (r90 = r60))))) 104 rfl (congrArg Value.bool (andT hE144)) ?_
                      exact WL.nil (At.join () rfl (.cons rfl (.cons rfl (.cons rfl (.cons rfl (.cons rfl (.cons rfl (.cons rfl (.cons rfl (.cons rfl .nil))))))))))
                  · refine WL.gS rfl rfl rfl rfl ?_
                    refine WL.gS rfl rfl rfl rfl ?_
                    refine WL.gS rfl rfl rfl rfl ?_
                    refine WL.gS rfl rfl rfl rfl ?_
                    refine WL.gS rfl rfl rfl rfl ?_
                    refine WL.gS rfl rfl rfl rfl ?_
                    refine WL.gS rfl rfl rfl rfl ?_
                    refine WL.gS rfl rfl rfl rfl ?_
                    refine WL.y (Y.pick (b := false) rfl rfl) rfl ?_
                    refine WL.ren (v' := .bool ((!decide ((r23 % 9223372036854775808) = 0)) && ((!decide (r89 = r59)) || (!decide (r90 = r60))))) 104 rfl (congrArg Value.bool (andF hE144)) ?_
                    exact WL.nil (At.join () rfl (.cons rfl (.cons rfl (.cons rfl (.cons rfl (.cons rfl (.cons rfl (.cons rfl (.cons rfl (.cons rfl .nil))))))))))
                · rintro _ _ rfl
                  refine (show WL _ _ _ _ _ [(0, vu a0), (1, vu a1), (2, vu a2), (3, vu a3), (12, vu r60), (13, vu r69), (14, vu r70), (18, vu r90), (104, .bool ((!decide ((r23 % 9223372036854775808) = 0)) && ((!decide (r89 = r59)) || (!decide (r90 = r60)))))] _ from ?_)
                  refine WL.y (Y.move rfl) rfl ?_
                  refine WL.cut 4 (σ := Unit) (fun _ w' => wd111 = w') (fun _ => [(0, vu a0), (1, vu a1), (2, vu a2), (3, vu a3), (13, vu r69), (14, vu r70), (109, .bool (((!decide ((r23 % 9223372036854775808) = 0)) && ((!decide (r89 = r59)) || (!decide (r90 = r60)))) || (!decide (r90 = r60))))]) ?_ ?_
                  · refine WL.part 105 rfl (fun hE146 => ?_) (fun hE146 => ?_)
                    · refine WL.gS rfl rfl rfl rfl ?_
                      refine WL.gS rfl rfl rfl rfl ?_
                      refine WL.gS rfl rfl rfl rfl ?_
                      refine WL.y (Y.pick (b := true) rfl rfl) rfl ?_
                      refine WL.ren (v' := .bool (((!decide ((r23 % 9223372036854775808) = 0)) && ((!decide (r89 = r59)) || (!decide (r90 = r60)))) || (!decide (r90 = r60)))) 109 rfl (congrArg Value.bool (orT hE146)) ?_
                      exact WL.nil (At.join () rfl (.cons rfl (.cons rfl (.cons rfl (.cons rfl (.cons rfl (.cons rfl (.cons rfl .nil))))))))
                    · refine WL.ung rfl rfl ?_
                      refine WL.y (Y.move rfl) rfl ?_
                      refine WL.ung rfl rfl ?_
                      refine WL.y (Y.move rfl) rfl ?_
                      refine WL.ung rfl rfl ?_
                      refine WL.y (Y.neq_u rfl rfl) rfl ?_
                      refine WL.y (Y.pick (b := false) rfl rfl) rfl ?_
                      refine WL.ren (v' := .bool (((!decide ((r23 % 9223372036854775808) = 0)) && ((!decide (r89 = r59)) || (!decide (r90 = r60)))) || (!decide (r90 = r60)))) 109 rfl (congrArg Value.bool (orF hE146)) ?_
                      exact WL.nil (At.join () rfl (.cons rfl (.cons rfl (.cons rfl (.cons rfl (.cons rfl (.cons rfl (.cons rfl .nil))))))))
                  · rintro _ _ rfl
                    refine (show WL _ _ _ _ _ [(0, vu a0), (1, vu a1), (2, vu a2), (3, vu a3), (13, vu r69), (14, vu r70), (109, .bool (((!decide ((r23 % 9223372036854775808) = 0)) && ((!decide (r89 = r59)) || (!decide (r90 = r60)))) || (!decide (r90 = r60))))] _ from ?_)
                    refine WL.nil ?_
                    refine At.then ?_
                    rcases cnd h with ⟨hc147, h⟩ | ⟨hc147, h⟩
                    · refine WC.condT' rfl hc147 ?_
                      refine WC.seq ?_
                      refine WC.region ?_
                      refine WL.y (Y.assign rfl) rfl ?_
                      refine WL.nil ?_
                      refine At.then ?_
                      refine WC.ret ?_
                      refine At.thenR ?_
                      obtain rfl := some1 h
                      have hs148 : Stp [] (Lg.O0 (fun _ => False)) w O110 wd111 := (Stp.trans (Stp.up hst19 rfl) (Stp.trans (Stp.up hst31 rfl) (Stp.trans (Stp.up hst40 rfl) (Stp.trans (Stp.up hst44 rfl) (Stp.trans (Stp.up hst68 rfl) (Stp.trans (Stp.up hst78 rfl) (Stp.trans (Stp.up hst88 rfl) (Stp.trans (Stp.up hst98 rfl) (Stp.trans (Stp.up hst107 rfl) (Stp.up hst112 rfl))))))))))
                      exact At.res (.inl rfl) rfl (.tmp rfl .nil) ⟨rfl, (Stp.ext hs148 rfl rfl)⟩
                    · refine WC.condF' rfl hc147 ?_
                      refine WC.skip ?_
                      refine At.then ?_
                      refine WC.seq ?_
                      refine WC.seq ?_
                      refine WC.region ?_
                      refine WL.y (Y.assign rfl) rfl ?_
                      refine WL.nil ?_
                      refine At.then ?_
                      obtain ⟨p154, h, hk155⟩ := bnd h
                      refine WC.join (σ := (UInt64 × UInt64 × Own)) (fun x w' => (x.1, x.2.1) = p154 ∧ Stp [] O110 wd111 x.2.2 w') (fun x => [(0, vu a0), (1, vu a1), (2, vu a2), (3, vu a3), (13, vu x.1), (14, vu x.2.1)]) ?_ ?_
                      · refine WC.block ?_
                        obtain ⟨p167, h, hk169⟩ := flow1 h
                        obtain ⟨k168, h⟩ := loop_some h
                        refine WC.joinB 0 (σ := (UInt64 × UInt64 × Own)) (fun x w' => p167 = .go (x.1, x.2.1) ∧ Stp [] O110 wd111 x.2.2 w') (fun x => [(0, vu a0), (1, vu a1), (2, vu a2), (3, vu a3), (13, vu x.1), (14, vu x.2.1)]) ?_ ?_
                        · refine WC.loop (σ := (UInt64 × UInt64 × Int × Own)) (fun x k w' => loopN k (law05_NumPhasors_lp1) (x.1, x.2.1, x.2.2.1) = some p167 ∧ Stp [] O110 wd111 x.2.2.2 w') (fun x => [(0, vu a0), (1, vu a1), (2, vu a2), (3, vu a3), (13, vu x.1), (14, vu x.2.1), (19, vi x.2.2.1)]) (r69, r70, 0, O110) k168 (.cons rfl (.cons rfl (.cons rfl (.cons rfl (.cons rfl (.cons rfl (.cons rfl .nil))))))) ⟨h, (Stp.refl _ _ _)⟩ ?_
                          rintro ⟨e156, f157, i158, O159⟩ k168 wd160 ⟨h, hst161⟩
                          obtain ⟨j170, q171, rfl, h, hn172⟩ := rnd1 h
                          unfold law05_NumPhasors_lp1 at h
                          try dsimp only at h hst161
                          refine (show WC _ _ _ _ [(0, vu a0), (1, vu a1), (2, vu a2), (3, vu a3), (13, vu e156), (14, vu f157), (19, vi i158)] _ from ?_)
                          refine WC.seq ?_
                          refine WC.seq ?_
                          refine WC.region ?_
                          refine WL.y (Y.move rfl) rfl ?_
                          refine WL.y (Y.lss_i rfl rfl) rfl ?_
                          refine WL.nil ?_
                          refine At.then ?_
                          rcases cnd h with ⟨hc173, h⟩ | ⟨hc173, h⟩
                          · refine WC.condT' rfl hc173 ?_
                            refine WC.skip ?_
                            refine At.then ?_
                            refine WC.seq ?_
                            refine WC.block ?_
                            refine WC.region ?_
                            refine WL.y (Y.move rfl) rfl ?_
                            refine WL.y (Y.move rfl) rfl ?_
                            obtain ⟨⟨r174, r175⟩, hp176, h⟩ := bnd h
                            refine WL.call (vals := [vu e156, vu f157]) kok21 rfl rfl (c_num_Turn hp176) ?_
                            rintro vr179 wd178 ⟨rfl, hm177⟩
                            obtain ⟨O180, hold181, hnew182, hst183⟩ := adoptE O159 (fun k => 1) hm177
                            refine WL.y (Y.move rfl) rfl ?_
                            refine WL.y (Y.extract rfl rfl) rfl ?_
                            refine WL.y (Y.extract rfl rfl) rfl ?_
                            refine WL.y (Y.assign rfl) rfl ?_
                            refine WL.y (Y.assign rfl) rfl ?_
                            refine WL.nil ?_
                            refine At.inBlock ?_
                            refine At.then ?_
                            refine WC.region ?_
                            refine WL.y (Y.move rfl) rfl ?_
                            refine WL.y (Y.add_i rfl rfl) rfl ?_
                            obtain ⟨i184, hi184, h⟩ := lt1 h
                            refine WL.yE (Y.assign rfl) (congrArg vi hi184.symm) rfl ?_
                            refine WL.nil ?_
                            exact At.round (r174, r175, i184, O180) j170 (Nat.lt_succ_self _) ⟨next1 h hn172, (Stp.trans (Stp.up hst161 rfl) (Stp.up hst183 rfl))⟩ (.cons rfl (.cons rfl (.cons rfl (.cons rfl (.cons rfl (.cons rfl (.cons rfl .nil)))))))
                          · refine WC.condF' rfl hc173 ?_
                            refine WC.exit ?_
                            refine At.thenX ?_
                            refine At.loopX ?_
                            exact At.hitB (σ := (UInt64 × UInt64 × Own)) (e156, f157, O159) ⟨brk1 h hn172, (Stp.up hst161 rfl)⟩ (.cons rfl (.cons rfl (.cons rfl (.cons rfl (.cons rfl (.cons rfl .nil))))))
                        · rintro ⟨e162, f163, O164⟩ wd165 ⟨rfl, hst166⟩
                          replace h := flowK_go hk169
                          try dsimp only at h hst166
                          refine (show At _ _ _ [(0, vu a0), (1, vu a1), (2, vu a2), (3, vu a3), (13, vu e162), (14, vu f163)] _ from ?_)
                          refine At.inBlockHit ?_
                          exact At.join (σ := (UInt64 × UInt64 × Own)) (e162, f163, O164) ⟨some1 h, (Stp.up hst166 rfl)⟩ (.cons rfl (.cons rfl (.cons rfl (.cons rfl (.cons rfl (.cons rfl .nil))))))
                      · rintro ⟨e149, f150, O151⟩ wd152 ⟨rfl, hst153⟩
                        replace h := hk155
                        try dsimp only at h hst153
                        refine (show At _ _ _ [(0, vu a0), (1, vu a1), (2, vu a2), (3, vu a3), (13, vu e149), (14, vu f150)] _ from ?_)
                        refine At.then ?_
                        refine WC.seq ?_
                        refine WC.region ?_
                        refine WL.y (Y.move rfl) rfl ?_
                        refine WL.y (Y.move rfl) rfl ?_
                        obtain ⟨⟨r185, r186⟩, hp187, h⟩ := bnd h
                        refine WL.call (vals := [vu a0, vu a1]) kok21 rfl rfl (c_num_Turn hp187) ?_
                        rintro vr190 wd189 ⟨rfl, hm188⟩
                        obtain ⟨O191, hold192, hnew193, hst194⟩ := adoptE O151 (fun k => 1) hm188
                        refine WL.y (Y.move rfl) rfl ?_
                        refine WL.y (Y.extract rfl rfl) rfl ?_
                        refine WL.y (Y.extract rfl rfl) rfl ?_
                        refine WL.y (Y.assign rfl) rfl ?_
                        refine WL.y (Y.assign rfl) rfl ?_
                        refine WL.nil ?_
                        refine At.then ?_
                        refine WC.seq ?_
                        refine WC.region ?_
                        refine WL.y (Y.move rfl) rfl ?_
                        refine WL.y (Y.move rfl) rfl ?_
                        refine WL.y (Y.move rfl) rfl ?_
                        refine WL.y (Y.move rfl) rfl ?_
                        obtain ⟨⟨r195, r196⟩, hp197, h⟩ := bnd h
                        refine WL.call (vals := [vu a0, vu a1, vu a2, vu a3]) kok23 rfl rfl (c_num_SubPhasor hp197) ?_
                        rintro vr200 wd199 ⟨rfl, hm198⟩
                        obtain ⟨O201, hold202, hnew203, hst204⟩ := adoptE O191 (fun k => 1) hm198
                        refine WL.y (Y.move rfl) rfl ?_
                        refine WL.y (Y.extract rfl rfl) rfl ?_
                        refine WL.y (Y.extract rfl rfl) rfl ?_
                        refine WL.y (Y.assign rfl) rfl ?_
                        refine WL.y (Y.assign rfl) rfl ?_
                        refine WL.nil ?_
                        refine At.then ?_
                        refine WC.seq ?_
                        refine WC.region ?_
                        refine WL.y (Y.move rfl) rfl ?_
                        refine WL.y (Y.move rfl) rfl ?_
                        refine WL.y (Y.eql_u rfl rfl) rfl ?_
                        refine WL.y (Y.move rfl) rfl ?_
                        refine WL.cut 4 (σ := Unit) (fun _ w' => wd199 = w') (fun _ => [(0, vu a0), (1, vu a1), (2, vu a2), (3, vu a3), (9, vu r195), (10, vu r196), (141, .bool ((decide (e149 = r185)) && (decide (f150 = r186))))]) ?_ ?_
                        · refine WL.part 137 rfl (fun hE205 => ?_) (fun hE205 => ?_)
                          · refine WL.ung rfl rfl ?_
                            refine WL.y (Y.move rfl) rfl ?_
                            refine WL.ung rfl rfl ?_
                            refine WL.y (Y.move rfl) rfl ?_
                            refine WL.ung rfl rfl ?_
                            refine WL.y (Y.eql_u rfl rfl) rfl ?_
                            refine WL.y (Y.pick (b := true) rfl rfl) rfl ?_
                            refine WL.ren (v' := .bool ((decide (e149 = r185)) && (decide (f150 = r186)))) 141 rfl (congrArg Value.bool (andT hE205)) ?_
                            exact WL.nil (At.join () rfl (.cons rfl (.cons rfl (.cons rfl (.cons rfl (.cons rfl (.cons rfl (.cons rfl .nil))))))))
                          · refine WL.gS rfl rfl rfl rfl ?_
                            refine WL.gS rfl rfl rfl rfl ?_
                            refine WL.gS rfl rfl rfl rfl ?_
                            refine WL.y (Y.pick (b := false) rfl rfl) rfl ?_
                            refine WL.ren (v' := .bool ((decide (e149 = r185)) && (decide (f150 = r186)))) 141 rfl (congrArg Value.bool (andF hE205)) ?_
                            exact WL.nil (At.join () rfl (.cons rfl (.cons rfl (.cons rfl (.cons rfl (.cons rfl (.cons rfl (.cons rfl .nil))))))))
                        · rintro _ _ rfl
                          refine (show WL _ _ _ _ _ [(0, vu a0), (1, vu a1), (2, vu a2), (3, vu a3), (9, vu r195), (10, vu r196), (141, .bool ((decide (e149 = r185)) && (decide (f150 = r186))))] _ from ?_)
                          refine WL.y (Y.move rfl) rfl ?_
                          obtain ⟨p210, h, hk211⟩ := bnd h
                          refine WL.cut 6 (σ := (Bool × Own)) (fun x w' => x.1 = p210 ∧ Stp [] O201 wd199 x.2 w') (fun x => [(1, vu a1), (3, vu a3), (10, vu r196), (148, .bool x.1)]) ?_ ?_
                          · rcases cnd h with ⟨hE212, h⟩ | ⟨hE212, h⟩
                            · refine WL.ren 142 rfl (congrArg Value.bool hE212) ?_
                              refine WL.ung rfl rfl ?_
                              refine WL.y (Y.move rfl) rfl ?_
                              refine WL.ung rfl rfl ?_
                              refine WL.y (Y.move rfl) rfl ?_
                              refine WL.ung rfl rfl ?_
                              refine WL.y (Y.move rfl) rfl ?_
                              refine WL.ung rfl rfl ?_
                              obtain ⟨r213, hp214, h⟩ := bnd h
                              refine WL.call (vals := [vu a0, vu a2]) kok11 rfl rfl (c_ref05_Sub hp214) ?_
                              rintro vr217 wd216 ⟨rfl, hm215⟩
                              obtain ⟨O218, hold219, hnew220, hst221⟩ := adoptE O201 (fun k => 1) hm215
                              refine WL.ung rfl rfl ?_
                              refine WL.y (Y.eql_u rfl rfl) rfl ?_
                              refine WL.y (Y.pick (b := true) rfl rfl) rfl ?_
                              exact WL.nil (At.join (σ := (Bool × Own)) (decide (r195 = r213), O218) ⟨some1 h, (Stp.up hst221 rfl)⟩ (.cons rfl (.cons rfl (.cons rfl (.cons rfl .nil)))))
                            · refine WL.ren 142 rfl (congrArg Value.bool hE212) ?_
                              refine WL.gS rfl rfl rfl rfl ?_
                              refine WL.gS rfl rfl rfl rfl ?_
                              refine WL.gS rfl rfl rfl rfl ?_
                              refine WL.gS rfl rfl rfl rfl ?_
                              refine WL.gS rfl rfl rfl rfl ?_
                              refine WL.y (Y.pick (b := false) rfl rfl) rfl ?_
                              exact WL.nil (At.join (σ := (Bool × Own)) (false, O201) ⟨some1 h, (Stp.refl _ _ _)⟩ (.cons rfl (.cons rfl (.cons rfl (.cons rfl .nil)))))
                          · rintro ⟨x206, O207⟩ wd208 ⟨rfl, hst209⟩
                            replace h := hk211
                            try dsimp only at h hst209
                            refine (show WL _ _ _ _ _ [(1, vu a1), (3, vu a3), (10, vu r196), (148, .bool x206)] _ from ?_)
                            refine WL.y (Y.move rfl) rfl ?_
                            obtain ⟨p226, h, hk227⟩ := bnd h
                            refine WL.cut 6 (σ := (Bool × Own)) (fun x w' => x.1 = p226 ∧ Stp [] O207 wd208 x.2 w') (fun x => [(155, .bool x.1)]) ?_ ?_
                            · rcases cnd h with ⟨hE228, h⟩ | ⟨hE228, h⟩
                              · refine WL.ren 149 rfl (congrArg Value.bool hE228) ?_
                                refine WL.ung rfl rfl ?_
                                refine WL.y (Y.move rfl) rfl ?_
                                refine WL.ung rfl rfl ?_
                                refine WL.y (Y.move rfl) rfl ?_
                                refine WL.ung rfl rfl ?_
                                refine WL.y (Y.move rfl) rfl ?_
                                refine WL.ung rfl rfl ?_
                                obtain ⟨r229, hp230, h⟩ := bnd h
                                refine WL.call (vals := [vu a1, vu a3]) kok11 rfl rfl (c_ref05_Sub hp230) ?_
                                rintro vr233 wd232 ⟨rfl, hm231⟩
                                obtain ⟨O234, hold235, hnew236, hst237⟩ := adoptE O207 (fun k => 1) hm231
                                refine WL.ung rfl rfl ?_
                                refine WL.y (Y.eql_u rfl rfl) rfl ?_
                                refine WL.y (Y.pick (b := true) rfl rfl) rfl ?_
                                exact WL.nil (At.join (σ := (Bool × Own)) (decide (r196 = r229), O234) ⟨some1 h, (Stp.up hst237 rfl)⟩ (.cons rfl .nil))
                              · refine WL.ren 149 rfl (congrArg Value.bool hE228) ?_
                                refine WL.gS rfl rfl rfl rfl ?_
                                refine WL.gS rfl rfl rfl rfl ?_
                                refine WL.gS rfl rfl rfl rfl ?_
                                refine WL.gS rfl rfl rfl rfl ?_
                                refine WL.gS rfl rfl rfl rfl ?_
                                refine WL.y (Y.pick (b := false) rfl rfl) rfl ?_
                                exact WL.nil (At.join (σ := (Bool × Own)) (false, O207) ⟨some1 h, (Stp.refl _ _ _)⟩ (.cons rfl .nil))
                            · rintro ⟨x222, O223⟩ wd224 ⟨rfl, hst225⟩
                              replace h := hk227
                              try dsimp only at h hst225
                              refine (show WL _ _ _ _ _ [(155, .bool x222)] _ from ?_)
                              refine WL.y (Y.assign rfl) rfl ?_
                              refine WL.nil ?_
                              refine At.then ?_
                              refine WC.ret ?_
                              obtain rfl := some1 h
                              have hs238 : Stp [] (Lg.O0 (fun _ => False)) w O223 wd224 := (Stp.trans (Stp.up hst19 rfl) (Stp.trans (Stp.up hst31 rfl) (Stp.trans (Stp.up hst40 rfl) (Stp.trans (Stp.up hst44 rfl) (Stp.trans (Stp.up hst68 rfl) (Stp.trans (Stp.up hst78 rfl) (Stp.trans (Stp.up hst88 rfl) (Stp.trans (Stp.up hst98 rfl) (Stp.trans (Stp.up hst107 rfl) (Stp.trans (Stp.up hst112 rfl) (Stp.trans (Stp.up hst153 rfl) (Stp.trans (Stp.up hst194 rfl) (Stp.trans (Stp.up hst204 rfl) (Stp.trans (Stp.up hst209 rfl) (Stp.up hst225 rfl)))))))))))))))
                              exact At.res (.inl rfl) rfl (.tmp rfl .nil) ⟨rfl, (Stp.ext hs238 rfl rfl)⟩

end Go.Lg
