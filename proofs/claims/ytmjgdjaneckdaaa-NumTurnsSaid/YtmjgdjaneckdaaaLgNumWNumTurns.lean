/- The walks of NumTurns and of what it calls, printed by gen.py. -/
import Derived.Test.YtmjgdjaneckdaaaLgNumP
import Derived.Test.YtmjgdjaneckdaaaProg
set_option linter.unusedVariables false
namespace Go.Lg
open Go Go.Proofs
set_option maxRecDepth 100000
theorem fmix : Try.prog.follows .mixedOrders = true := by kernel_rfl
theorem xfrom_32 : XFrom Try.prog 32 := xfrom Try.func32 (by kernel_rfl) rfl (by kernel_rfl) (by kernel_rfl)
theorem xbits_31 : XBits Try.prog 31 := xbits Try.func31 (by kernel_rfl) rfl (by kernel_rfl) (by kernel_rfl)
theorem kok7 : CallOk Try.prog 7 := callOk Try.func7 (by kernel_rfl) rfl
theorem kok8 : CallOk Try.prog 8 := callOk Try.func8 (by kernel_rfl) rfl
theorem kok10 : CallOk Try.prog 10 := callOk Try.func10 (by kernel_rfl) rfl
theorem kok12 : CallOk Try.prog 12 := callOk Try.func12 (by kernel_rfl) rfl
theorem kok14 : CallOk Try.prog 14 := callOk Try.func14 (by kernel_rfl) rfl
theorem kok16 : CallOk Try.prog 16 := callOk Try.func16 (by kernel_rfl) rfl
theorem kok18 : CallOk Try.prog 18 := callOk Try.func18 (by kernel_rfl) rfl
theorem kok24 : CallOk Try.prog 24 := callOk Try.func24 (by kernel_rfl) rfl
theorem kok25 : CallOk Try.prog 25 := callOk Try.func25 (by kernel_rfl) rfl

theorem c_num_Odd {a0 : UInt64} {w : World} {r0 : Bool} (h : num_Odd a0 = some r0) : Rets Try.prog 14 [vu a0] w (fun v w' => v = .bool r0 ∧ Ext w w') := by
  unfold num_Odd at h
  refine Rets.enter Try.func14 rfl rfl ?_
  refine (show WC _ _ _ _ [(0, vu a0)] _ from ?_)
  refine WC.seq ?_
  refine WC.region ?_
  refine WL.y (Y.assign rfl) rfl ?_
  refine WL.nil ?_
  refine At.then ?_
  refine WC.seq ?_
  refine WC.region ?_
  refine WL.y (Y.move rfl) rfl ?_
  refine WL.y (Y.andNot_u (b := 9223372036854775808) rfl rfl) rfl ?_
  refine WL.y (Y.gtr_u (b := 9218868437227405312) rfl rfl) rfl ?_
  obtain ⟨t11, ht11, h⟩ := lt1 h
  refine WL.yE (Y.assign rfl) (congrArg Value.bool ht11.symm) rfl ?_
  refine WL.nil ?_
  refine At.then ?_
  refine WC.ret ?_
  obtain rfl := some1 h
  have hs12 : Stp [] (Lg.O0 (fun _ => False)) w (Lg.O0 (fun _ => False)) w := (Stp.refl _ _ _)
  exact At.res (.inl rfl) rfl (.tmp rfl .nil) ⟨rfl, (Stp.ext hs12 rfl rfl)⟩

theorem c_num_Canon {a0 : UInt64} {w : World} {r0 : UInt64} (h : num_Canon a0 = some r0) : Rets Try.prog 18 [vu a0] w (fun v w' => v = vu r0 ∧ Ext w w') := by
  unfold num_Canon at h
  refine Rets.enter Try.func18 rfl rfl ?_
  refine (show WC _ _ _ _ [(0, vu a0)] _ from ?_)
  refine WC.seq ?_
  refine WC.region ?_
  refine WL.y (Y.assign (v := vu 0) rfl) rfl ?_
  refine WL.nil ?_
  refine At.then ?_
  refine WC.seq ?_
  refine WC.seq ?_
  refine WC.region ?_
  refine WL.y (Y.move rfl) rfl ?_
  obtain ⟨r11, hp12, h⟩ := bnd h
  refine WL.call (vals := [vu a0]) kok14 rfl rfl (c_num_Odd hp12) ?_
  rintro vr15 wd14 ⟨rfl, hm13⟩
  obtain ⟨O16, hold17, hnew18, hst19⟩ := adoptE (Lg.O0 (fun _ => False)) (fun k => 1) hm13
  refine WL.nil ?_
  refine At.then ?_
  rcases cnd h with ⟨hc20, h⟩ | ⟨hc20, h⟩
  · refine WC.condT' rfl hc20 ?_
    refine WC.seq ?_
    refine WC.region ?_
    refine WL.y (Y.assign (v := vu 9221120237041090561) rfl) rfl ?_
    refine WL.nil ?_
    refine At.then ?_
    refine WC.ret ?_
    refine At.thenR ?_
    obtain rfl := some1 h
    have hs21 : Stp [] (Lg.O0 (fun _ => False)) w O16 wd14 := (Stp.up hst19 rfl)
    exact At.res (.inl rfl) rfl (.tmp rfl .nil) ⟨rfl, (Stp.ext hs21 rfl rfl)⟩
  · refine WC.condF' rfl hc20 ?_
    refine WC.skip ?_
    refine At.then ?_
    refine WC.seq ?_
    refine WC.region ?_
    refine WL.y (Y.move rfl) rfl ?_
    refine WL.y (Y.assign rfl) rfl ?_
    refine WL.nil ?_
    refine At.then ?_
    refine WC.ret ?_
    obtain rfl := some1 h
    have hs22 : Stp [] (Lg.O0 (fun _ => False)) w O16 wd14 := (Stp.up hst19 rfl)
    exact At.res (.inl rfl) rfl (.tmp rfl .nil) ⟨rfl, (Stp.ext hs22 rfl rfl)⟩

theorem num_Canon_eq (a : UInt64) : num_Canon a = some (fCan a.toNat) := by
  have e : UInt64.ofNat a.toNat = a := UInt64.toNat_inj.1 (by rw [UInt64.toNat_ofNat']; have := UInt64.toNat_lt a; omega)
  unfold num_Canon num_Odd fCan lett
  rw [fodd_of]
  cases fOdd a.toNat
  · rw [if_neg (by simp), e]; rfl
  · rw [if_pos rfl]; rfl
theorem c_num_bits {r : Nat} {w : World} (hr : r < 18446744073709551616) : Rets Try.prog 24 [.float .f64 r] w (fun v w' => v = vu (fCan r) ∧ Ext w w') := by
  refine Rets.enter Try.func24 rfl rfl ?_
  refine (show WC _ _ _ _ [(0, .float .f64 r)] _ from ?_)
  refine WC.seq (WC.region (WL.y (Y.assign (v := vu 0) rfl) rfl (WL.nil (At.then ?_))))
  refine WC.seq (WC.region ?_)
  refine WL.y (Y.move rfl) rfl ?_
  have er : (UInt64.ofNat r).toNat = r := by rw [UInt64.toNat_ofNat']; omega
  refine WL.y (Y.fbits xbits_31 hr rfl) rfl ?_
  refine WL.call (vals := [vu (UInt64.ofNat r)]) kok18 rfl rfl (c_num_Canon (num_Canon_eq _)) ?_
  rintro vr1 wd1 ⟨rfl, hm1⟩
  obtain ⟨O1, hold1, hnew1, hst1⟩ := adoptE (Lg.O0 (fun _ => False)) (fun k => 1) hm1
  refine WL.y (Y.assign rfl) rfl (WL.nil (At.then (WC.ret ?_)))
  have hs : Stp [] (Lg.O0 (fun _ => False)) w O1 wd1 := (Stp.up hst1 rfl)
  rw [er]
  exact At.res (.inl rfl) rfl (.tmp rfl .nil) ⟨rfl, Stp.ext hs rfl rfl⟩

theorem c_num_of {a0 : UInt64} {w : World} : Rets Try.prog 25 [vu a0] w (fun v w' => v = .float .f64 a0.toNat ∧ Ext w w') := by
  refine Rets.enter Try.func25 rfl rfl ?_
  refine (show WC _ _ _ _ [(0, vu a0)] _ from ?_)
  refine WC.seq (WC.region (WL.y (Y.assign (v := .float .f64 0) rfl) rfl (WL.nil (At.then ?_))))
  refine WC.seq (WC.region ?_)
  refine WL.y (Y.move rfl) rfl ?_
  refine WL.y (Y.ffrom xfrom_32 rfl) rfl ?_
  refine WL.y (Y.assign rfl) rfl (WL.nil (At.then (WC.ret ?_)))
  exact At.res (.inl rfl) rfl (.tmp rfl .nil) ⟨rfl, Ext.refl w⟩

theorem c_num_Add {a0 : UInt64} {a1 : UInt64} {w : World} {r0 : UInt64} (h : num_Add a0 a1 = some r0) : Rets Try.prog 8 [vu a0, vu a1] w (fun v w' => v = vu r0 ∧ Ext w w') := by
  unfold num_Add at h
  obtain rfl := some1 h
  refine Rets.enter Try.func8 rfl rfl ?_
  refine (show WC _ _ _ _ [(0, vu a0), (1, vu a1)] _ from ?_)
  refine WC.seq (WC.region (WL.y (Y.assign (v := vu 0) rfl) rfl (WL.nil (At.then ?_))))
  refine WC.seq (WC.region ?_)
  refine WL.y (Y.move rfl) rfl ?_
  refine WL.call (vals := [vu a0]) kok25 rfl rfl (c_num_of) ?_
  rintro vr1 wd1 ⟨rfl, hm1⟩
  obtain ⟨O1, hold1, hnew1, hst1⟩ := adoptE (Lg.O0 (fun _ => False)) (fun k => 1) hm1
  refine WL.y (Y.move rfl) rfl ?_
  refine WL.call (vals := [vu a1]) kok25 rfl rfl (c_num_of) ?_
  rintro vr2 wd2 ⟨rfl, hm2⟩
  obtain ⟨O2, hold2, hnew2, hst2⟩ := adoptE O1 (fun k => 1) hm2
  refine WL.fadd (O := O2) rfl rfl rfl ?_
  intro r3 wd3 hst3 hr3
  refine WL.call (vals := [.float .f64 r3]) kok24 rfl rfl (c_num_bits hr3.1) ?_
  rintro vr4 wd4 ⟨rfl, hm4⟩
  obtain ⟨O4, hold4, hnew4, hst4⟩ := adoptE O2 (fun k => 1) hm4
  refine WL.y (Y.assign rfl) rfl (WL.nil (At.then (WC.ret ?_)))
  rw [fAdd_res hr3]
  have hs : Stp [] (Lg.O0 (fun _ => False)) w O4 wd4 := (Stp.trans (Stp.up hst1 rfl) (Stp.trans (Stp.up hst2 rfl) (Stp.trans (Stp.up hst3 rfl) (Stp.up hst4 rfl))))
  exact At.res (.inl rfl) rfl (.tmp rfl .nil) ⟨rfl, Stp.ext hs rfl rfl⟩

theorem c_num_Sub {a0 : UInt64} {a1 : UInt64} {w : World} {r0 : UInt64} (h : num_Sub a0 a1 = some r0) : Rets Try.prog 10 [vu a0, vu a1] w (fun v w' => v = vu r0 ∧ Ext w w') := by
  unfold num_Sub at h
  obtain rfl := some1 h
  refine Rets.enter Try.func10 rfl rfl ?_
  refine (show WC _ _ _ _ [(0, vu a0), (1, vu a1)] _ from ?_)
  refine WC.seq (WC.region (WL.y (Y.assign (v := vu 0) rfl) rfl (WL.nil (At.then ?_))))
  refine WC.seq (WC.region ?_)
  refine WL.y (Y.move rfl) rfl ?_
  refine WL.call (vals := [vu a0]) kok25 rfl rfl (c_num_of) ?_
  rintro vr1 wd1 ⟨rfl, hm1⟩
  obtain ⟨O1, hold1, hnew1, hst1⟩ := adoptE (Lg.O0 (fun _ => False)) (fun k => 1) hm1
  refine WL.y (Y.move rfl) rfl ?_
  refine WL.call (vals := [vu a1]) kok25 rfl rfl (c_num_of) ?_
  rintro vr2 wd2 ⟨rfl, hm2⟩
  obtain ⟨O2, hold2, hnew2, hst2⟩ := adoptE O1 (fun k => 1) hm2
  refine WL.fsub (O := O2) rfl rfl rfl ?_
  intro r3 wd3 hst3 hr3
  refine WL.call (vals := [.float .f64 r3]) kok24 rfl rfl (c_num_bits hr3.1) ?_
  rintro vr4 wd4 ⟨rfl, hm4⟩
  obtain ⟨O4, hold4, hnew4, hst4⟩ := adoptE O2 (fun k => 1) hm4
  refine WL.y (Y.assign rfl) rfl (WL.nil (At.then (WC.ret ?_)))
  rw [fSub_res hr3]
  have hs : Stp [] (Lg.O0 (fun _ => False)) w O4 wd4 := (Stp.trans (Stp.up hst1 rfl) (Stp.trans (Stp.up hst2 rfl) (Stp.trans (Stp.up hst3 rfl) (Stp.up hst4 rfl))))
  exact At.res (.inl rfl) rfl (.tmp rfl .nil) ⟨rfl, Stp.ext hs rfl rfl⟩

theorem c_num_Less {a0 : UInt64} {a1 : UInt64} {w : World} {r0 : Bool} (h : num_Less a0 a1 = some r0) : Rets Try.prog 12 [vu a0, vu a1] w (fun v w' => v = .bool r0 ∧ Ext w w') := by
  unfold num_Less at h
  obtain rfl := some1 h
  refine Rets.enter Try.func12 rfl rfl ?_
  refine (show WC _ _ _ _ [(0, vu a0), (1, vu a1)] _ from ?_)
  refine WC.seq (WC.region (WL.y (Y.assign (v := .bool false) rfl) rfl (WL.nil (At.then ?_))))
  refine WC.seq (WC.region ?_)
  refine WL.y (Y.move rfl) rfl ?_
  refine WL.call (vals := [vu a0]) kok25 rfl rfl (c_num_of) ?_
  rintro vr1 wd1 ⟨rfl, hm1⟩
  obtain ⟨O1, hold1, hnew1, hst1⟩ := adoptE (Lg.O0 (fun _ => False)) (fun k => 1) hm1
  refine WL.y (Y.move rfl) rfl ?_
  refine WL.call (vals := [vu a1]) kok25 rfl rfl (c_num_of) ?_
  rintro vr2 wd2 ⟨rfl, hm2⟩
  obtain ⟨O2, hold2, hnew2, hst2⟩ := adoptE O1 (fun k => 1) hm2
  refine WL.y (Y.fless rfl rfl) rfl ?_
  refine WL.y (Y.assign rfl) rfl (WL.nil (At.then (WC.ret ?_)))
  have hs : Stp [] (Lg.O0 (fun _ => False)) w O2 wd2 := (Stp.trans (Stp.up hst1 rfl) (Stp.up hst2 rfl))
  exact At.res (.inl rfl) rfl (.tmp rfl .nil) ⟨rfl, Stp.ext hs rfl rfl⟩

theorem c_law05_awake {w : World} {r0 : Bool} (h : law05_awake = some r0) : Rets Try.prog 7 [] w (fun v w' => v = .bool r0 ∧ Ext w w') := by
  unfold law05_awake at h
  refine Rets.enter Try.func7 rfl rfl ?_
  refine (show WC _ _ _ _ [] _ from ?_)
  refine WC.seq ?_
  refine WC.region ?_
  refine WL.y (Y.assign rfl) rfl ?_
  refine WL.nil ?_
  refine At.then ?_
  refine WC.seq ?_
  refine WC.region ?_
  obtain ⟨r11, hp12, h⟩ := bnd h
  refine WL.call (vals := [vu 4607182418800017408, vu 4607182418800017408]) kok8 rfl rfl (c_num_Add hp12) ?_
  rintro vr15 wd14 ⟨rfl, hm13⟩
  obtain ⟨O16, hold17, hnew18, hst19⟩ := adoptE (Lg.O0 (fun _ => False)) (fun k => 1) hm13
  refine WL.y (Y.eql_u (b := 4611686018427387904) rfl rfl) rfl ?_
  refine WL.y (Y.move rfl) rfl ?_
  obtain ⟨p24, h, hk25⟩ := bnd h
  refine WL.cut 3 (σ := (Bool × Own)) (fun x w' => x.1 = p24 ∧ Stp [] O16 wd14 x.2 w') (fun x => [(6, .bool x.1)]) ?_ ?_
  · rcases cnd h with ⟨hE26, h⟩ | ⟨hE26, h⟩
    · refine WL.ren 3 rfl (congrArg Value.bool hE26) ?_
      refine WL.ung rfl rfl ?_
      obtain ⟨r27, hp28, h⟩ := bnd h
      refine WL.call (vals := [vu 9218868437227405312, vu 9218868437227405312]) kok10 rfl rfl (c_num_Sub hp28) ?_
      rintro vr31 wd30 ⟨rfl, hm29⟩
      obtain ⟨O32, hold33, hnew34, hst35⟩ := adoptE O16 (fun k => 1) hm29
      refine WL.ung rfl rfl ?_
      refine WL.y (Y.eql_u (b := 9221120237041090561) rfl rfl) rfl ?_
      refine WL.y (Y.pick (b := true) rfl rfl) rfl ?_
      exact WL.nil (At.join (σ := (Bool × Own)) (decide (r27 = 9221120237041090561), O32) ⟨some1 h, (Stp.up hst35 rfl)⟩ (.cons rfl .nil))
    · refine WL.ren 3 rfl (congrArg Value.bool hE26) ?_
      refine WL.gS rfl rfl rfl rfl ?_
      refine WL.gS rfl rfl rfl rfl ?_
      refine WL.y (Y.pick (b := false) rfl rfl) rfl ?_
      exact WL.nil (At.join (σ := (Bool × Own)) (false, O16) ⟨some1 h, (Stp.refl _ _ _)⟩ (.cons rfl .nil))
  · rintro ⟨x20, O21⟩ wd22 ⟨rfl, hst23⟩
    replace h := hk25
    try dsimp only at h hst23
    refine (show WL _ _ _ _ _ [(6, .bool x20)] _ from ?_)
    refine WL.y (Y.move rfl) rfl ?_
    obtain ⟨p40, h, hk41⟩ := bnd h
    refine WL.cut 2 (σ := (Bool × Own)) (fun x w' => x.1 = p40 ∧ Stp [] O21 wd22 x.2 w') (fun x => [(9, .bool x.1)]) ?_ ?_
    · rcases cnd h with ⟨hE42, h⟩ | ⟨hE42, h⟩
      · refine WL.ren 7 rfl (congrArg Value.bool hE42) ?_
        refine WL.ung rfl rfl ?_
        obtain ⟨r43, hp44, h⟩ := bnd h
        refine WL.call (vals := [vu 13830554455654793216, vu 0]) kok12 rfl rfl (c_num_Less hp44) ?_
        rintro vr47 wd46 ⟨rfl, hm45⟩
        obtain ⟨O48, hold49, hnew50, hst51⟩ := adoptE O21 (fun k => 1) hm45
        refine WL.y (Y.pick (b := true) rfl rfl) rfl ?_
        exact WL.nil (At.join (σ := (Bool × Own)) (r43, O48) ⟨some1 h, (Stp.up hst51 rfl)⟩ (.cons rfl .nil))
      · refine WL.ren 7 rfl (congrArg Value.bool hE42) ?_
        refine WL.gS rfl rfl rfl rfl ?_
        refine WL.y (Y.pick (b := false) rfl rfl) rfl ?_
        exact WL.nil (At.join (σ := (Bool × Own)) (false, O21) ⟨some1 h, (Stp.refl _ _ _)⟩ (.cons rfl .nil))
    · rintro ⟨x36, O37⟩ wd38 ⟨rfl, hst39⟩
      replace h := hk41
      try dsimp only at h hst39
      refine (show WL _ _ _ _ _ [(9, .bool x36)] _ from ?_)
      refine WL.y (Y.move rfl) rfl ?_
      obtain ⟨p56, h, hk57⟩ := bnd h
      refine WL.cut 2 (σ := (Bool × Own)) (fun x w' => x.1 = p56 ∧ Stp [] O37 wd38 x.2 w') (fun x => [(12, .bool x.1)]) ?_ ?_
      · rcases cnd h with ⟨hE58, h⟩ | ⟨hE58, h⟩
        · refine WL.ren 10 rfl (congrArg Value.bool hE58) ?_
          refine WL.ung rfl rfl ?_
          obtain ⟨r59, hp60, h⟩ := bnd h
          refine WL.call (vals := [vu 9218868437227405313]) kok14 rfl rfl (c_num_Odd hp60) ?_
          rintro vr63 wd62 ⟨rfl, hm61⟩
          obtain ⟨O64, hold65, hnew66, hst67⟩ := adoptE O37 (fun k => 1) hm61
          refine WL.y (Y.pick (b := true) rfl rfl) rfl ?_
          exact WL.nil (At.join (σ := (Bool × Own)) (r59, O64) ⟨some1 h, (Stp.up hst67 rfl)⟩ (.cons rfl .nil))
        · refine WL.ren 10 rfl (congrArg Value.bool hE58) ?_
          refine WL.gS rfl rfl rfl rfl ?_
          refine WL.y (Y.pick (b := false) rfl rfl) rfl ?_
          exact WL.nil (At.join (σ := (Bool × Own)) (false, O37) ⟨some1 h, (Stp.refl _ _ _)⟩ (.cons rfl .nil))
      · rintro ⟨x52, O53⟩ wd54 ⟨rfl, hst55⟩
        replace h := hk57
        try dsimp only at h hst55
        refine (show WL _ _ _ _ _ [(12, .bool x52)] _ from ?_)
        refine WL.y (Y.assign rfl) rfl ?_
        refine WL.nil ?_
        refine At.then ?_
        refine WC.ret ?_
        obtain rfl := some1 h
        have hs68 : Stp [] (Lg.O0 (fun _ => False)) w O53 wd54 := (Stp.trans (Stp.up hst19 rfl) (Stp.trans (Stp.up hst23 rfl) (Stp.trans (Stp.up hst39 rfl) (Stp.up hst55 rfl))))
        exact At.res (.inl rfl) rfl (.tmp rfl .nil) ⟨rfl, (Stp.ext hs68 rfl rfl)⟩

theorem c_num_Finite {a0 : UInt64} {w : World} {r0 : Bool} (h : num_Finite a0 = some r0) : Rets Try.prog 16 [vu a0] w (fun v w' => v = .bool r0 ∧ Ext w w') := by
  unfold num_Finite at h
  refine Rets.enter Try.func16 rfl rfl ?_
  refine (show WC _ _ _ _ [(0, vu a0)] _ from ?_)
  refine WC.seq ?_
  refine WC.region ?_
  refine WL.y (Y.assign rfl) rfl ?_
  refine WL.nil ?_
  refine At.then ?_
  refine WC.seq ?_
  refine WC.region ?_
  refine WL.y (Y.move rfl) rfl ?_
  refine WL.y (Y.and_u (b := 9218868437227405312) rfl rfl) rfl ?_
  refine WL.y (Y.neq_u (b := 9218868437227405312) rfl rfl) rfl ?_
  obtain ⟨t11, ht11, h⟩ := lt1 h
  refine WL.yE (Y.assign rfl) (congrArg Value.bool ht11.symm) rfl ?_
  refine WL.nil ?_
  refine At.then ?_
  refine WC.ret ?_
  obtain rfl := some1 h
  have hs12 : Stp [] (Lg.O0 (fun _ => False)) w (Lg.O0 (fun _ => False)) w := (Stp.refl _ _ _)
  exact At.res (.inl rfl) rfl (.tmp rfl .nil) ⟨rfl, (Stp.ext hs12 rfl rfl)⟩

theorem c_law05_NumTurns {a0 : UInt64} {a1 : UInt64} {w : World} {r0 : Bool} (h : law05_NumTurns a0 a1 = some r0) : Rets Try.prog 5 [vu a0, vu a1] w (fun v w' => v = .bool r0 ∧ Ext w w') := by
  unfold law05_NumTurns at h
  refine Rets.enter Try.func5 rfl rfl ?_
  refine (show WC _ _ _ _ [(0, vu a0), (1, vu a1)] _ from ?_)
  refine WC.seq ?_
  refine WC.region ?_
  refine WL.y (Y.assign rfl) rfl ?_
  refine WL.nil ?_
  refine At.then ?_
  refine WC.seq ?_
  refine WC.seq ?_
  refine WC.region ?_
  obtain ⟨r11, hp12, h⟩ := bnd h
  refine WL.call (vals := []) kok7 rfl rfl (c_law05_awake hp12) ?_
  rintro vr15 wd14 ⟨rfl, hm13⟩
  obtain ⟨O16, hold17, hnew18, hst19⟩ := adoptE (Lg.O0 (fun _ => False)) (fun k => 1) hm13
  refine WL.y (Y.not rfl) rfl ?_
  refine WL.nil ?_
  refine At.then ?_
  rcases cnd h with ⟨hc20, h⟩ | ⟨hc20, h⟩
  · refine WC.condT' rfl hc20 ?_
    refine WC.seq ?_
    refine WC.region ?_
    refine WL.y (Y.assign rfl) rfl ?_
    refine WL.nil ?_
    refine At.then ?_
    refine WC.ret ?_
    refine At.thenR ?_
    obtain rfl := some1 h
    have hs21 : Stp [] (Lg.O0 (fun _ => False)) w O16 wd14 := (Stp.up hst19 rfl)
    exact At.res (.inl rfl) rfl (.tmp rfl .nil) ⟨rfl, (Stp.ext hs21 rfl rfl)⟩
  · refine WC.condF' rfl hc20 ?_
    refine WC.skip ?_
    refine At.then ?_
    refine WC.seq ?_
    refine WC.seq ?_
    refine WC.region ?_
    refine WL.y (Y.move rfl) rfl ?_
    refine WL.y (Y.move rfl) rfl ?_
    obtain ⟨r22, hp23, h⟩ := bnd h
    refine WL.call (vals := [vu a0, vu a1]) kok8 rfl rfl (c_num_Add hp23) ?_
    rintro vr26 wd25 ⟨rfl, hm24⟩
    obtain ⟨O27, hold28, hnew29, hst30⟩ := adoptE O16 (fun k => 1) hm24
    refine WL.y (Y.move rfl) rfl ?_
    refine WL.y (Y.move rfl) rfl ?_
    obtain ⟨r31, hp32, h⟩ := bnd h
    refine WL.call (vals := [vu a1, vu a0]) kok8 rfl rfl (c_num_Add hp32) ?_
    rintro vr35 wd34 ⟨rfl, hm33⟩
    obtain ⟨O36, hold37, hnew38, hst39⟩ := adoptE O27 (fun k => 1) hm33
    refine WL.y (Y.neq_u rfl rfl) rfl ?_
    refine WL.y (Y.move rfl) rfl ?_
    obtain ⟨p44, h, hk45⟩ := bnd h
    refine WL.cut 14 (σ := (Bool × Own)) (fun x w' => x.1 = p44 ∧ Stp [] O36 wd34 x.2 w') (fun x => [(0, vu a0), (28, .bool x.1)]) ?_ ?_
    · rcases cnd h with ⟨hE46, h⟩ | ⟨hE46, h⟩
      · refine WL.ren 14 rfl (congrArg Value.bool hE46) ?_
        refine WL.gS rfl rfl rfl rfl ?_
        refine WL.gS rfl rfl rfl rfl ?_
        refine WL.gS rfl rfl rfl rfl ?_
        refine WL.gS rfl rfl rfl rfl ?_
        refine WL.gS rfl rfl rfl rfl ?_
        refine WL.gS rfl rfl rfl rfl ?_
        refine WL.gS rfl rfl rfl rfl ?_
        refine WL.gS rfl rfl rfl rfl ?_
        refine WL.gS rfl rfl rfl rfl ?_
        refine WL.gS rfl rfl rfl rfl ?_
        refine WL.gS rfl rfl rfl rfl ?_
        refine WL.gS rfl rfl rfl rfl ?_
        refine WL.gS rfl rfl rfl rfl ?_
        refine WL.y (Y.pick (b := true) rfl rfl) rfl ?_
        exact WL.nil (At.join (σ := (Bool × Own)) (true, O36) ⟨some1 h, (Stp.refl _ _ _)⟩ (.cons rfl (.cons rfl .nil)))
      · refine WL.ren 14 rfl (congrArg Value.bool hE46) ?_
        refine WL.ung rfl rfl ?_
        refine WL.y (Y.move rfl) rfl ?_
        refine WL.ung rfl rfl ?_
        obtain ⟨r47, hp48, h⟩ := bnd h
        refine WL.call (vals := [vu a1]) kok14 rfl rfl (c_num_Odd hp48) ?_
        rintro vr51 wd50 ⟨rfl, hm49⟩
        obtain ⟨O52, hold53, hnew54, hst55⟩ := adoptE O36 (fun k => 1) hm49
        refine WL.ung rfl rfl ?_
        refine WL.y (Y.not rfl) rfl ?_
        refine WL.ung rfl rfl ?_
        refine WL.y (Y.move rfl) rfl ?_
        obtain ⟨p60, h, hk61⟩ := bnd h
        refine WL.cut 9 (σ := (Bool × Own)) (fun x w' => x.1 = p60 ∧ Stp [] O52 wd50 x.2 w') (fun x => [(0, vu a0), (14, .bool false), (27, .bool x.1)]) ?_ ?_
        · rcases cnd h with ⟨hE62, h⟩ | ⟨hE62, h⟩
          · refine WL.ren 18 rfl (congrArg Value.bool hE62) ?_
            refine WL.ung rfl rfl ?_
            refine WL.y (Y.move rfl) rfl ?_
            refine WL.ung rfl rfl ?_
            refine WL.y (Y.move rfl) rfl ?_
            refine WL.ung rfl rfl ?_
            obtain ⟨r63, hp64, h⟩ := bnd h
            refine WL.call (vals := [vu a0, vu a1]) kok10 rfl rfl (c_num_Sub hp64) ?_
            rintro vr67 wd66 ⟨rfl, hm65⟩
            obtain ⟨O68, hold69, hnew70, hst71⟩ := adoptE O52 (fun k => 1) hm65
            refine WL.ung rfl rfl ?_
            refine WL.y (Y.move rfl) rfl ?_
            refine WL.ung rfl rfl ?_
            refine WL.y (Y.move rfl) rfl ?_
            refine WL.ung rfl rfl ?_
            refine WL.y (Y.xor_u (b := 9223372036854775808) rfl rfl) rfl ?_
            refine WL.ung rfl rfl ?_
            obtain ⟨r72, hp73, h⟩ := bnd h
            refine WL.call (vals := [vu a0, vu (a1 ^^^ 9223372036854775808)]) kok8 rfl rfl (c_num_Add hp73) ?_
            rintro vr76 wd75 ⟨rfl, hm74⟩
            obtain ⟨O77, hold78, hnew79, hst80⟩ := adoptE O68 (fun k => 1) hm74
            refine WL.ung rfl rfl ?_
            refine WL.y (Y.neq_u rfl rfl) rfl ?_
            refine WL.ung rfl rfl ?_
            refine WL.y (Y.pick (b := true) rfl rfl) rfl ?_
            exact WL.nil (At.join (σ := (Bool × Own)) ((!decide (r63 = r72)), O77) ⟨some1 h, (Stp.trans (Stp.up hst71 rfl) (Stp.up hst80 rfl))⟩ (.cons rfl (.cons rfl (.cons rfl .nil))))
          · refine WL.ren 18 rfl (congrArg Value.bool hE62) ?_
            refine WL.gS rfl rfl rfl rfl ?_
            refine WL.gS rfl rfl rfl rfl ?_
            refine WL.gS rfl rfl rfl rfl ?_
            refine WL.gS rfl rfl rfl rfl ?_
            refine WL.gS rfl rfl rfl rfl ?_
            refine WL.gS rfl rfl rfl rfl ?_
            refine WL.gS rfl rfl rfl rfl ?_
            refine WL.gS rfl rfl rfl rfl ?_
            refine WL.ung rfl rfl ?_
            refine WL.y (Y.pick (b := false) rfl rfl) rfl ?_
            exact WL.nil (At.join (σ := (Bool × Own)) (false, O52) ⟨some1 h, (Stp.refl _ _ _)⟩ (.cons rfl (.cons rfl (.cons rfl .nil))))
        · rintro ⟨x56, O57⟩ wd58 ⟨rfl, hst59⟩
          replace h := hk61
          try dsimp only at h hst59
          refine (show WL _ _ _ _ _ [(0, vu a0), (14, .bool false), (27, .bool x56)] _ from ?_)
          refine WL.y (Y.pick (b := false) rfl rfl) rfl ?_
          exact WL.nil (At.join (σ := (Bool × Own)) (x56, O57) ⟨some1 h, (Stp.trans (Stp.up hst55 rfl) (Stp.up hst59 rfl))⟩ (.cons rfl (.cons rfl .nil)))
    · rintro ⟨x40, O41⟩ wd42 ⟨rfl, hst43⟩
      replace h := hk45
      try dsimp only at h hst43
      refine (show WL _ _ _ _ _ [(0, vu a0), (28, .bool x40)] _ from ?_)
      refine WL.nil ?_
      refine At.then ?_
      rcases cnd h with ⟨hc81, h⟩ | ⟨hc81, h⟩
      · refine WC.condT' rfl hc81 ?_
        refine WC.seq ?_
        refine WC.region ?_
        refine WL.y (Y.assign rfl) rfl ?_
        refine WL.nil ?_
        refine At.then ?_
        refine WC.ret ?_
        refine At.thenR ?_
        obtain rfl := some1 h
        have hs82 : Stp [] (Lg.O0 (fun _ => False)) w O41 wd42 := (Stp.trans (Stp.up hst19 rfl) (Stp.trans (Stp.up hst30 rfl) (Stp.trans (Stp.up hst39 rfl) (Stp.up hst43 rfl))))
        exact At.res (.inl rfl) rfl (.tmp rfl .nil) ⟨rfl, (Stp.ext hs82 rfl rfl)⟩
      · refine WC.condF' rfl hc81 ?_
        refine WC.skip ?_
        refine At.then ?_
        refine WC.seq ?_
        refine WC.seq ?_
        refine WC.region ?_
        refine WL.y (Y.move rfl) rfl ?_
        obtain ⟨r83, hp84, h⟩ := bnd h
        refine WL.call (vals := [vu a0]) kok16 rfl rfl (c_num_Finite hp84) ?_
        rintro vr87 wd86 ⟨rfl, hm85⟩
        obtain ⟨O88, hold89, hnew90, hst91⟩ := adoptE O41 (fun k => 1) hm85
        refine WL.nil ?_
        refine At.then ?_
        rcases cnd h with ⟨hc92, h⟩ | ⟨hc92, h⟩
        · refine WC.condT' rfl hc92 ?_
          refine WC.seq ?_
          refine WC.region ?_
          refine WL.y (Y.move rfl) rfl ?_
          refine WL.y (Y.move rfl) rfl ?_
          obtain ⟨r93, hp94, h⟩ := bnd h
          refine WL.call (vals := [vu a0, vu a0]) kok10 rfl rfl (c_num_Sub hp94) ?_
          rintro vr97 wd96 ⟨rfl, hm95⟩
          obtain ⟨O98, hold99, hnew100, hst101⟩ := adoptE O88 (fun k => 1) hm95
          refine WL.y (Y.eql_u (b := 0) rfl rfl) rfl ?_
          obtain ⟨t102, ht102, h⟩ := lt1 h
          refine WL.yE (Y.assign rfl) (congrArg Value.bool ht102.symm) rfl ?_
          refine WL.nil ?_
          refine At.then ?_
          refine WC.ret ?_
          refine At.thenR ?_
          obtain rfl := some1 h
          have hs103 : Stp [] (Lg.O0 (fun _ => False)) w O98 wd96 := (Stp.trans (Stp.up hst19 rfl) (Stp.trans (Stp.up hst30 rfl) (Stp.trans (Stp.up hst39 rfl) (Stp.trans (Stp.up hst43 rfl) (Stp.trans (Stp.up hst91 rfl) (Stp.up hst101 rfl))))))
          exact At.res (.inl rfl) rfl (.tmp rfl .nil) ⟨rfl, (Stp.ext hs103 rfl rfl)⟩
        · refine WC.condF' rfl hc92 ?_
          refine WC.skip ?_
          refine At.then ?_
          refine WC.seq ?_
          refine WC.region ?_
          refine WL.y (Y.move rfl) rfl ?_
          refine WL.y (Y.move rfl) rfl ?_
          obtain ⟨r104, hp105, h⟩ := bnd h
          refine WL.call (vals := [vu a0, vu a0]) kok10 rfl rfl (c_num_Sub hp105) ?_
          rintro vr108 wd107 ⟨rfl, hm106⟩
          obtain ⟨O109, hold110, hnew111, hst112⟩ := adoptE O88 (fun k => 1) hm106
          refine WL.y (Y.eql_u (b := 9221120237041090561) rfl rfl) rfl ?_
          obtain ⟨t113, ht113, h⟩ := lt1 h
          refine WL.yE (Y.assign rfl) (congrArg Value.bool ht113.symm) rfl ?_
          refine WL.nil ?_
          refine At.then ?_
          refine WC.ret ?_
          obtain rfl := some1 h
          have hs114 : Stp [] (Lg.O0 (fun _ => False)) w O109 wd107 := (Stp.trans (Stp.up hst19 rfl) (Stp.trans (Stp.up hst30 rfl) (Stp.trans (Stp.up hst39 rfl) (Stp.trans (Stp.up hst43 rfl) (Stp.trans (Stp.up hst91 rfl) (Stp.up hst112 rfl))))))
          exact At.res (.inl rfl) rfl (.tmp rfl .nil) ⟨rfl, (Stp.ext hs114 rfl rfl)⟩

end Go.Lg
