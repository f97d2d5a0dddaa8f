/- The walks of FoldKeeps and of what it calls, printed by gen.py. -/
import Derived.Test.YtdpokdaeekanjaaFkLgFkWFoldKeepsx1
set_option linter.unusedVariables false
namespace Go.Lg
open Go Go.Proofs
set_option maxRecDepth 100000
set_option maxHeartbeats 4000000
theorem c_law09_FoldKeeps {A : Nat → Prop} {v0_3 : Value} {v0_5 : Value} {a0 : api_Hist} {v1_3 : Value} {v1_5 : Value} {a1 : api_Hist} {w : World} (hs0_3 : Sl Rep.u w A v0_3 a0.Pos.Counts) (hs0_5 : Sl Rep.u w A v0_5 a0.Neg.Counts) (hs1_3 : Sl Rep.u w A v1_3 a1.Pos.Counts) (hs1_5 : Sl Rep.u w A v1_5 a1.Neg.Counts) {r0 : Bool} (h : law09_FoldKeeps a0 a1 = some r0) : Rets Try.prog 12 [Value.agg (List.toArray [vi a0.Scale, vu a0.Zero, vi a0.Pos.Offset, v0_3, vi a0.Neg.Offset, v0_5]), Value.agg (List.toArray [vi a1.Scale, vu a1.Zero, vi a1.Pos.Offset, v1_3, vi a1.Neg.Offset, v1_5])] w (fun v w' => v = Value.bool r0 ∧ Ext w w') := by
 unfold law09_FoldKeeps at h
 refine Rets.enter Try.func12 rfl rfl ?_
 have hf11 : Sl Rep.u w (imm (Lg.O0 A)) v0_3 a0.Pos.Counts := (Sl.start hs0_3)
 have hf12 : Sl Rep.u w (imm (Lg.O0 A)) v0_5 a0.Neg.Counts := (Sl.start hs0_5)
 have hf13 : Sl Rep.u w (imm (Lg.O0 A)) v1_3 a1.Pos.Counts := (Sl.start hs1_3)
 have hf14 : Sl Rep.u w (imm (Lg.O0 A)) v1_5 a1.Neg.Counts := (Sl.start hs1_5)
 refine (show WC _ _ _ _ [(0, Value.agg (List.toArray [vi a0.Scale, vu a0.Zero, vi a0.Pos.Offset, v0_3, vi a0.Neg.Offset, v0_5])), (1, Value.agg (List.toArray [vi a1.Scale, vu a1.Zero, vi a1.Pos.Offset, v1_3, vi a1.Neg.Offset, v1_5]))] _ from ?_)
 refine WC.seq ?_
 refine WC.region ?_
 have hh18 := h
 obtain ⟨p15, m16, c17, rfl⟩ := hf11.shape
 have h := hh18
 have hh22 := h
 obtain ⟨p19, m20, c21, rfl⟩ := hf12.shape
 have h := hh22
 refine WL.box (O := (Lg.O0 A)) 11 [vi a0.Scale, vu a0.Zero, vi a0.Pos.Offset, (Value.slice p15 m16 c17), vi a0.Neg.Offset, (Value.slice p19 m20 c21)] rfl rfl rfl ?_
 intro p24 O25 wd26 hst27 hb23
 have hf28 := hf13.mono (imm_st hst27 rfl rfl)
 have hh32 := h
 obtain ⟨p29, m30, c31, rfl⟩ := hf28.shape
 have h := hh32
 have hf33 := hf14.mono (imm_st hst27 rfl rfl)
 have hh37 := h
 obtain ⟨p34, m35, c36, rfl⟩ := hf33.shape
 have h := hh37
 refine WL.box (O := O25) 12 [vi a1.Scale, vu a1.Zero, vi a1.Pos.Offset, (Value.slice p29 m30 c31), vi a1.Neg.Offset, (Value.slice p34 m35 c36)] rfl rfl rfl ?_
 intro p39 O40 wd41 hst42 hb38
 refine WL.y (Y.assign rfl) rfl ?_
 refine WL.nil ?_
 refine At.then ?_
 refine WC.seq ?_
 refine WC.seq ?_
 refine WC.region ?_
 obtain ⟨r43, hp44, h⟩ := bnd h
 refine WL.call (vals := []) kok37 rfl rfl (c_law09_awake hp44) ?_
 rintro vr47 wd46 ⟨rfl, hm45⟩
 obtain ⟨O48, hold49, hnew50, hst51⟩ := adoptE O40 (fun k => 1) hm45
 refine WL.y (Y.not rfl) rfl ?_
 refine WL.nil ?_
 refine At.then ?_
 rcases cnd h with ⟨hc52, h⟩ | ⟨hc52, h⟩
 ·refine WC.condT' rfl hc52 ?_
  refine WC.seq ?_
  refine WC.region ?_
  refine WL.y (Y.assign rfl) rfl ?_
  refine WL.nil ?_
  refine At.then ?_
  refine WC.ret ?_
  refine At.thenR ?_
  obtain rfl := some1 h
  have hs53 : Stp [] (Lg.O0 A) w O48 wd46 := (Stp.trans (Stp.up hst27 rfl) (Stp.trans (Stp.up hst42 rfl) (Stp.up hst51 rfl)))
  exact At.res (.inl rfl) rfl (.tmp rfl .nil) ⟨rfl, (Stp.ext hs53 rfl rfl)⟩
 ·refine WC.condF' rfl hc52 ?_
  refine WC.skip ?_
  refine At.then ?_
  refine WC.seq ?_
  refine WC.seq ?_
  refine WC.region ?_
  have hf54 := hb23.st hst42 rfl
  have hf55 := hf54.st hst51 rfl
  refine WL.y (Y.loadAg ty27 rfl rfl (hf55.cells 0 [vi a0.Scale, vu a0.Zero, vi a0.Pos.Offset, (Value.slice p15 m16 c17), vi a0.Neg.Offset, (Value.slice p19 m20 c21)] rfl) rfl) rfl ?_
  have hf56 := hf11.mono (imm_st hst27 rfl rfl)
  have hf57 := hf56.mono (imm_st hst42 rfl rfl)
  have hf58 := hf57.mono (imm_st hst51 rfl rfl)
  have hf59 := hf12.mono (imm_st hst27 rfl rfl)
  have hf60 := hf59.mono (imm_st hst42 rfl rfl)
  have hf61 := hf60.mono (imm_st hst51 rfl rfl)
  obtain ⟨r62, hp63, h⟩ := bnd h
  refine WL.call (vals := [Value.agg (List.toArray [vi a0.Scale, vu a0.Zero, vi a0.Pos.Offset, (Value.slice p15 m16 c17), vi a0.Neg.Offset, (Value.slice p19 m20 c21)])]) kok16 rfl rfl (c_ref08_Light (A := fun _ => True) (a0 := a0) (Sl.all hf58) (Sl.all hf61) hp63) ?_
  rintro vr66 wd65 ⟨rfl, hm64⟩
  obtain ⟨O67, hold68, hnew69, hst70⟩ := adoptE O48 (fun k => 1) hm64
  refine WL.y (Y.not rfl) rfl ?_
  refine WL.y (Y.move rfl) rfl ?_
  obtain ⟨p75, h, hk76⟩ := bnd h
  refine WL.cut 4 (σ := (Bool × Own)) (fun x w' => x.1 = p75 ∧ Stp [] O67 wd65 x.2 w') (fun x => [(2, Value.pointer (some ⟨p24, 0, none⟩)), (3, Value.pointer (some ⟨p39, 0, none⟩)), (29, Value.bool x.1)]) ?_ ?_
  ·rcases cnd h with ⟨hE77, h⟩ | ⟨hE77, h⟩
   ·refine WL.ren 25 rfl (congrArg Value.bool hE77) ?_
    refine WL.gS rfl rfl rfl rfl ?_
    refine WL.gS rfl rfl rfl rfl ?_
    refine WL.gS rfl rfl rfl rfl ?_
    refine WL.y (Y.pick (b := true) rfl rfl) rfl ?_
    exact WL.nil (At.join (σ := (Bool × Own)) (true, O67) ⟨some1 h, (Stp.refl _ _ _)⟩ (.cons rfl (.cons rfl (.cons rfl .nil))))
   ·refine WL.ren 25 rfl (congrArg Value.bool hE77) ?_
    refine WL.ung rfl rfl ?_
    have hf78 := hb38.st hst51 rfl
    have hf79 := hf78.st hst70 rfl
    refine WL.y (Y.loadAg ty27 rfl rfl (hf79.cells 0 [vi a1.Scale, vu a1.Zero, vi a1.Pos.Offset, (Value.slice p29 m30 c31), vi a1.Neg.Offset, (Value.slice p34 m35 c36)] rfl) rfl) rfl ?_
    refine WL.ung rfl rfl ?_
    have hf80 := hf28.mono (imm_st hst42 rfl rfl)
    have hf81 := hf80.mono (imm_st hst51 rfl rfl)
    have hf82 := hf81.mono (imm_st hst70 rfl rfl)
    have hf83 := hf33.mono (imm_st hst42 rfl rfl)
    have hf84 := hf83.mono (imm_st hst51 rfl rfl)
    have hf85 := hf84.mono (imm_st hst70 rfl rfl)
    obtain ⟨r86, hp87, h⟩ := bnd h
    refine WL.call (vals := [Value.agg (List.toArray [vi a1.Scale, vu a1.Zero, vi a1.Pos.Offset, (Value.slice p29 m30 c31), vi a1.Neg.Offset, (Value.slice p34 m35 c36)])]) kok16 rfl rfl (c_ref08_Light (A := fun _ => True) (a0 := a1) (Sl.all hf82) (Sl.all hf85) hp87) ?_
    rintro vr90 wd89 ⟨rfl, hm88⟩
    obtain ⟨O91, hold92, hnew93, hst94⟩ := adoptE O67 (fun k => 1) hm88
    refine WL.ung rfl rfl ?_
    refine WL.y (Y.not rfl) rfl ?_
    refine WL.y (Y.pick (b := false) rfl rfl) rfl ?_
    exact WL.nil (At.join (σ := (Bool × Own)) ((!r86), O91) ⟨some1 h, (Stp.up hst94 rfl)⟩ (.cons rfl (.cons rfl (.cons rfl .nil))))
  ·rintro ⟨x71, O72⟩ wd73 ⟨rfl, hst74⟩
   replace h := hk76
   try dsimp only at h hst74
   refine (show WL _ _ _ _ _ [(2, Value.pointer (some ⟨p24, 0, none⟩)), (3, Value.pointer (some ⟨p39, 0, none⟩)), (29, Value.bool x71)] _ from ?_)
   refine WL.nil ?_
   refine At.then ?_
   rcases cnd h with ⟨hc95, h⟩ | ⟨hc95, h⟩
   ·refine WC.condT' rfl hc95 ?_
    refine WC.seq ?_
    refine WC.region ?_
    refine WL.y (Y.assign rfl) rfl ?_
    refine WL.nil ?_
    refine At.then ?_
    refine WC.ret ?_
    refine At.thenR ?_
    obtain rfl := some1 h
    have hs96 : Stp [] (Lg.O0 A) w O72 wd73 := (Stp.trans (Stp.up hst27 rfl) (Stp.trans (Stp.up hst42 rfl) (Stp.trans (Stp.up hst51 rfl) (Stp.trans (Stp.up hst70 rfl) (Stp.up hst74 rfl)))))
    exact At.res (.inl rfl) rfl (.tmp rfl .nil) ⟨rfl, (Stp.ext hs96 rfl rfl)⟩
   ·refine WC.condF' rfl hc95 ?_
    refine WC.skip ?_
    refine At.then ?_
    refine WC.seq ?_
    refine WC.drawH [13, 14, 15, 16, 17, 18, 19, 20, 21, 22, 23, 24, 25, 26, 27, 28, 29, 30, 31, 32, 33, 34, 35, 36, 37, 38, 39, 40, 41, 42, 43, 44, 45, 46, 47, 48, 49, 50, 51, 52, 53, 54, 55, 56, 57, 58, 59, 60, 61, 62] [0, 1, 2, 3, 4, 5] O72 8 fmix rfl (by kernel_rfl) ?_
    intro wd97 hst98
    refine WD.y 0 rfl (by kernel_rfl) (fun wd100 O99 hst101 => have hf102 := hf55.st hst70 rfl; have hf103 := hf102.st hst74 rfl; have hf104 := hf103.st hst98 rfl; have hf105 := hf104.st hst101 rfl; Y.loadAg ty27 rfl rfl (hf105.cells 0 [vi a0.Scale, vu a0.Zero, vi a0.Pos.Offset, (Value.slice p15 m16 c17), vi a0.Neg.Offset, (Value.slice p19 m20 c21)] rfl) rfl) rfl ?_
    refine WD.y 2 rfl (by kernel_rfl) (fun wd107 O106 hst108 => have hf109 := hb38.st hst51 rfl; have hf110 := hf109.st hst70 rfl; have hf111 := hf110.st hst74 rfl; have hf112 := hf111.st hst98 rfl; have hf113 := hf112.st hst108 rfl; Y.loadAg ty27 rfl rfl (hf113.cells 0 [vi a1.Scale, vu a1.Zero, vi a1.Pos.Offset, (Value.slice p29 m30 c31), vi a1.Neg.Offset, (Value.slice p34 m35 c36)] rfl) rfl) rfl ?_
    obtain ⟨X141, hX142, h⟩ := rhs1 h
    refine WD.join (σ := (Int × UInt64 × Int × List UInt64 × Int × List UInt64 × Int × UInt64 × Int × List UInt64 × Int × List UInt64 × Own × Nat × Nat × Value × Value × Value × Value)) (f' := 2) [5, 4, 3, 2, 1, 0] (fun x O' w' => law09_FoldKeeps_k1 a0 a1 (x.1, x.2.1, x.2.2.1, x.2.2.2.1, x.2.2.2.2.1, x.2.2.2.2.2.1, x.2.2.2.2.2.2.1, x.2.2.2.2.2.2.2.1, x.2.2.2.2.2.2.2.2.1, x.2.2.2.2.2.2.2.2.2.1, x.2.2.2.2.2.2.2.2.2.2.1, x.2.2.2.2.2.2.2.2.2.2.2.1) = some X141 ∧ Stp [13, 14, 15, 16, 17, 18, 19, 20, 21, 22, 23, 24, 25, 26, 27, 28, 29, 30, 31, 32, 33, 34, 35, 36, 37, 38, 39, 40, 41, 42, 43, 44, 45, 46, 47, 48, 49, 50, 51, 52, 53, 54, 55, 56, 57, 58, 59, 60, 61, 62] O72 wd97 x.2.2.2.2.2.2.2.2.2.2.2.2.1 w' ∧ Blk 1001 x.2.2.2.2.2.2.2.2.2.2.2.2.1 w' x.2.2.2.2.2.2.2.2.2.2.2.2.2.1 27 [vi 0, vu 0, vi 0, Value.slice none 0 0, vi 0, Value.slice none 0 0] ∧ Blk 1002 x.2.2.2.2.2.2.2.2.2.2.2.2.1 w' x.2.2.2.2.2.2.2.2.2.2.2.2.2.2.1 27 [vi 0, vu 0, vi 0, Value.slice none 0 0, vi 0, Value.slice none 0 0] ∧ OwnSl 1003 Rep.u 22 x.2.2.2.2.2.2.2.2.2.2.2.2.1 w' x.2.2.2.2.2.2.2.2.2.2.2.2.2.2.2.1 x.2.2.2.1 ∧ OwnSl 1004 Rep.u 22 x.2.2.2.2.2.2.2.2.2.2.2.2.1 w' x.2.2.2.2.2.2.2.2.2.2.2.2.2.2.2.2.1 x.2.2.2.2.2.1 ∧ OwnSl 1005 Rep.u 22 x.2.2.2.2.2.2.2.2.2.2.2.2.1 w' x.2.2.2.2.2.2.2.2.2.2.2.2.2.2.2.2.2.1 x.2.2.2.2.2.2.2.2.2.1 ∧ OwnSl 1006 Rep.u 22 x.2.2.2.2.2.2.2.2.2.2.2.2.1 w' x.2.2.2.2.2.2.2.2.2.2.2.2.2.2.2.2.2.2 x.2.2.2.2.2.2.2.2.2.2.2.1 ∧ x.2.2.2.2.2.2.2.2.2.2.2.2.1 = O') (fun x => [(2, Value.pointer (some ⟨p24, 0, none⟩)), (3, Value.pointer (some ⟨p39, 0, none⟩)), (5, Value.pointer (some ⟨x.2.2.2.2.2.2.2.2.2.2.2.2.2.1, 0, none⟩)), (6, Value.pointer (some ⟨x.2.2.2.2.2.2.2.2.2.2.2.2.2.2.1, 0, none⟩)), (31, Value.agg (List.toArray [vi x.1, vu x.2.1, vi x.2.2.1, x.2.2.2.2.2.2.2.2.2.2.2.2.2.2.2.1, vi x.2.2.2.2.1, x.2.2.2.2.2.2.2.2.2.2.2.2.2.2.2.2.1])), (33, Value.agg (List.toArray [vi x.2.2.2.2.2.2.1, vu x.2.2.2.2.2.2.2.1, vi x.2.2.2.2.2.2.2.2.1, x.2.2.2.2.2.2.2.2.2.2.2.2.2.2.2.2.2.1, vi x.2.2.2.2.2.2.2.2.2.2.1, x.2.2.2.2.2.2.2.2.2.2.2.2.2.2.2.2.2.2]))]) (fun hJ143 => ?_) ?_
    ·refine WD.heavy3 1 4 5 rfl rfl rfl (by kernel_rfl) ?_ ?_ ?_
     ·have hf144 := hf58.mono (imm_st hst70 rfl rfl)
      have hf145 := hf144.mono (imm_st hst74 rfl rfl)
      have hf146 := hf145.mono (imm_st hst98 rfl rfl)
      have hf147 := hf61.mono (imm_st hst70 rfl rfl)
      have hf148 := hf147.mono (imm_st hst74 rfl rfl)
      have hf149 := hf148.mono (imm_st hst98 rfl rfl)
      obtain ⟨r150, hp151, h⟩ := bnd h
      refine WL.call (vals := [Value.agg (List.toArray [vi a0.Scale, vu a0.Zero, vi a0.Pos.Offset, (Value.slice p15 m16 c17), vi a0.Neg.Offset, (Value.slice p19 m20 c21)])]) kok45 rfl rfl (c_hist_Clone (A := fun _ => True) (a0 := a0) (Sl.all hf146) (Sl.all hf149) hp151) ?_
      rintro vr159 wd158 ⟨u152, u153, rfl, hm157, f154, f155, f156⟩
      obtain ⟨O160, hold161, hnew162, hst163⟩ := adoptE O72 (fun k => if Value.ownBlock u152 = some k then 13 else if Value.ownBlock u153 = some k then 14 else 1) hm157
      have hf164 : OwnSl 13 Rep.u 22 O160 wd158 u152 r150.Pos.Counts := RowF.adopt 13 Flat.u f154 hnew162 (fun k hk => if_pos hk)
      have hf165 : OwnSl 14 Rep.u 22 O160 wd158 u153 r150.Neg.Counts := RowF.adopt 14 Flat.u f155 hnew162 (fun k hk => (if_neg (fun (e : Value.ownBlock u152 = some k) => f156 k e hk)).trans (if_pos hk))
      refine WL.nil ?_
      refine At.dq (Stp.up hst163 rfl) ?_
      refine WD.heavy3 3 4 5 rfl rfl rfl (by kernel_rfl) ?_ ?_ ?_
      ·have hf166 := hf28.mono (imm_st hst42 rfl rfl)
       have hf167 := hf166.mono (imm_st hst51 rfl rfl)
       have hf168 := hf167.mono (imm_st hst70 rfl rfl)
       have hf169 := hf168.mono (imm_st hst74 rfl rfl)
       have hf170 := hf169.mono (imm_st hst98 rfl rfl)
       have hf171 := hf170.mono (imm_st hst163 rfl rfl)
       have hf172 := hf33.mono (imm_st hst42 rfl rfl)
       have hf173 := hf172.mono (imm_st hst51 rfl rfl)
       have hf174 := hf173.mono (imm_st hst70 rfl rfl)
       have hf175 := hf174.mono (imm_st hst74 rfl rfl)
       have hf176 := hf175.mono (imm_st hst98 rfl rfl)
       have hf177 := hf176.mono (imm_st hst163 rfl rfl)
       obtain ⟨r178, hp179, h⟩ := bnd h
       refine WL.call (vals := [Value.agg (List.toArray [vi a1.Scale, vu a1.Zero, vi a1.Pos.Offset, (Value.slice p29 m30 c31), vi a1.Neg.Offset, (Value.slice p34 m35 c36)])]) kok45 rfl rfl (c_hist_Clone (A := fun _ => True) (a0 := a1) (Sl.all hf171) (Sl.all hf177) hp179) ?_
       rintro vr187 wd186 ⟨u180, u181, rfl, hm185, f182, f183, f184⟩
       obtain ⟨O188, hold189, hnew190, hst191⟩ := adoptE O160 (fun k => if Value.ownBlock u180 = some k then 15 else if Value.ownBlock u181 = some k then 16 else 1) hm185
       have hf192 : OwnSl 15 Rep.u 22 O188 wd186 u180 r178.Pos.Counts := RowF.adopt 15 Flat.u f182 hnew190 (fun k hk => if_pos hk)
       have hf193 : OwnSl 16 Rep.u 22 O188 wd186 u181 r178.Neg.Counts := RowF.adopt 16 Flat.u f183 hnew190 (fun k hk => (if_neg (fun (e : Value.ownBlock u180 = some k) => f184 k e hk)).trans (if_pos hk))
       refine WL.nil ?_
       refine At.dq (Stp.up hst191 rfl) ?_
       refine WD.heavy2 4 5 rfl rfl (by kernel_rfl) ?_ ?_
       ·refine WL.alloc (O := O188) 17 [vi 0, vu 0, vi 0, Value.slice none 0 0, vi 0, Value.slice none 0 0] ty27 rfl rfl ?_
        intro p195 O196 wd197 hst198 hb194
        refine WL.nil ?_
        refine At.dq (Stp.up hst198 rfl) ?_
        refine WD.heavy 5 rfl (by kernel_rfl) ?_
        refine WL.alloc (O := O196) 18 [vi 0, vu 0, vi 0, Value.slice none 0 0, vi 0, Value.slice none 0 0] ty27 rfl rfl ?_
        intro p200 O201 wd202 hst203 hb199
        refine WL.nil ?_
        refine At.dq (Stp.up hst203 rfl) ?_
        have hf204 := hb194.st hst203 rfl
        obtain ⟨O205, hst206, hb207⟩ := Blk.rlb 1001 rfl hf204
        have hf208 := hb199.st hst206 rfl
        obtain ⟨O209, hst210, hb211⟩ := Blk.rlb 1002 rfl hf208
        have hf212 := hf164.st hst191 rfl rfl rfl
        have hf213 := hf212.st hst198 rfl rfl rfl
        have hf214 := hf213.st hst203 rfl rfl rfl
        have hf215 := hf214.st hst206 rfl rfl rfl
        have hf216 := hf215.st hst210 rfl rfl rfl
        obtain ⟨O217, hst218, ho219⟩ := OwnSl.rlb 1003 rfl hf216
        have hf220 := hf165.st hst191 rfl rfl rfl
        have hf221 := hf220.st hst198 rfl rfl rfl
        have hf222 := hf221.st hst203 rfl rfl rfl
        have hf223 := hf222.st hst206 rfl rfl rfl
        have hf224 := hf223.st hst210 rfl rfl rfl
        have hf225 := hf224.st hst218 rfl rfl rfl
        obtain ⟨O226, hst227, ho228⟩ := OwnSl.rlb 1004 rfl hf225
        have hf229 := hf192.st hst198 rfl rfl rfl
        have hf230 := hf229.st hst203 rfl rfl rfl
        have hf231 := hf230.st hst206 rfl rfl rfl
        have hf232 := hf231.st hst210 rfl rfl rfl
        have hf233 := hf232.st hst218 rfl rfl rfl
        have hf234 := hf233.st hst227 rfl rfl rfl
        obtain ⟨O235, hst236, ho237⟩ := OwnSl.rlb 1005 rfl hf234
        have hf238 := hf193.st hst198 rfl rfl rfl
        have hf239 := hf238.st hst203 rfl rfl rfl
        have hf240 := hf239.st hst206 rfl rfl rfl
        have hf241 := hf240.st hst210 rfl rfl rfl
        have hf242 := hf241.st hst218 rfl rfl rfl
        have hf243 := hf242.st hst227 rfl rfl rfl
        have hf244 := hf243.st hst236 rfl rfl rfl
        obtain ⟨O245, hst246, ho247⟩ := OwnSl.rlb 1006 rfl hf244
        have hf248 := hb207.st hst210 rfl
        have hf249 := hf248.st hst218 rfl
        have hf250 := hf249.st hst227 rfl
        have hf251 := hf250.st hst236 rfl
        have hf252 := hf251.st hst246 rfl
        have hf253 := hb211.st hst218 rfl
        have hf254 := hf253.st hst227 rfl
        have hf255 := hf254.st hst236 rfl
        have hf256 := hf255.st hst246 rfl
        have hf257 := ho219.st hst227 rfl rfl rfl
        have hf258 := hf257.st hst236 rfl rfl rfl
        have hf259 := hf258.st hst246 rfl rfl rfl
        have hf260 := ho228.st hst236 rfl rfl rfl
        have hf261 := hf260.st hst246 rfl rfl rfl
        have hf262 := ho237.st hst246 rfl rfl rfl
        refine WD.own (Stp.trans (Stp.up hst206 rfl) (Stp.trans (Stp.up hst210 rfl) (Stp.trans (Stp.up hst218 rfl) (Stp.trans (Stp.up hst227 rfl) (Stp.trans (Stp.up hst236 rfl) (Stp.up hst246 rfl)))))) ?_
        refine WD.perm _ [5, 4, 3, 2, 1, 0] (by kernel_rfl) ?_
        exact hJ143 (r150.Scale, r150.Zero, r150.Pos.Offset, r150.Pos.Counts, r150.Neg.Offset, r150.Neg.Counts, r178.Scale, r178.Zero, r178.Pos.Offset, r178.Pos.Counts, r178.Neg.Offset, r178.Neg.Counts, O245, p195, p200, u152, u153, u180, u181) _ _ _ ⟨h, (Stp.trans (Stp.up hst163 rfl) (Stp.trans (Stp.up hst191 rfl) (Stp.trans (Stp.up hst198 rfl) (Stp.trans (Stp.up hst203 rfl) (Stp.trans (Stp.up hst206 rfl) (Stp.trans (Stp.up hst210 rfl) (Stp.trans (Stp.up hst218 rfl) (Stp.trans (Stp.up hst227 rfl) (Stp.trans (Stp.up hst236 rfl) (Stp.up hst246 rfl)))))))))), hf252, hf256, hf259, hf261, hf262, ho247, rfl⟩ (.cons rfl (.cons rfl (.cons rfl (.cons rfl (.cons rfl (.cons rfl .nil))))))
       ·refine WL.alloc (O := O188) 19 [vi 0, vu 0, vi 0, Value.slice none 0 0, vi 0, Value.slice none 0 0] ty27 rfl rfl ?_
        intro p264 O265 wd266 hst267 hb263
        refine WL.nil ?_
        refine At.dq (Stp.up hst267 rfl) ?_
        refine WD.heavy 4 rfl (by kernel_rfl) ?_
        refine WL.alloc (O := O265) 20 [vi 0, vu 0, vi 0, Value.slice none 0 0, vi 0, Value.slice none 0 0] ty27 rfl rfl ?_
        intro p269 O270 wd271 hst272 hb268
        refine WL.nil ?_
        refine At.dq (Stp.up hst272 rfl) ?_
        obtain ⟨O273, hst274, hb275⟩ := Blk.rlb 1001 rfl hb268
        have hf276 := hb263.st hst272 rfl
        have hf277 := hf276.st hst274 rfl
        obtain ⟨O278, hst279, hb280⟩ := Blk.rlb 1002 rfl hf277
        have hf281 := hf164.st hst191 rfl rfl rfl
        have hf282 := hf281.st hst267 rfl rfl rfl
        have hf283 := hf282.st hst272 rfl rfl rfl
        have hf284 := hf283.st hst274 rfl rfl rfl
        have hf285 := hf284.st hst279 rfl rfl rfl
        obtain ⟨O286, hst287, ho288⟩ := OwnSl.rlb 1003 rfl hf285
        have hf289 := hf165.st hst191 rfl rfl rfl
        have hf290 := hf289.st hst267 rfl rfl rfl
        have hf291 := hf290.st hst272 rfl rfl rfl
        have hf292 := hf291.st hst274 rfl rfl rfl
        have hf293 := hf292.st hst279 rfl rfl rfl
        have hf294 := hf293.st hst287 rfl rfl rfl
        obtain ⟨O295, hst296, ho297⟩ := OwnSl.rlb 1004 rfl hf294
        have hf298 := hf192.st hst267 rfl rfl rfl
        have hf299 := hf298.st hst272 rfl rfl rfl
        have hf300 := hf299.st hst274 rfl rfl rfl
        have hf301 := hf300.st hst279 rfl rfl rfl
        have hf302 := hf301.st hst287 rfl rfl rfl
        have hf303 := hf302.st hst296 rfl rfl rfl
        obtain ⟨O304, hst305, ho306⟩ := OwnSl.rlb 1005 rfl hf303
        have hf307 := hf193.st hst267 rfl rfl rfl
        have hf308 := hf307.st hst272 rfl rfl rfl
        have hf309 := hf308.st hst274 rfl rfl rfl
        have hf310 := hf309.st hst279 rfl rfl rfl
        have hf311 := hf310.st hst287 rfl rfl rfl
        have hf312 := hf311.st hst296 rfl rfl rfl
        have hf313 := hf312.st hst305 rfl rfl rfl
        obtain ⟨O314, hst315, ho316⟩ := OwnSl.rlb 1006 rfl hf313
        have hf317 := hb275.st hst279 rfl
        have hf318 := hf317.st hst287 rfl
        have hf319 := hf318.st hst296 rfl
        have hf320 := hf319.st hst305 rfl
        have hf321 := hf320.st hst315 rfl
        have hf322 := hb280.st hst287 rfl
        have hf323 := hf322.st hst296 rfl
        have hf324 := hf323.st hst305 rfl
        have hf325 := hf324.st hst315 rfl
        have hf326 := ho288.st hst296 rfl rfl rfl
        have hf327 := hf326.st hst305 rfl rfl rfl
        have hf328 := hf327.st hst315 rfl rfl rfl
        have hf329 := ho297.st hst305 rfl rfl rfl
        have hf330 := hf329.st hst315 rfl rfl rfl
        have hf331 := ho306.st hst315 rfl rfl rfl
        refine WD.own (Stp.trans (Stp.up hst274 rfl) (Stp.trans (Stp.up hst279 rfl) (Stp.trans (Stp.up hst287 rfl) (Stp.trans (Stp.up hst296 rfl) (Stp.trans (Stp.up hst305 rfl) (Stp.up hst315 rfl)))))) ?_
        refine WD.perm _ [5, 4, 3, 2, 1, 0] (by kernel_rfl) ?_
        exact hJ143 (r150.Scale, r150.Zero, r150.Pos.Offset, r150.Pos.Counts, r150.Neg.Offset, r150.Neg.Counts, r178.Scale, r178.Zero, r178.Pos.Offset, r178.Pos.Counts, r178.Neg.Offset, r178.Neg.Counts, O314, p269, p264, u152, u153, u180, u181) _ _ _ ⟨h, (Stp.trans (Stp.up hst163 rfl) (Stp.trans (Stp.up hst191 rfl) (Stp.trans (Stp.up hst267 rfl) (Stp.trans (Stp.up hst272 rfl) (Stp.trans (Stp.up hst274 rfl) (Stp.trans (Stp.up hst279 rfl) (Stp.trans (Stp.up hst287 rfl) (Stp.trans (Stp.up hst296 rfl) (Stp.trans (Stp.up hst305 rfl) (Stp.up hst315 rfl)))))))))), hf321, hf325, hf328, hf330, hf331, ho316, rfl⟩ (.cons rfl (.cons rfl (.cons rfl (.cons rfl (.cons rfl (.cons rfl .nil))))))
      ·refine WL.alloc (O := O160) 21 [vi 0, vu 0, vi 0, Value.slice none 0 0, vi 0, Value.slice none 0 0] ty27 rfl rfl ?_
       intro p333 O334 wd335 hst336 hb332
       refine WL.nil ?_
       refine At.dq (Stp.up hst336 rfl) ?_
       refine WD.heavy2 3 5 rfl rfl (by kernel_rfl) ?_ ?_
       ·have hf337 := hf28.mono (imm_st hst42 rfl rfl)
        have hf338 := hf337.mono (imm_st hst51 rfl rfl)
        have hf339 := hf338.mono (imm_st hst70 rfl rfl)
        have hf340 := hf339.mono (imm_st hst74 rfl rfl)
        have hf341 := hf340.mono (imm_st hst98 rfl rfl)
        have hf342 := hf341.mono (imm_st hst163 rfl rfl)
        have hf343 := hf342.mono (imm_st hst336 rfl rfl)
        have hf344 := hf33.mono (imm_st hst42 rfl rfl)
        have hf345 := hf344.mono (imm_st hst51 rfl rfl)
        have hf346 := hf345.mono (imm_st hst70 rfl rfl)
        have hf347 := hf346.mono (imm_st hst74 rfl rfl)
        have hf348 := hf347.mono (imm_st hst98 rfl rfl)
        have hf349 := hf348.mono (imm_st hst163 rfl rfl)
        have hf350 := hf349.mono (imm_st hst336 rfl rfl)
        obtain ⟨r351, hp352, h⟩ := bnd h
        refine WL.call (vals := [Value.agg (List.toArray [vi a1.Scale, vu a1.Zero, vi a1.Pos.Offset, (Value.slice p29 m30 c31), vi a1.Neg.Offset, (Value.slice p34 m35 c36)])]) kok45 rfl rfl (c_hist_Clone (A := fun _ => True) (a0 := a1) (Sl.all hf343) (Sl.all hf350) hp352) ?_
        rintro vr360 wd359 ⟨u353, u354, rfl, hm358, f355, f356, f357⟩
        obtain ⟨O361, hold362, hnew363, hst364⟩ := adoptE O334 (fun k => if Value.ownBlock u353 = some k then 22 else if Value.ownBlock u354 = some k then 23 else 1) hm358
        have hf365 : OwnSl 22 Rep.u 22 O361 wd359 u353 r351.Pos.Counts := RowF.adopt 22 Flat.u f355 hnew363 (fun k hk => if_pos hk)
        have hf366 : OwnSl 23 Rep.u 22 O361 wd359 u354 r351.Neg.Counts := RowF.adopt 23 Flat.u f356 hnew363 (fun k hk => (if_neg (fun (e : Value.ownBlock u353 = some k) => f357 k e hk)).trans (if_pos hk))
        refine WL.nil ?_
        refine At.dq (Stp.up hst364 rfl) ?_
        refine WD.heavy 5 rfl (by kernel_rfl) ?_
        refine WL.alloc (O := O361) 24 [vi 0, vu 0, vi 0, Value.slice none 0 0, vi 0, Value.slice none 0 0] ty27 rfl rfl ?_
        intro p368 O369 wd370 hst371 hb367
        refine WL.nil ?_
        refine At.dq (Stp.up hst371 rfl) ?_
        have hf372 := hb332.st hst364 rfl
        have hf373 := hf372.st hst371 rfl
        obtain ⟨O374, hst375, hb376⟩ := Blk.rlb 1001 rfl hf373
        have hf377 := hb367.st hst375 rfl
        obtain ⟨O378, hst379, hb380⟩ := Blk.rlb 1002 rfl hf377
        have hf381 := hf164.st hst336 rfl rfl rfl
        have hf382 := hf381.st hst364 rfl rfl rfl
        have hf383 := hf382.st hst371 rfl rfl rfl
        have hf384 := hf383.st hst375 rfl rfl rfl
        have hf385 := hf384.st hst379 rfl rfl rfl
        obtain ⟨O386, hst387, ho388⟩ := OwnSl.rlb 1003 rfl hf385
        have hf389 := hf165.st hst336 rfl rfl rfl
        have hf390 := hf389.st hst364 rfl rfl rfl
        have hf391 := hf390.st hst371 rfl rfl rfl
        have hf392 := hf391.st hst375 rfl rfl rfl
        have hf393 := hf392.st hst379 rfl rfl rfl
        have hf394 := hf393.st hst387 rfl rfl rfl
        obtain ⟨O395, hst396, ho397⟩ := OwnSl.rlb 1004 rfl hf394
        have hf398 := hf365.st hst371 rfl rfl rfl
        have hf399 := hf398.st hst375 rfl rfl rfl
        have hf400 := hf399.st hst379 rfl rfl rfl
        have hf401 := hf400.st hst387 rfl rfl rfl
        have hf402 := hf401.st hst396 rfl rfl rfl
        obtain ⟨O403, hst404, ho405⟩ := OwnSl.rlb 1005 rfl hf402
        have hf406 := hf366.st hst371 rfl rfl rfl
        have hf407 := hf406.st hst375 rfl rfl rfl
        have hf408 := hf407.st hst379 rfl rfl rfl
        have hf409 := hf408.st hst387 rfl rfl rfl
        have hf410 := hf409.st hst396 rfl rfl rfl
        have hf411 := hf410.st hst404 rfl rfl rfl
        obtain ⟨O412, hst413, ho414⟩ := OwnSl.rlb 1006 rfl hf411
        have hf415 := hb376.st hst379 rfl
        have hf416 := hf415.st hst387 rfl
        have hf417 := hf416.st hst396 rfl
        have hf418 := hf417.st hst404 rfl
        have hf419 := hf418.st hst413 rfl
        have hf420 := hb380.st hst387 rfl
        have hf421 := hf420.st hst396 rfl
        have hf422 := hf421.st hst404 rfl
        have hf423 := hf422.st hst413 rfl
        have hf424 := ho388.st hst396 rfl rfl rfl
        have hf425 := hf424.st hst404 rfl rfl rfl
        have hf426 := hf425.st hst413 rfl rfl rfl
        have hf427 := ho397.st hst404 rfl rfl rfl
        have hf428 := hf427.st hst413 rfl rfl rfl
        have hf429 := ho405.st hst413 rfl rfl rfl
        refine WD.own (Stp.trans (Stp.up hst375 rfl) (Stp.trans (Stp.up hst379 rfl) (Stp.trans (Stp.up hst387 rfl) (Stp.trans (Stp.up hst396 rfl) (Stp.trans (Stp.up hst404 rfl) (Stp.up hst413 rfl)))))) ?_
        refine WD.perm _ [5, 4, 3, 2, 1, 0] (by kernel_rfl) ?_
        exact hJ143 (r150.Scale, r150.Zero, r150.Pos.Offset, r150.Pos.Counts, r150.Neg.Offset, r150.Neg.Counts, r351.Scale, r351.Zero, r351.Pos.Offset, r351.Pos.Counts, r351.Neg.Offset, r351.Neg.Counts, O412, p333, p368, u152, u153, u353, u354) _ _ _ ⟨h, (Stp.trans (Stp.up hst163 rfl) (Stp.trans (Stp.up hst336 rfl) (Stp.trans (Stp.up hst364 rfl) (Stp.trans (Stp.up hst371 rfl) (Stp.trans (Stp.up hst375 rfl) (Stp.trans (Stp.up hst379 rfl) (Stp.trans (Stp.up hst387 rfl) (Stp.trans (Stp.up hst396 rfl) (Stp.trans (Stp.up hst404 rfl) (Stp.up hst413 rfl)))))))))), hf419, hf423, hf426, hf428, hf429, ho414, rfl⟩ (.cons rfl (.cons rfl (.cons rfl (.cons rfl (.cons rfl (.cons rfl .nil))))))
       ·refine WL.alloc (O := O334) 25 [vi 0, vu 0, vi 0, Value.slice none 0 0, vi 0, Value.slice none 0 0] ty27 rfl rfl ?_
        intro p431 O432 wd433 hst434 hb430
        refine WL.nil ?_
        refine At.dq (Stp.up hst434 rfl) ?_
        refine WD.heavy 3 rfl (by kernel_rfl) ?_
        have hf435 := hf28.mono (imm_st hst42 rfl rfl)
        have hf436 := hf435.mono (imm_st hst51 rfl rfl)
        have hf437 := hf436.mono (imm_st hst70 rfl rfl)
        have hf438 := hf437.mono (imm_st hst74 rfl rfl)
        have hf439 := hf438.mono (imm_st hst98 rfl rfl)
        have hf440 := hf439.mono (imm_st hst163 rfl rfl)
        have hf441 := hf440.mono (imm_st hst336 rfl rfl)
        have hf442 := hf441.mono (imm_st hst434 rfl rfl)
        have hf443 := hf33.mono (imm_st hst42 rfl rfl)
        have hf444 := hf443.mono (imm_st hst51 rfl rfl)
        have hf445 := hf444.mono (imm_st hst70 rfl rfl)
        have hf446 := hf445.mono (imm_st hst74 rfl rfl)
        have hf447 := hf446.mono (imm_st hst98 rfl rfl)
        have hf448 := hf447.mono (imm_st hst163 rfl rfl)
        have hf449 := hf448.mono (imm_st hst336 rfl rfl)
        have hf450 := hf449.mono (imm_st hst434 rfl rfl)
        obtain ⟨r451, hp452, h⟩ := bnd h
        refine WL.call (vals := [Value.agg (List.toArray [vi a1.Scale, vu a1.Zero, vi a1.Pos.Offset, (Value.slice p29 m30 c31), vi a1.Neg.Offset, (Value.slice p34 m35 c36)])]) kok45 rfl rfl (c_hist_Clone (A := fun _ => True) (a0 := a1) (Sl.all hf442) (Sl.all hf450) hp452) ?_
        rintro vr460 wd459 ⟨u453, u454, rfl, hm458, f455, f456, f457⟩
        obtain ⟨O461, hold462, hnew463, hst464⟩ := adoptE O432 (fun k => if Value.ownBlock u453 = some k then 26 else if Value.ownBlock u454 = some k then 27 else 1) hm458
        have hf465 : OwnSl 26 Rep.u 22 O461 wd459 u453 r451.Pos.Counts := RowF.adopt 26 Flat.u f455 hnew463 (fun k hk => if_pos hk)
        have hf466 : OwnSl 27 Rep.u 22 O461 wd459 u454 r451.Neg.Counts := RowF.adopt 27 Flat.u f456 hnew463 (fun k hk => (if_neg (fun (e : Value.ownBlock u453 = some k) => f457 k e hk)).trans (if_pos hk))
        refine WL.nil ?_
        refine At.dq (Stp.up hst464 rfl) ?_
        have hf467 := hb332.st hst434 rfl
        have hf468 := hf467.st hst464 rfl
        obtain ⟨O469, hst470, hb471⟩ := Blk.rlb 1001 rfl hf468
        have hf472 := hb430.st hst464 rfl
        have hf473 := hf472.st hst470 rfl
        obtain ⟨O474, hst475, hb476⟩ := Blk.rlb 1002 rfl hf473
        have hf477 := hf164.st hst336 rfl rfl rfl
        have hf478 := hf477.st hst434 rfl rfl rfl
        have hf479 := hf478.st hst464 rfl rfl rfl
        have hf480 := hf479.st hst470 rfl rfl rfl
        have hf481 := hf480.st hst475 rfl rfl rfl
        obtain ⟨O482, hst483, ho484⟩ := OwnSl.rlb 1003 rfl hf481
        have hf485 := hf165.st hst336 rfl rfl rfl
        have hf486 := hf485.st hst434 rfl rfl rfl
        have hf487 := hf486.st hst464 rfl rfl rfl
        have hf488 := hf487.st hst470 rfl rfl rfl
        have hf489 := hf488.st hst475 rfl rfl rfl
        have hf490 := hf489.st hst483 rfl rfl rfl
        obtain ⟨O491, hst492, ho493⟩ := OwnSl.rlb 1004 rfl hf490
        have hf494 := hf465.st hst470 rfl rfl rfl
        have hf495 := hf494.st hst475 rfl rfl rfl
        have hf496 := hf495.st hst483 rfl rfl rfl
        have hf497 := hf496.st hst492 rfl rfl rfl
        obtain ⟨O498, hst499, ho500⟩ := OwnSl.rlb 1005 rfl hf497
        have hf501 := hf466.st hst470 rfl rfl rfl
        have hf502 := hf501.st hst475 rfl rfl rfl
        have hf503 := hf502.st hst483 rfl rfl rfl
        have hf504 := hf503.st hst492 rfl rfl rfl
        have hf505 := hf504.st hst499 rfl rfl rfl
        obtain ⟨O506, hst507, ho508⟩ := OwnSl.rlb 1006 rfl hf505
        have hf509 := hb471.st hst475 rfl
        have hf510 := hf509.st hst483 rfl
        have hf511 := hf510.st hst492 rfl
        have hf512 := hf511.st hst499 rfl
        have hf513 := hf512.st hst507 rfl
        have hf514 := hb476.st hst483 rfl
        have hf515 := hf514.st hst492 rfl
        have hf516 := hf515.st hst499 rfl
        have hf517 := hf516.st hst507 rfl
        have hf518 := ho484.st hst492 rfl rfl rfl
        have hf519 := hf518.st hst499 rfl rfl rfl
        have hf520 := hf519.st hst507 rfl rfl rfl
        have hf521 := ho493.st hst499 rfl rfl rfl
        have hf522 := hf521.st hst507 rfl rfl rfl
        have hf523 := ho500.st hst507 rfl rfl rfl
        refine WD.own (Stp.trans (Stp.up hst470 rfl) (Stp.trans (Stp.up hst475 rfl) (Stp.trans (Stp.up hst483 rfl) (Stp.trans (Stp.up hst492 rfl) (Stp.trans (Stp.up hst499 rfl) (Stp.up hst507 rfl)))))) ?_
        refine WD.perm _ [5, 4, 3, 2, 1, 0] (by kernel_rfl) ?_
        exact hJ143 (r150.Scale, r150.Zero, r150.Pos.Offset, r150.Pos.Counts, r150.Neg.Offset, r150.Neg.Counts, r451.Scale, r451.Zero, r451.Pos.Offset, r451.Pos.Counts, r451.Neg.Offset, r451.Neg.Counts, O506, p333, p431, u152, u153, u453, u454) _ _ _ ⟨h, (Stp.trans (Stp.up hst163 rfl) (Stp.trans (Stp.up hst336 rfl) (Stp.trans (Stp.up hst434 rfl) (Stp.trans (Stp.up hst464 rfl) (Stp.trans (Stp.up hst470 rfl) (Stp.trans (Stp.up hst475 rfl) (Stp.trans (Stp.up hst483 rfl) (Stp.trans (Stp.up hst492 rfl) (Stp.trans (Stp.up hst499 rfl) (Stp.up hst507 rfl)))))))))), hf513, hf517, hf520, hf522, hf523, ho508, rfl⟩ (.cons rfl (.cons rfl (.cons rfl (.cons rfl (.cons rfl (.cons rfl .nil))))))
      ·refine WL.alloc (O := O160) 28 [vi 0, vu 0, vi 0, Value.slice none 0 0, vi 0, Value.slice none 0 0] ty27 rfl rfl ?_
       intro p525 O526 wd527 hst528 hb524
       refine WL.nil ?_
       refine At.dq (Stp.up hst528 rfl) ?_
       refine WD.heavy2 3 4 rfl rfl (by kernel_rfl) ?_ ?_
       ·have hf529 := hf28.mono (imm_st hst42 rfl rfl)
        have hf530 := hf529.mono (imm_st hst51 rfl rfl)
        have hf531 := hf530.mono (imm_st hst70 rfl rfl)
        have hf532 := hf531.mono (imm_st hst74 rfl rfl)
        have hf533 := hf532.mono (imm_st hst98 rfl rfl)
        have hf534 := hf533.mono (imm_st hst163 rfl rfl)
        have hf535 := hf534.mono (imm_st hst528 rfl rfl)
        have hf536 := hf33.mono (imm_st hst42 rfl rfl)
        have hf537 := hf536.mono (imm_st hst51 rfl rfl)
        have hf538 := hf537.mono (imm_st hst70 rfl rfl)
        have hf539 := hf538.mono (imm_st hst74 rfl rfl)
        have hf540 := hf539.mono (imm_st hst98 rfl rfl)
        have hf541 := hf540.mono (imm_st hst163 rfl rfl)
        have hf542 := hf541.mono (imm_st hst528 rfl rfl)
        obtain ⟨r543, hp544, h⟩ := bnd h
        refine WL.call (vals := [Value.agg (List.toArray [vi a1.Scale, vu a1.Zero, vi a1.Pos.Offset, (Value.slice p29 m30 c31), vi a1.Neg.Offset, (Value.slice p34 m35 c36)])]) kok45 rfl rfl (c_hist_Clone (A := fun _ => True) (a0 := a1) (Sl.all hf535) (Sl.all hf542) hp544) ?_
        rintro vr552 wd551 ⟨u545, u546, rfl, hm550, f547, f548, f549⟩
        obtain ⟨O553, hold554, hnew555, hst556⟩ := adoptE O526 (fun k => if Value.ownBlock u545 = some k then 29 else if Value.ownBlock u546 = some k then 30 else 1) hm550
        have hf557 : OwnSl 29 Rep.u 22 O553 wd551 u545 r543.Pos.Counts := RowF.adopt 29 Flat.u f547 hnew555 (fun k hk => if_pos hk)
        have hf558 : OwnSl 30 Rep.u 22 O553 wd551 u546 r543.Neg.Counts := RowF.adopt 30 Flat.u f548 hnew555 (fun k hk => (if_neg (fun (e : Value.ownBlock u545 = some k) => f549 k e hk)).trans (if_pos hk))
        refine WL.nil ?_
        refine At.dq (Stp.up hst556 rfl) ?_
        refine WD.heavy 4 rfl (by kernel_rfl) ?_
        refine WL.alloc (O := O553) 31 [vi 0, vu 0, vi 0, Value.slice none 0 0, vi 0, Value.slice none 0 0] ty27 rfl rfl ?_
        intro p560 O561 wd562 hst563 hb559
        refine WL.nil ?_
        refine At.dq (Stp.up hst563 rfl) ?_
        obtain ⟨O564, hst565, hb566⟩ := Blk.rlb 1001 rfl hb559
        have hf567 := hb524.st hst556 rfl
        have hf568 := hf567.st hst563 rfl
        have hf569 := hf568.st hst565 rfl
        obtain ⟨O570, hst571, hb572⟩ := Blk.rlb 1002 rfl hf569
        have hf573 := hf164.st hst528 rfl rfl rfl
        have hf574 := hf573.st hst556 rfl rfl rfl
        have hf575 := hf574.st hst563 rfl rfl rfl
        have hf576 := hf575.st hst565 rfl rfl rfl
        have hf577 := hf576.st hst571 rfl rfl rfl
        obtain ⟨O578, hst579, ho580⟩ := OwnSl.rlb 1003 rfl hf577
        have hf581 := hf165.st hst528 rfl rfl rfl
        have hf582 := hf581.st hst556 rfl rfl rfl
        have hf583 := hf582.st hst563 rfl rfl rfl
        have hf584 := hf583.st hst565 rfl rfl rfl
        have hf585 := hf584.st hst571 rfl rfl rfl
        have hf586 := hf585.st hst579 rfl rfl rfl
        obtain ⟨O587, hst588, ho589⟩ := OwnSl.rlb 1004 rfl hf586
        have hf590 := hf557.st hst563 rfl rfl rfl
        have hf591 := hf590.st hst565 rfl rfl rfl
        have hf592 := hf591.st hst571 rfl rfl rfl
        have hf593 := hf592.st hst579 rfl rfl rfl
        have hf594 := hf593.st hst588 rfl rfl rfl
        obtain ⟨O595, hst596, ho597⟩ := OwnSl.rlb 1005 rfl hf594
        have hf598 := hf558.st hst563 rfl rfl rfl
        have hf599 := hf598.st hst565 rfl rfl rfl
        have hf600 := hf599.st hst571 rfl rfl rfl
        have hf601 := hf600.st hst579 rfl rfl rfl
        have hf602 := hf601.st hst588 rfl rfl rfl
        have hf603 := hf602.st hst596 rfl rfl rfl
        obtain ⟨O604, hst605, ho606⟩ := OwnSl.rlb 1006 rfl hf603
        have hf607 := hb566.st hst571 rfl
        have hf608 := hf607.st hst579 rfl
        have hf609 := hf608.st hst588 rfl
        have hf610 := hf609.st hst596 rfl
        have hf611 := hf610.st hst605 rfl
        have hf612 := hb572.st hst579 rfl
        have hf613 := hf612.st hst588 rfl
        have hf614 := hf613.st hst596 rfl
        have hf615 := hf614.st hst605 rfl
        have hf616 := ho580.st hst588 rfl rfl rfl
        have hf617 := hf616.st hst596 rfl rfl rfl
        have hf618 := hf617.st hst605 rfl rfl rfl
        have hf619 := ho589.st hst596 rfl rfl rfl
        have hf620 := hf619.st hst605 rfl rfl rfl
        have hf621 := ho597.st hst605 rfl rfl rfl
        refine WD.own (Stp.trans (Stp.up hst565 rfl) (Stp.trans (Stp.up hst571 rfl) (Stp.trans (Stp.up hst579 rfl) (Stp.trans (Stp.up hst588 rfl) (Stp.trans (Stp.up hst596 rfl) (Stp.up hst605 rfl)))))) ?_
        refine WD.perm _ [5, 4, 3, 2, 1, 0] (by kernel_rfl) ?_
        exact hJ143 (r150.Scale, r150.Zero, r150.Pos.Offset, r150.Pos.Counts, r150.Neg.Offset, r150.Neg.Counts, r543.Scale, r543.Zero, r543.Pos.Offset, r543.Pos.Counts, r543.Neg.Offset, r543.Neg.Counts, O604, p560, p525, u152, u153, u545, u546) _ _ _ ⟨h, (Stp.trans (Stp.up hst163 rfl) (Stp.trans (Stp.up hst528 rfl) (Stp.trans (Stp.up hst556 rfl) (Stp.trans (Stp.up hst563 rfl) (Stp.trans (Stp.up hst565 rfl) (Stp.trans (Stp.up hst571 rfl) (Stp.trans (Stp.up hst579 rfl) (Stp.trans (Stp.up hst588 rfl) (Stp.trans (Stp.up hst596 rfl) (Stp.up hst605 rfl)))))))))), hf611, hf615, hf618, hf620, hf621, ho606, rfl⟩ (.cons rfl (.cons rfl (.cons rfl (.cons rfl (.cons rfl (.cons rfl .nil))))))
       ·refine WL.alloc (O := O526) 32 [vi 0, vu 0, vi 0, Value.slice none 0 0, vi 0, Value.slice none 0 0] ty27 rfl rfl ?_
        intro p623 O624 wd625 hst626 hb622
        refine WL.nil ?_
        refine At.dq (Stp.up hst626 rfl) ?_
        refine WD.heavy 3 rfl (by kernel_rfl) ?_
        have hf627 := hf28.mono (imm_st hst42 rfl rfl)
        have hf628 := hf627.mono (imm_st hst51 rfl rfl)
        have hf629 := hf628.mono (imm_st hst70 rfl rfl)
        have hf630 := hf629.mono (imm_st hst74 rfl rfl)
        have hf631 := hf630.mono (imm_st hst98 rfl rfl)
        have hf632 := hf631.mono (imm_st hst163 rfl rfl)
        have hf633 := hf632.mono (imm_st hst528 rfl rfl)
        have hf634 := hf633.mono (imm_st hst626 rfl rfl)
        have hf635 := hf33.mono (imm_st hst42 rfl rfl)
        have hf636 := hf635.mono (imm_st hst51 rfl rfl)
        have hf637 := hf636.mono (imm_st hst70 rfl rfl)
        have hf638 := hf637.mono (imm_st hst74 rfl rfl)
        have hf639 := hf638.mono (imm_st hst98 rfl rfl)
        have hf640 := hf639.mono (imm_st hst163 rfl rfl)
        have hf641 := hf640.mono (imm_st hst528 rfl rfl)
        have hf642 := hf641.mono (imm_st hst626 rfl rfl)
        obtain ⟨r643, hp644, h⟩ := bnd h
        refine WL.call (vals := [Value.agg (List.toArray [vi a1.Scale, vu a1.Zero, vi a1.Pos.Offset, (Value.slice p29 m30 c31), vi a1.Neg.Offset, (Value.slice p34 m35 c36)])]) kok45 rfl rfl (c_hist_Clone (A := fun _ => True) (a0 := a1) (Sl.all hf634) (Sl.all hf642) hp644) ?_
        rintro vr652 wd651 ⟨u645, u646, rfl, hm650, f647, f648, f649⟩
        obtain ⟨O653, hold654, hnew655, hst656⟩ := adoptE O624 (fun k => if Value.ownBlock u645 = some k then 33 else if Value.ownBlock u646 = some k then 34 else 1) hm650
        have hf657 : OwnSl 33 Rep.u 22 O653 wd651 u645 r643.Pos.Counts := RowF.adopt 33 Flat.u f647 hnew655 (fun k hk => if_pos hk)
        have hf658 : OwnSl 34 Rep.u 22 O653 wd651 u646 r643.Neg.Counts := RowF.adopt 34 Flat.u f648 hnew655 (fun k hk => (if_neg (fun (e : Value.ownBlock u645 = some k) => f649 k e hk)).trans (if_pos hk))
        refine WL.nil ?_
        refine At.dq (Stp.up hst656 rfl) ?_
        have hf659 := hb622.st hst656 rfl
        obtain ⟨O660, hst661, hb662⟩ := Blk.rlb 1001 rfl hf659
        have hf663 := hb524.st hst626 rfl
        have hf664 := hf663.st hst656 rfl
        have hf665 := hf664.st hst661 rfl
        obtain ⟨O666, hst667, hb668⟩ := Blk.rlb 1002 rfl hf665
        have hf669 := hf164.st hst528 rfl rfl rfl
        have hf670 := hf669.st hst626 rfl rfl rfl
        have hf671 := hf670.st hst656 rfl rfl rfl
        have hf672 := hf671.st hst661 rfl rfl rfl
        have hf673 := hf672.st hst667 rfl rfl rfl
        obtain ⟨O674, hst675, ho676⟩ := OwnSl.rlb 1003 rfl hf673
        have hf677 := hf165.st hst528 rfl rfl rfl
        have hf678 := hf677.st hst626 rfl rfl rfl
        have hf679 := hf678.st hst656 rfl rfl rfl
        have hf680 := hf679.st hst661 rfl rfl rfl
        have hf681 := hf680.st hst667 rfl rfl rfl
        have hf682 := hf681.st hst675 rfl rfl rfl
        obtain ⟨O683, hst684, ho685⟩ := OwnSl.rlb 1004 rfl hf682
        have hf686 := hf657.st hst661 rfl rfl rfl
        have hf687 := hf686.st hst667 rfl rfl rfl
        have hf688 := hf687.st hst675 rfl rfl rfl
        have hf689 := hf688.st hst684 rfl rfl rfl
        obtain ⟨O690, hst691, ho692⟩ := OwnSl.rlb 1005 rfl hf689
        have hf693 := hf658.st hst661 rfl rfl rfl
        have hf694 := hf693.st hst667 rfl rfl rfl
        have hf695 := hf694.st hst675 rfl rfl rfl
        have hf696 := hf695.st hst684 rfl rfl rfl
        have hf697 := hf696.st hst691 rfl rfl rfl
        obtain ⟨O698, hst699, ho700⟩ := OwnSl.rlb 1006 rfl hf697
        have hf701 := hb662.st hst667 rfl
        have hf702 := hf701.st hst675 rfl
        have hf703 := hf702.st hst684 rfl
        have hf704 := hf703.st hst691 rfl
        have hf705 := hf704.st hst699 rfl
        have hf706 := hb668.st hst675 rfl
        have hf707 := hf706.st hst684 rfl
        have hf708 := hf707.st hst691 rfl
        have hf709 := hf708.st hst699 rfl
        have hf710 := ho676.st hst684 rfl rfl rfl
        have hf711 := hf710.st hst691 rfl rfl rfl
        have hf712 := hf711.st hst699 rfl rfl rfl
        have hf713 := ho685.st hst691 rfl rfl rfl
        have hf714 := hf713.st hst699 rfl rfl rfl
        have hf715 := ho692.st hst699 rfl rfl rfl
        refine WD.own (Stp.trans (Stp.up hst661 rfl) (Stp.trans (Stp.up hst667 rfl) (Stp.trans (Stp.up hst675 rfl) (Stp.trans (Stp.up hst684 rfl) (Stp.trans (Stp.up hst691 rfl) (Stp.up hst699 rfl)))))) ?_
        refine WD.perm _ [5, 4, 3, 2, 1, 0] (by kernel_rfl) ?_
        exact hJ143 (r150.Scale, r150.Zero, r150.Pos.Offset, r150.Pos.Counts, r150.Neg.Offset, r150.Neg.Counts, r643.Scale, r643.Zero, r643.Pos.Offset, r643.Pos.Counts, r643.Neg.Offset, r643.Neg.Counts, O698, p623, p525, u152, u153, u645, u646) _ _ _ ⟨h, (Stp.trans (Stp.up hst163 rfl) (Stp.trans (Stp.up hst528 rfl) (Stp.trans (Stp.up hst626 rfl) (Stp.trans (Stp.up hst656 rfl) (Stp.trans (Stp.up hst661 rfl) (Stp.trans (Stp.up hst667 rfl) (Stp.trans (Stp.up hst675 rfl) (Stp.trans (Stp.up hst684 rfl) (Stp.trans (Stp.up hst691 rfl) (Stp.up hst699 rfl)))))))))), hf705, hf709, hf712, hf714, hf715, ho700, rfl⟩ (.cons rfl (.cons rfl (.cons rfl (.cons rfl (.cons rfl (.cons rfl .nil))))))
     ·refine WL.alloc (O := O72) 35 [vi 0, vu 0, vi 0, Value.slice none 0 0, vi 0, Value.slice none 0 0] ty27 rfl rfl ?_
      intro p717 O718 wd719 hst720 hb716
      refine WL.nil ?_
      refine At.dq (Stp.up hst720 rfl) ?_
      refine WD.heavy2 1 5 rfl rfl (by kernel_rfl) ?_ ?_
      ·have hf721 := hf58.mono (imm_st hst70 rfl rfl)
       have hf722 := hf721.mono (imm_st hst74 rfl rfl)
       have hf723 := hf722.mono (imm_st hst98 rfl rfl)
       have hf724 := hf723.mono (imm_st hst720 rfl rfl)
       have hf725 := hf61.mono (imm_st hst70 rfl rfl)
       have hf726 := hf725.mono (imm_st hst74 rfl rfl)
       have hf727 := hf726.mono (imm_st hst98 rfl rfl)
       have hf728 := hf727.mono (imm_st hst720 rfl rfl)
       obtain ⟨r729, hp730, h⟩ := bnd h
       refine WL.call (vals := [Value.agg (List.toArray [vi a0.Scale, vu a0.Zero, vi a0.Pos.Offset, (Value.slice p15 m16 c17), vi a0.Neg.Offset, (Value.slice p19 m20 c21)])]) kok45 rfl rfl (c_hist_Clone (A := fun _ => True) (a0 := a0) (Sl.all hf724) (Sl.all hf728) hp730) ?_
       rintro vr738 wd737 ⟨u731, u732, rfl, hm736, f733, f734, f735⟩
       obtain ⟨O739, hold740, hnew741, hst742⟩ := adoptE O718 (fun k => if Value.ownBlock u731 = some k then 36 else if Value.ownBlock u732 = some k then 37 else 1) hm736
       have hf743 : OwnSl 36 Rep.u 22 O739 wd737 u731 r729.Pos.Counts := RowF.adopt 36 Flat.u f733 hnew741 (fun k hk => if_pos hk)
       have hf744 : OwnSl 37 Rep.u 22 O739 wd737 u732 r729.Neg.Counts := RowF.adopt 37 Flat.u f734 hnew741 (fun k hk => (if_neg (fun (e : Value.ownBlock u731 = some k) => f735 k e hk)).trans (if_pos hk))
       refine WL.nil ?_
       refine At.dq (Stp.up hst742 rfl) ?_
       refine WD.heavy2 3 5 rfl rfl (by kernel_rfl) ?_ ?_
       ·have hf745 := hf28.mono (imm_st hst42 rfl rfl)
        have hf746 := hf745.mono (imm_st hst51 rfl rfl)
        have hf747 := hf746.mono (imm_st hst70 rfl rfl)
        have hf748 := hf747.mono (imm_st hst74 rfl rfl)
        have hf749 := hf748.mono (imm_st hst98 rfl rfl)
        have hf750 := hf749.mono (imm_st hst720 rfl rfl)
        have hf751 := hf750.mono (imm_st hst742 rfl rfl)
        have hf752 := hf33.mono (imm_st hst42 rfl rfl)
        have hf753 := hf752.mono (imm_st hst51 rfl rfl)
        have hf754 := hf753.mono (imm_st hst70 rfl rfl)
        have hf755 := hf754.mono (imm_st hst74 rfl rfl)
        have hf756 := hf755.mono (imm_st hst98 rfl rfl)
        have hf757 := hf756.mono (imm_st hst720 rfl rfl)
        have hf758 := hf757.mono (imm_st hst742 rfl rfl)
        obtain ⟨r759, hp760, h⟩ := bnd h
        refine WL.call (vals := [Value.agg (List.toArray [vi a1.Scale, vu a1.Zero, vi a1.Pos.Offset, (Value.slice p29 m30 c31), vi a1.Neg.Offset, (Value.slice p34 m35 c36)])]) kok45 rfl rfl (c_hist_Clone (A := fun _ => True) (a0 := a1) (Sl.all hf751) (Sl.all hf758) hp760) ?_
        rintro vr768 wd767 ⟨u761, u762, rfl, hm766, f763, f764, f765⟩
        obtain ⟨O769, hold770, hnew771, hst772⟩ := adoptE O739 (fun k => if Value.ownBlock u761 = some k then 38 else if Value.ownBlock u762 = some k then 39 else 1) hm766
        have hf773 : OwnSl 38 Rep.u 22 O769 wd767 u761 r759.Pos.Counts := RowF.adopt 38 Flat.u f763 hnew771 (fun k hk => if_pos hk)
        have hf774 : OwnSl 39 Rep.u 22 O769 wd767 u762 r759.Neg.Counts := RowF.adopt 39 Flat.u f764 hnew771 (fun k hk => (if_neg (fun (e : Value.ownBlock u761 = some k) => f765 k e hk)).trans (if_pos hk))
        refine WL.nil ?_
        refine At.dq (Stp.up hst772 rfl) ?_
        refine WD.heavy 5 rfl (by kernel_rfl) ?_
        refine WL.alloc (O := O769) 40 [vi 0, vu 0, vi 0, Value.slice none 0 0, vi 0, Value.slice none 0 0] ty27 rfl rfl ?_
        intro p776 O777 wd778 hst779 hb775
        refine WL.nil ?_
        refine At.dq (Stp.up hst779 rfl) ?_
        have hf780 := hb716.st hst742 rfl
        have hf781 := hf780.st hst772 rfl
        have hf782 := hf781.st hst779 rfl
        obtain ⟨O783, hst784, hb785⟩ := Blk.rlb 1001 rfl hf782
        have hf786 := hb775.st hst784 rfl
        obtain ⟨O787, hst788, hb789⟩ := Blk.rlb 1002 rfl hf786
        have hf790 := hf743.st hst772 rfl rfl rfl
        have hf791 := hf790.st hst779 rfl rfl rfl
        have hf792 := hf791.st hst784 rfl rfl rfl
        have hf793 := hf792.st hst788 rfl rfl rfl
        obtain ⟨O794, hst795, ho796⟩ := OwnSl.rlb 1003 rfl hf793
        have hf797 := hf744.st hst772 rfl rfl rfl
        have hf798 := hf797.st hst779 rfl rfl rfl
        have hf799 := hf798.st hst784 rfl rfl rfl
        have hf800 := hf799.st hst788 rfl rfl rfl
        have hf801 := hf800.st hst795 rfl rfl rfl
        obtain ⟨O802, hst803, ho804⟩ := OwnSl.rlb 1004 rfl hf801
        have hf805 := hf773.st hst779 rfl rfl rfl
        have hf806 := hf805.st hst784 rfl rfl rfl
        have hf807 := hf806.st hst788 rfl rfl rfl
        have hf808 := hf807.st hst795 rfl rfl rfl
        have hf809 := hf808.st hst803 rfl rfl rfl
        obtain ⟨O810, hst811, ho812⟩ := OwnSl.rlb 1005 rfl hf809
        have hf813 := hf774.st hst779 rfl rfl rfl
        have hf814 := hf813.st hst784 rfl rfl rfl
        have hf815 := hf814.st hst788 rfl rfl rfl
        have hf816 := hf815.st hst795 rfl rfl rfl
        have hf817 := hf816.st hst803 rfl rfl rfl
        have hf818 := hf817.st hst811 rfl rfl rfl
        obtain ⟨O819, hst820, ho821⟩ := OwnSl.rlb 1006 rfl hf818
        have hf822 := hb785.st hst788 rfl
        have hf823 := hf822.st hst795 rfl
        have hf824 := hf823.st hst803 rfl
        have hf825 := hf824.st hst811 rfl
        have hf826 := hf825.st hst820 rfl
        have hf827 := hb789.st hst795 rfl
        have hf828 := hf827.st hst803 rfl
        have hf829 := hf828.st hst811 rfl
        have hf830 := hf829.st hst820 rfl
        have hf831 := ho796.st hst803 rfl rfl rfl
        have hf832 := hf831.st hst811 rfl rfl rfl
        have hf833 := hf832.st hst820 rfl rfl rfl
        have hf834 := ho804.st hst811 rfl rfl rfl
        have hf835 := hf834.st hst820 rfl rfl rfl
        have hf836 := ho812.st hst820 rfl rfl rfl
        refine WD.own (Stp.trans (Stp.up hst784 rfl) (Stp.trans (Stp.up hst788 rfl) (Stp.trans (Stp.up hst795 rfl) (Stp.trans (Stp.up hst803 rfl) (Stp.trans (Stp.up hst811 rfl) (Stp.up hst820 rfl)))))) ?_
        refine WD.perm _ [5, 4, 3, 2, 1, 0] (by kernel_rfl) ?_
        exact hJ143 (r729.Scale, r729.Zero, r729.Pos.Offset, r729.Pos.Counts, r729.Neg.Offset, r729.Neg.Counts, r759.Scale, r759.Zero, r759.Pos.Offset, r759.Pos.Counts, r759.Neg.Offset, r759.Neg.Counts, O819, p717, p776, u731, u732, u761, u762) _ _ _ ⟨h, (Stp.trans (Stp.up hst720 rfl) (Stp.trans (Stp.up hst742 rfl) (Stp.trans (Stp.up hst772 rfl) (Stp.trans (Stp.up hst779 rfl) (Stp.trans (Stp.up hst784 rfl) (Stp.trans (Stp.up hst788 rfl) (Stp.trans (Stp.up hst795 rfl) (Stp.trans (Stp.up hst803 rfl) (Stp.trans (Stp.up hst811 rfl) (Stp.up hst820 rfl)))))))))), hf826, hf830, hf833, hf835, hf836, ho821, rfl⟩ (.cons rfl (.cons rfl (.cons rfl (.cons rfl (.cons rfl (.cons rfl .nil))))))
       ·refine WL.alloc (O := O739) 41 [vi 0, vu 0, vi 0, Value.slice none 0 0, vi 0, Value.slice none 0 0] ty27 rfl rfl ?_
        intro p838 O839 wd840 hst841 hb837
        refine WL.nil ?_
        refine At.dq (Stp.up hst841 rfl) ?_
        refine WD.heavy 3 rfl (by kernel_rfl) ?_
        have hf842 := hf28.mono (imm_st hst42 rfl rfl)
        have hf843 := hf842.mono (imm_st hst51 rfl rfl)
        have hf844 := hf843.mono (imm_st hst70 rfl rfl)
        have hf845 := hf844.mono (imm_st hst74 rfl rfl)
        have hf846 := hf845.mono (imm_st hst98 rfl rfl)
        have hf847 := hf846.mono (imm_st hst720 rfl rfl)
        have hf848 := hf847.mono (imm_st hst742 rfl rfl)
        have hf849 := hf848.mono (imm_st hst841 rfl rfl)
        have hf850 := hf33.mono (imm_st hst42 rfl rfl)
        have hf851 := hf850.mono (imm_st hst51 rfl rfl)
        have hf852 := hf851.mono (imm_st hst70 rfl rfl)
        have hf853 := hf852.mono (imm_st hst74 rfl rfl)
        have hf854 := hf853.mono (imm_st hst98 rfl rfl)
        have hf855 := hf854.mono (imm_st hst720 rfl rfl)
        have hf856 := hf855.mono (imm_st hst742 rfl rfl)
        have hf857 := hf856.mono (imm_st hst841 rfl rfl)
        obtain ⟨r858, hp859, h⟩ := bnd h
        refine WL.call (vals := [Value.agg (List.toArray [vi a1.Scale, vu a1.Zero, vi a1.Pos.Offset, (Value.slice p29 m30 c31), vi a1.Neg.Offset, (Value.slice p34 m35 c36)])]) kok45 rfl rfl (c_hist_Clone (A := fun _ => True) (a0 := a1) (Sl.all hf849) (Sl.all hf857) hp859) ?_
        rintro vr867 wd866 ⟨u860, u861, rfl, hm865, f862, f863, f864⟩
        obtain ⟨O868, hold869, hnew870, hst871⟩ := adoptE O839 (fun k => if Value.ownBlock u860 = some k then 42 else if Value.ownBlock u861 = some k then 43 else 1) hm865
        have hf872 : OwnSl 42 Rep.u 22 O868 wd866 u860 r858.Pos.Counts := RowF.adopt 42 Flat.u f862 hnew870 (fun k hk => if_pos hk)
        have hf873 : OwnSl 43 Rep.u 22 O868 wd866 u861 r858.Neg.Counts := RowF.adopt 43 Flat.u f863 hnew870 (fun k hk => (if_neg (fun (e : Value.ownBlock u860 = some k) => f864 k e hk)).trans (if_pos hk))
        refine WL.nil ?_
        refine At.dq (Stp.up hst871 rfl) ?_
        have hf874 := hb716.st hst742 rfl
        have hf875 := hf874.st hst841 rfl
        have hf876 := hf875.st hst871 rfl
        obtain ⟨O877, hst878, hb879⟩ := Blk.rlb 1001 rfl hf876
        have hf880 := hb837.st hst871 rfl
        have hf881 := hf880.st hst878 rfl
        obtain ⟨O882, hst883, hb884⟩ := Blk.rlb 1002 rfl hf881
        have hf885 := hf743.st hst841 rfl rfl rfl
        have hf886 := hf885.st hst871 rfl rfl rfl
        have hf887 := hf886.st hst878 rfl rfl rfl
        have hf888 := hf887.st hst883 rfl rfl rfl
        obtain ⟨O889, hst890, ho891⟩ := OwnSl.rlb 1003 rfl hf888
        have hf892 := hf744.st hst841 rfl rfl rfl
        have hf893 := hf892.st hst871 rfl rfl rfl
        have hf894 := hf893.st hst878 rfl rfl rfl
        have hf895 := hf894.st hst883 rfl rfl rfl
        have hf896 := hf895.st hst890 rfl rfl rfl
        obtain ⟨O897, hst898, ho899⟩ := OwnSl.rlb 1004 rfl hf896
        have hf900 := hf872.st hst878 rfl rfl rfl
        have hf901 := hf900.st hst883 rfl rfl rfl
        have hf902 := hf901.st hst890 rfl rfl rfl
        have hf903 := hf902.st hst898 rfl rfl rfl
        obtain ⟨O904, hst905, ho906⟩ := OwnSl.rlb 1005 rfl hf903
        have hf907 := hf873.st hst878 rfl rfl rfl
        have hf908 := hf907.st hst883 rfl rfl rfl
        have hf909 := hf908.st hst890 rfl rfl rfl
        have hf910 := hf909.st hst898 rfl rfl rfl
        have hf911 := hf910.st hst905 rfl rfl rfl
        obtain ⟨O912, hst913, ho914⟩ := OwnSl.rlb 1006 rfl hf911
        have hf915 := hb879.st hst883 rfl
        have hf916 := hf915.st hst890 rfl
        have hf917 := hf916.st hst898 rfl
        have hf918 := hf917.st hst905 rfl
        have hf919 := hf918.st hst913 rfl
        have hf920 := hb884.st hst890 rfl
        have hf921 := hf920.st hst898 rfl
        have hf922 := hf921.st hst905 rfl
        have hf923 := hf922.st hst913 rfl
        have hf924 := ho891.st hst898 rfl rfl rfl
        have hf925 := hf924.st hst905 rfl rfl rfl
        have hf926 := hf925.st hst913 rfl rfl rfl
        have hf927 := ho899.st hst905 rfl rfl rfl
        have hf928 := hf927.st hst913 rfl rfl rfl
        have hf929 := ho906.st hst913 rfl rfl rfl
        refine WD.own (Stp.trans (Stp.up hst878 rfl) (Stp.trans (Stp.up hst883 rfl) (Stp.trans (Stp.up hst890 rfl) (Stp.trans (Stp.up hst898 rfl) (Stp.trans (Stp.up hst905 rfl) (Stp.up hst913 rfl)))))) ?_
        refine WD.perm _ [5, 4, 3, 2, 1, 0] (by kernel_rfl) ?_
        exact hJ143 (r729.Scale, r729.Zero, r729.Pos.Offset, r729.Pos.Counts, r729.Neg.Offset, r729.Neg.Counts, r858.Scale, r858.Zero, r858.Pos.Offset, r858.Pos.Counts, r858.Neg.Offset, r858.Neg.Counts, O912, p717, p838, u731, u732, u860, u861) _ _ _ ⟨h, (Stp.trans (Stp.up hst720 rfl) (Stp.trans (Stp.up hst742 rfl) (Stp.trans (Stp.up hst841 rfl) (Stp.trans (Stp.up hst871 rfl) (Stp.trans (Stp.up hst878 rfl) (Stp.trans (Stp.up hst883 rfl) (Stp.trans (Stp.up hst890 rfl) (Stp.trans (Stp.up hst898 rfl) (Stp.trans (Stp.up hst905 rfl) (Stp.up hst913 rfl)))))))))), hf919, hf923, hf926, hf928, hf929, ho914, rfl⟩ (.cons rfl (.cons rfl (.cons rfl (.cons rfl (.cons rfl (.cons rfl .nil))))))
      ·refine WL.alloc (O := O718) 44 [vi 0, vu 0, vi 0, Value.slice none 0 0, vi 0, Value.slice none 0 0] ty27 rfl rfl ?_
       intro p931 O932 wd933 hst934 hb930
       refine WL.nil ?_
       refine At.dq (Stp.up hst934 rfl) ?_
       refine WD.heavy 1 rfl (by kernel_rfl) ?_
       have hf935 := hf58.mono (imm_st hst70 rfl rfl)
       have hf936 := hf935.mono (imm_st hst74 rfl rfl)
       have hf937 := hf936.mono (imm_st hst98 rfl rfl)
       have hf938 := hf937.mono (imm_st hst720 rfl rfl)
       have hf939 := hf938.mono (imm_st hst934 rfl rfl)
       have hf940 := hf61.mono (imm_st hst70 rfl rfl)
       have hf941 := hf940.mono (imm_st hst74 rfl rfl)
       have hf942 := hf941.mono (imm_st hst98 rfl rfl)
       have hf943 := hf942.mono (imm_st hst720 rfl rfl)
       have hf944 := hf943.mono (imm_st hst934 rfl rfl)
       obtain ⟨r945, hp946, h⟩ := bnd h
       refine WL.call (vals := [Value.agg (List.toArray [vi a0.Scale, vu a0.Zero, vi a0.Pos.Offset, (Value.slice p15 m16 c17), vi a0.Neg.Offset, (Value.slice p19 m20 c21)])]) kok45 rfl rfl (c_hist_Clone (A := fun _ => True) (a0 := a0) (Sl.all hf939) (Sl.all hf944) hp946) ?_
       rintro vr954 wd953 ⟨u947, u948, rfl, hm952, f949, f950, f951⟩
       obtain ⟨O955, hold956, hnew957, hst958⟩ := adoptE O932 (fun k => if Value.ownBlock u947 = some k then 45 else if Value.ownBlock u948 = some k then 46 else 1) hm952
       have hf959 : OwnSl 45 Rep.u 22 O955 wd953 u947 r945.Pos.Counts := RowF.adopt 45 Flat.u f949 hnew957 (fun k hk => if_pos hk)
       have hf960 : OwnSl 46 Rep.u 22 O955 wd953 u948 r945.Neg.Counts := RowF.adopt 46 Flat.u f950 hnew957 (fun k hk => (if_neg (fun (e : Value.ownBlock u947 = some k) => f951 k e hk)).trans (if_pos hk))
       refine WL.nil ?_
       refine At.dq (Stp.up hst958 rfl) ?_
       refine WD.heavy 3 rfl (by kernel_rfl) ?_
       have hf961 := hf28.mono (imm_st hst42 rfl rfl)
       have hf962 := hf961.mono (imm_st hst51 rfl rfl)
       have hf963 := hf962.mono (imm_st hst70 rfl rfl)
       have hf964 := hf963.mono (imm_st hst74 rfl rfl)
       have hf965 := hf964.mono (imm_st hst98 rfl rfl)
       have hf966 := hf965.mono (imm_st hst720 rfl rfl)
       have hf967 := hf966.mono (imm_st hst934 rfl rfl)
       have hf968 := hf967.mono (imm_st hst958 rfl rfl)
       have hf969 := hf33.mono (imm_st hst42 rfl rfl)
       have hf970 := hf969.mono (imm_st hst51 rfl rfl)
       have hf971 := hf970.mono (imm_st hst70 rfl rfl)
       have hf972 := hf971.mono (imm_st hst74 rfl rfl)
       have hf973 := hf972.mono (imm_st hst98 rfl rfl)
       have hf974 := hf973.mono (imm_st hst720 rfl rfl)
       have hf975 := hf974.mono (imm_st hst934 rfl rfl)
       have hf976 := hf975.mono (imm_st hst958 rfl rfl)
       obtain ⟨r977, hp978, h⟩ := bnd h
       refine WL.call (vals := [Value.agg (List.toArray [vi a1.Scale, vu a1.Zero, vi a1.Pos.Offset, (Value.slice p29 m30 c31), vi a1.Neg.Offset, (Value.slice p34 m35 c36)])]) kok45 rfl rfl (c_hist_Clone (A := fun _ => True) (a0 := a1) (Sl.all hf968) (Sl.all hf976) hp978) ?_
       rintro vr986 wd985 ⟨u979, u980, rfl, hm984, f981, f982, f983⟩
       obtain ⟨O987, hold988, hnew989, hst990⟩ := adoptE O955 (fun k => if Value.ownBlock u979 = some k then 47 else if Value.ownBlock u980 = some k then 48 else 1) hm984
       have hf991 : OwnSl 47 Rep.u 22 O987 wd985 u979 r977.Pos.Counts := RowF.adopt 47 Flat.u f981 hnew989 (fun k hk => if_pos hk)
       have hf992 : OwnSl 48 Rep.u 22 O987 wd985 u980 r977.Neg.Counts := RowF.adopt 48 Flat.u f982 hnew989 (fun k hk => (if_neg (fun (e : Value.ownBlock u979 = some k) => f983 k e hk)).trans (if_pos hk))
       refine WL.nil ?_
       refine At.dq (Stp.up hst990 rfl) ?_
       have hf993 := hb716.st hst934 rfl
       have hf994 := hf993.st hst958 rfl
       have hf995 := hf994.st hst990 rfl
       obtain ⟨O996, hst997, hb998⟩ := Blk.rlb 1001 rfl hf995
       have hf999 := hb930.st hst958 rfl
       have hf1000 := hf999.st hst990 rfl
       have hf1001 := hf1000.st hst997 rfl
       obtain ⟨O1002, hst1003, hb1004⟩ := Blk.rlb 1002 rfl hf1001
       have hf1005 := hf959.st hst990 rfl rfl rfl
       have hf1006 := hf1005.st hst997 rfl rfl rfl
       have hf1007 := hf1006.st hst1003 rfl rfl rfl
       obtain ⟨O1008, hst1009, ho1010⟩ := OwnSl.rlb 1003 rfl hf1007
       have hf1011 := hf960.st hst990 rfl rfl rfl
       have hf1012 := hf1011.st hst997 rfl rfl rfl
       have hf1013 := hf1012.st hst1003 rfl rfl rfl
       have hf1014 := hf1013.st hst1009 rfl rfl rfl
       obtain ⟨O1015, hst1016, ho1017⟩ := OwnSl.rlb 1004 rfl hf1014
       have hf1018 := hf991.st hst997 rfl rfl rfl
       have hf1019 := hf1018.st hst1003 rfl rfl rfl
       have hf1020 := hf1019.st hst1009 rfl rfl rfl
       have hf1021 := hf1020.st hst1016 rfl rfl rfl
       obtain ⟨O1022, hst1023, ho1024⟩ := OwnSl.rlb 1005 rfl hf1021
       have hf1025 := hf992.st hst997 rfl rfl rfl
       have hf1026 := hf1025.st hst1003 rfl rfl rfl
       have hf1027 := hf1026.st hst1009 rfl rfl rfl
       have hf1028 := hf1027.st hst1016 rfl rfl rfl
       have hf1029 := hf1028.st hst1023 rfl rfl rfl
       obtain ⟨O1030, hst1031, ho1032⟩ := OwnSl.rlb 1006 rfl hf1029
       have hf1033 := hb998.st hst1003 rfl
       have hf1034 := hf1033.st hst1009 rfl
       have hf1035 := hf1034.st hst1016 rfl
       have hf1036 := hf1035.st hst1023 rfl
       have hf1037 := hf1036.st hst1031 rfl
       have hf1038 := hb1004.st hst1009 rfl
       have hf1039 := hf1038.st hst1016 rfl
       have hf1040 := hf1039.st hst1023 rfl
       have hf1041 := hf1040.st hst1031 rfl
       have hf1042 := ho1010.st hst1016 rfl rfl rfl
       have hf1043 := hf1042.st hst1023 rfl rfl rfl
       have hf1044 := hf1043.st hst1031 rfl rfl rfl
       have hf1045 := ho1017.st hst1023 rfl rfl rfl
       have hf1046 := hf1045.st hst1031 rfl rfl rfl
       have hf1047 := ho1024.st hst1031 rfl rfl rfl
       refine WD.own (Stp.trans (Stp.up hst997 rfl) (Stp.trans (Stp.up hst1003 rfl) (Stp.trans (Stp.up hst1009 rfl) (Stp.trans (Stp.up hst1016 rfl) (Stp.trans (Stp.up hst1023 rfl) (Stp.up hst1031 rfl)))))) ?_
       refine WD.perm _ [5, 4, 3, 2, 1, 0] (by kernel_rfl) ?_
       exact hJ143 (r945.Scale, r945.Zero, r945.Pos.Offset, r945.Pos.Counts, r945.Neg.Offset, r945.Neg.Counts, r977.Scale, r977.Zero, r977.Pos.Offset, r977.Pos.Counts, r977.Neg.Offset, r977.Neg.Counts, O1030, p717, p931, u947, u948, u979, u980) _ _ _ ⟨h, (Stp.trans (Stp.up hst720 rfl) (Stp.trans (Stp.up hst934 rfl) (Stp.trans (Stp.up hst958 rfl) (Stp.trans (Stp.up hst990 rfl) (Stp.trans (Stp.up hst997 rfl) (Stp.trans (Stp.up hst1003 rfl) (Stp.trans (Stp.up hst1009 rfl) (Stp.trans (Stp.up hst1016 rfl) (Stp.trans (Stp.up hst1023 rfl) (Stp.up hst1031 rfl)))))))))), hf1037, hf1041, hf1044, hf1046, hf1047, ho1032, rfl⟩ (.cons rfl (.cons rfl (.cons rfl (.cons rfl (.cons rfl (.cons rfl .nil))))))
     ·refine WL.alloc (O := O72) 49 [vi 0, vu 0, vi 0, Value.slice none 0 0, vi 0, Value.slice none 0 0] ty27 rfl rfl ?_
      intro p1049 O1050 wd1051 hst1052 hb1048
      refine WL.nil ?_
      refine At.dq (Stp.up hst1052 rfl) ?_
      refine WD.heavy2 1 4 rfl rfl (by kernel_rfl) ?_ ?_
      ·have hf1053 := hf58.mono (imm_st hst70 rfl rfl)
       have hf1054 := hf1053.mono (imm_st hst74 rfl rfl)
       have hf1055 := hf1054.mono (imm_st hst98 rfl rfl)
       have hf1056 := hf1055.mono (imm_st hst1052 rfl rfl)
       have hf1057 := hf61.mono (imm_st hst70 rfl rfl)
       have hf1058 := hf1057.mono (imm_st hst74 rfl rfl)
       have hf1059 := hf1058.mono (imm_st hst98 rfl rfl)
       have hf1060 := hf1059.mono (imm_st hst1052 rfl rfl)
       obtain ⟨r1061, hp1062, h⟩ := bnd h
       refine WL.call (vals := [Value.agg (List.toArray [vi a0.Scale, vu a0.Zero, vi a0.Pos.Offset, (Value.slice p15 m16 c17), vi a0.Neg.Offset, (Value.slice p19 m20 c21)])]) kok45 rfl rfl (c_hist_Clone (A := fun _ => True) (a0 := a0) (Sl.all hf1056) (Sl.all hf1060) hp1062) ?_
       rintro vr1070 wd1069 ⟨u1063, u1064, rfl, hm1068, f1065, f1066, f1067⟩
       obtain ⟨O1071, hold1072, hnew1073, hst1074⟩ := adoptE O1050 (fun k => if Value.ownBlock u1063 = some k then 50 else if Value.ownBlock u1064 = some k then 51 else 1) hm1068
       have hf1075 : OwnSl 50 Rep.u 22 O1071 wd1069 u1063 r1061.Pos.Counts := RowF.adopt 50 Flat.u f1065 hnew1073 (fun k hk => if_pos hk)
       have hf1076 : OwnSl 51 Rep.u 22 O1071 wd1069 u1064 r1061.Neg.Counts := RowF.adopt 51 Flat.u f1066 hnew1073 (fun k hk => (if_neg (fun (e : Value.ownBlock u1063 = some k) => f1067 k e hk)).trans (if_pos hk))
       refine WL.nil ?_
       refine At.dq (Stp.up hst1074 rfl) ?_
       refine WD.heavy2 3 4 rfl rfl (by kernel_rfl) ?_ ?_
       ·have hf1077 := hf28.mono (imm_st hst42 rfl rfl)
        have hf1078 := hf1077.mono (imm_st hst51 rfl rfl)
        have hf1079 := hf1078.mono (imm_st hst70 rfl rfl)
        have hf1080 := hf1079.mono (imm_st hst74 rfl rfl)
        have hf1081 := hf1080.mono (imm_st hst98 rfl rfl)
        have hf1082 := hf1081.mono (imm_st hst1052 rfl rfl)
        have hf1083 := hf1082.mono (imm_st hst1074 rfl rfl)
        have hf1084 := hf33.mono (imm_st hst42 rfl rfl)
        have hf1085 := hf1084.mono (imm_st hst51 rfl rfl)
        have hf1086 := hf1085.mono (imm_st hst70 rfl rfl)
        have hf1087 := hf1086.mono (imm_st hst74 rfl rfl)
        have hf1088 := hf1087.mono (imm_st hst98 rfl rfl)
        have hf1089 := hf1088.mono (imm_st hst1052 rfl rfl)
        have hf1090 := hf1089.mono (imm_st hst1074 rfl rfl)
        obtain ⟨r1091, hp1092, h⟩ := bnd h
        refine WL.call (vals := [Value.agg (List.toArray [vi a1.Scale, vu a1.Zero, vi a1.Pos.Offset, (Value.slice p29 m30 c31), vi a1.Neg.Offset, (Value.slice p34 m35 c36)])]) kok45 rfl rfl (c_hist_Clone (A := fun _ => True) (a0 := a1) (Sl.all hf1083) (Sl.all hf1090) hp1092) ?_
        rintro vr1100 wd1099 ⟨u1093, u1094, rfl, hm1098, f1095, f1096, f1097⟩
        obtain ⟨O1101, hold1102, hnew1103, hst1104⟩ := adoptE O1071 (fun k => if Value.ownBlock u1093 = some k then 52 else if Value.ownBlock u1094 = some k then 53 else 1) hm1098
        have hf1105 : OwnSl 52 Rep.u 22 O1101 wd1099 u1093 r1091.Pos.Counts := RowF.adopt 52 Flat.u f1095 hnew1103 (fun k hk => if_pos hk)
        have hf1106 : OwnSl 53 Rep.u 22 O1101 wd1099 u1094 r1091.Neg.Counts := RowF.adopt 53 Flat.u f1096 hnew1103 (fun k hk => (if_neg (fun (e : Value.ownBlock u1093 = some k) => f1097 k e hk)).trans (if_pos hk))
        refine WL.nil ?_
        refine At.dq (Stp.up hst1104 rfl) ?_
        refine WD.heavy 4 rfl (by kernel_rfl) ?_
        refine WL.alloc (O := O1101) 54 [vi 0, vu 0, vi 0, Value.slice none 0 0, vi 0, Value.slice none 0 0] ty27 rfl rfl ?_
        intro p1108 O1109 wd1110 hst1111 hb1107
        refine WL.nil ?_
        refine At.dq (Stp.up hst1111 rfl) ?_
        obtain ⟨O1112, hst1113, hb1114⟩ := Blk.rlb 1001 rfl hb1107
        have hf1115 := hb1048.st hst1074 rfl
        have hf1116 := hf1115.st hst1104 rfl
        have hf1117 := hf1116.st hst1111 rfl
        have hf1118 := hf1117.st hst1113 rfl
        obtain ⟨O1119, hst1120, hb1121⟩ := Blk.rlb 1002 rfl hf1118
        have hf1122 := hf1075.st hst1104 rfl rfl rfl
        have hf1123 := hf1122.st hst1111 rfl rfl rfl
        have hf1124 := hf1123.st hst1113 rfl rfl rfl
        have hf1125 := hf1124.st hst1120 rfl rfl rfl
        obtain ⟨O1126, hst1127, ho1128⟩ := OwnSl.rlb 1003 rfl hf1125
        have hf1129 := hf1076.st hst1104 rfl rfl rfl
        have hf1130 := hf1129.st hst1111 rfl rfl rfl
        have hf1131 := hf1130.st hst1113 rfl rfl rfl
        have hf1132 := hf1131.st hst1120 rfl rfl rfl
        have hf1133 := hf1132.st hst1127 rfl rfl rfl
        obtain ⟨O1134, hst1135, ho1136⟩ := OwnSl.rlb 1004 rfl hf1133
        have hf1137 := hf1105.st hst1111 rfl rfl rfl
        have hf1138 := hf1137.st hst1113 rfl rfl rfl
        have hf1139 := hf1138.st hst1120 rfl rfl rfl
        have hf1140 := hf1139.st hst1127 rfl rfl rfl
        have hf1141 := hf1140.st hst1135 rfl rfl rfl
        obtain ⟨O1142, hst1143, ho1144⟩ := OwnSl.rlb 1005 rfl hf1141
        have hf1145 := hf1106.st hst1111 rfl rfl rfl
        have hf1146 := hf1145.st hst1113 rfl rfl rfl
        have hf1147 := hf1146.st hst1120 rfl rfl rfl
        have hf1148 := hf1147.st hst1127 rfl rfl rfl
        have hf1149 := hf1148.st hst1135 rfl rfl rfl
        have hf1150 := hf1149.st hst1143 rfl rfl rfl
        obtain ⟨O1151, hst1152, ho1153⟩ := OwnSl.rlb 1006 rfl hf1150
        have hf1154 := hb1114.st hst1120 rfl
        have hf1155 := hf1154.st hst1127 rfl
        have hf1156 := hf1155.st hst1135 rfl
        have hf1157 := hf1156.st hst1143 rfl
        have hf1158 := hf1157.st hst1152 rfl
        have hf1159 := hb1121.st hst1127 rfl
        have hf1160 := hf1159.st hst1135 rfl
        have hf1161 := hf1160.st hst1143 rfl
        have hf1162 := hf1161.st hst1152 rfl
        have hf1163 := ho1128.st hst1135 rfl rfl rfl
        have hf1164 := hf1163.st hst1143 rfl rfl rfl
        have hf1165 := hf1164.st hst1152 rfl rfl rfl
        have hf1166 := ho1136.st hst1143 rfl rfl rfl
        have hf1167 := hf1166.st hst1152 rfl rfl rfl
        have hf1168 := ho1144.st hst1152 rfl rfl rfl
        refine WD.own (Stp.trans (Stp.up hst1113 rfl) (Stp.trans (Stp.up hst1120 rfl) (Stp.trans (Stp.up hst1127 rfl) (Stp.trans (Stp.up hst1135 rfl) (Stp.trans (Stp.up hst1143 rfl) (Stp.up hst1152 rfl)))))) ?_
        refine WD.perm _ [5, 4, 3, 2, 1, 0] (by kernel_rfl) ?_
        exact hJ143 (r1061.Scale, r1061.Zero, r1061.Pos.Offset, r1061.Pos.Counts, r1061.Neg.Offset, r1061.Neg.Counts, r1091.Scale, r1091.Zero, r1091.Pos.Offset, r1091.Pos.Counts, r1091.Neg.Offset, r1091.Neg.Counts, O1151, p1108, p1049, u1063, u1064, u1093, u1094) _ _ _ ⟨h, (Stp.trans (Stp.up hst1052 rfl) (Stp.trans (Stp.up hst1074 rfl) (Stp.trans (Stp.up hst1104 rfl) (Stp.trans (Stp.up hst1111 rfl) (Stp.trans (Stp.up hst1113 rfl) (Stp.trans (Stp.up hst1120 rfl) (Stp.trans (Stp.up hst1127 rfl) (Stp.trans (Stp.up hst1135 rfl) (Stp.trans (Stp.up hst1143 rfl) (Stp.up hst1152 rfl)))))))))), hf1158, hf1162, hf1165, hf1167, hf1168, ho1153, rfl⟩ (.cons rfl (.cons rfl (.cons rfl (.cons rfl (.cons rfl (.cons rfl .nil))))))
       ·refine WL.alloc (O := O1071) 55 [vi 0, vu 0, vi 0, Value.slice none 0 0, vi 0, Value.slice none 0 0] ty27 rfl rfl ?_
        intro p1170 O1171 wd1172 hst1173 hb1169
        refine WL.nil ?_
        refine At.dq (Stp.up hst1173 rfl) ?_
        refine WD.heavy 3 rfl (by kernel_rfl) ?_
        have hf1174 := hf28.mono (imm_st hst42 rfl rfl)
        have hf1175 := hf1174.mono (imm_st hst51 rfl rfl)
        have hf1176 := hf1175.mono (imm_st hst70 rfl rfl)
        have hf1177 := hf1176.mono (imm_st hst74 rfl rfl)
        have hf1178 := hf1177.mono (imm_st hst98 rfl rfl)
        have hf1179 := hf1178.mono (imm_st hst1052 rfl rfl)
        have hf1180 := hf1179.mono (imm_st hst1074 rfl rfl)
        have hf1181 := hf1180.mono (imm_st hst1173 rfl rfl)
        have hf1182 := hf33.mono (imm_st hst42 rfl rfl)
        have hf1183 := hf1182.mono (imm_st hst51 rfl rfl)
        have hf1184 := hf1183.mono (imm_st hst70 rfl rfl)
        have hf1185 := hf1184.mono (imm_st hst74 rfl rfl)
        have hf1186 := hf1185.mono (imm_st hst98 rfl rfl)
        have hf1187 := hf1186.mono (imm_st hst1052 rfl rfl)
        have hf1188 := hf1187.mono (imm_st hst1074 rfl rfl)
        have hf1189 := hf1188.mono (imm_st hst1173 rfl rfl)
        obtain ⟨r1190, hp1191, h⟩ := bnd h
        refine WL.call (vals := [Value.agg (List.toArray [vi a1.Scale, vu a1.Zero, vi a1.Pos.Offset, (Value.slice p29 m30 c31), vi a1.Neg.Offset, (Value.slice p34 m35 c36)])]) kok45 rfl rfl (c_hist_Clone (A := fun _ => True) (a0 := a1) (Sl.all hf1181) (Sl.all hf1189) hp1191) ?_
        rintro vr1199 wd1198 ⟨u1192, u1193, rfl, hm1197, f1194, f1195, f1196⟩
        obtain ⟨O1200, hold1201, hnew1202, hst1203⟩ := adoptE O1171 (fun k => if Value.ownBlock u1192 = some k then 56 else if Value.ownBlock u1193 = some k then 57 else 1) hm1197
        have hf1204 : OwnSl 56 Rep.u 22 O1200 wd1198 u1192 r1190.Pos.Counts := RowF.adopt 56 Flat.u f1194 hnew1202 (fun k hk => if_pos hk)
        have hf1205 : OwnSl 57 Rep.u 22 O1200 wd1198 u1193 r1190.Neg.Counts := RowF.adopt 57 Flat.u f1195 hnew1202 (fun k hk => (if_neg (fun (e : Value.ownBlock u1192 = some k) => f1196 k e hk)).trans (if_pos hk))
        refine WL.nil ?_
        refine At.dq (Stp.up hst1203 rfl) ?_
        have hf1206 := hb1169.st hst1203 rfl
        obtain ⟨O1207, hst1208, hb1209⟩ := Blk.rlb 1001 rfl hf1206
        have hf1210 := hb1048.st hst1074 rfl
        have hf1211 := hf1210.st hst1173 rfl
        have hf1212 := hf1211.st hst1203 rfl
        have hf1213 := hf1212.st hst1208 rfl
        obtain ⟨O1214, hst1215, hb1216⟩ := Blk.rlb 1002 rfl hf1213
        have hf1217 := hf1075.st hst1173 rfl rfl rfl
        have hf1218 := hf1217.st hst1203 rfl rfl rfl
        have hf1219 := hf1218.st hst1208 rfl rfl rfl
        have hf1220 := hf1219.st hst1215 rfl rfl rfl
        obtain ⟨O1221, hst1222, ho1223⟩ := OwnSl.rlb 1003 rfl hf1220
        have hf1224 := hf1076.st hst1173 rfl rfl rfl
        have hf1225 := hf1224.st hst1203 rfl rfl rfl
        have hf1226 := hf1225.st hst1208 rfl rfl rfl
        have hf1227 := hf1226.st hst1215 rfl rfl rfl
        have hf1228 := hf1227.st hst1222 rfl rfl rfl
        obtain ⟨O1229, hst1230, ho1231⟩ := OwnSl.rlb 1004 rfl hf1228
        have hf1232 := hf1204.st hst1208 rfl rfl rfl
        have hf1233 := hf1232.st hst1215 rfl rfl rfl
        have hf1234 := hf1233.st hst1222 rfl rfl rfl
        have hf1235 := hf1234.st hst1230 rfl rfl rfl
        obtain ⟨O1236, hst1237, ho1238⟩ := OwnSl.rlb 1005 rfl hf1235
        have hf1239 := hf1205.st hst1208 rfl rfl rfl
        have hf1240 := hf1239.st hst1215 rfl rfl rfl
        have hf1241 := hf1240.st hst1222 rfl rfl rfl
        have hf1242 := hf1241.st hst1230 rfl rfl rfl
        have hf1243 := hf1242.st hst1237 rfl rfl rfl
        obtain ⟨O1244, hst1245, ho1246⟩ := OwnSl.rlb 1006 rfl hf1243
        have hf1247 := hb1209.st hst1215 rfl
        have hf1248 := hf1247.st hst1222 rfl
        have hf1249 := hf1248.st hst1230 rfl
        have hf1250 := hf1249.st hst1237 rfl
        have hf1251 := hf1250.st hst1245 rfl
        have hf1252 := hb1216.st hst1222 rfl
        have hf1253 := hf1252.st hst1230 rfl
        have hf1254 := hf1253.st hst1237 rfl
        have hf1255 := hf1254.st hst1245 rfl
        have hf1256 := ho1223.st hst1230 rfl rfl rfl
        have hf1257 := hf1256.st hst1237 rfl rfl rfl
        have hf1258 := hf1257.st hst1245 rfl rfl rfl
        have hf1259 := ho1231.st hst1237 rfl rfl rfl
        have hf1260 := hf1259.st hst1245 rfl rfl rfl
        have hf1261 := ho1238.st hst1245 rfl rfl rfl
        refine WD.own (Stp.trans (Stp.up hst1208 rfl) (Stp.trans (Stp.up hst1215 rfl) (Stp.trans (Stp.up hst1222 rfl) (Stp.trans (Stp.up hst1230 rfl) (Stp.trans (Stp.up hst1237 rfl) (Stp.up hst1245 rfl)))))) ?_
        refine WD.perm _ [5, 4, 3, 2, 1, 0] (by kernel_rfl) ?_
        exact hJ143 (r1061.Scale, r1061.Zero, r1061.Pos.Offset, r1061.Pos.Counts, r1061.Neg.Offset, r1061.Neg.Counts, r1190.Scale, r1190.Zero, r1190.Pos.Offset, r1190.Pos.Counts, r1190.Neg.Offset, r1190.Neg.Counts, O1244, p1170, p1049, u1063, u1064, u1192, u1193) _ _ _ ⟨h, (Stp.trans (Stp.up hst1052 rfl) (Stp.trans (Stp.up hst1074 rfl) (Stp.trans (Stp.up hst1173 rfl) (Stp.trans (Stp.up hst1203 rfl) (Stp.trans (Stp.up hst1208 rfl) (Stp.trans (Stp.up hst1215 rfl) (Stp.trans (Stp.up hst1222 rfl) (Stp.trans (Stp.up hst1230 rfl) (Stp.trans (Stp.up hst1237 rfl) (Stp.up hst1245 rfl)))))))))), hf1251, hf1255, hf1258, hf1260, hf1261, ho1246, rfl⟩ (.cons rfl (.cons rfl (.cons rfl (.cons rfl (.cons rfl (.cons rfl .nil))))))
      ·refine WL.alloc (O := O1050) 58 [vi 0, vu 0, vi 0, Value.slice none 0 0, vi 0, Value.slice none 0 0] ty27 rfl rfl ?_
       intro p1263 O1264 wd1265 hst1266 hb1262
       refine WL.nil ?_
       refine At.dq (Stp.up hst1266 rfl) ?_
       refine WD.heavy 1 rfl (by kernel_rfl) ?_
       have hf1267 := hf58.mono (imm_st hst70 rfl rfl)
       have hf1268 := hf1267.mono (imm_st hst74 rfl rfl)
       have hf1269 := hf1268.mono (imm_st hst98 rfl rfl)
       have hf1270 := hf1269.mono (imm_st hst1052 rfl rfl)
       have hf1271 := hf1270.mono (imm_st hst1266 rfl rfl)
       have hf1272 := hf61.mono (imm_st hst70 rfl rfl)
       have hf1273 := hf1272.mono (imm_st hst74 rfl rfl)
       have hf1274 := hf1273.mono (imm_st hst98 rfl rfl)
       have hf1275 := hf1274.mono (imm_st hst1052 rfl rfl)
       have hf1276 := hf1275.mono (imm_st hst1266 rfl rfl)
       obtain ⟨r1277, hp1278, h⟩ := bnd h
       refine WL.call (vals := [Value.agg (List.toArray [vi a0.Scale, vu a0.Zero, vi a0.Pos.Offset, (Value.slice p15 m16 c17), vi a0.Neg.Offset, (Value.slice p19 m20 c21)])]) kok45 rfl rfl (c_hist_Clone (A := fun _ => True) (a0 := a0) (Sl.all hf1271) (Sl.all hf1276) hp1278) ?_
       rintro vr1286 wd1285 ⟨u1279, u1280, rfl, hm1284, f1281, f1282, f1283⟩
       obtain ⟨O1287, hold1288, hnew1289, hst1290⟩ := adoptE O1264 (fun k => if Value.ownBlock u1279 = some k then 59 else if Value.ownBlock u1280 = some k then 60 else 1) hm1284
       have hf1291 : OwnSl 59 Rep.u 22 O1287 wd1285 u1279 r1277.Pos.Counts := RowF.adopt 59 Flat.u f1281 hnew1289 (fun k hk => if_pos hk)
       have hf1292 : OwnSl 60 Rep.u 22 O1287 wd1285 u1280 r1277.Neg.Counts := RowF.adopt 60 Flat.u f1282 hnew1289 (fun k hk => (if_neg (fun (e : Value.ownBlock u1279 = some k) => f1283 k e hk)).trans (if_pos hk))
       refine WL.nil ?_
       refine At.dq (Stp.up hst1290 rfl) ?_
       refine WD.heavy 3 rfl (by kernel_rfl) ?_
       have hf1293 := hf28.mono (imm_st hst42 rfl rfl)
       have hf1294 := hf1293.mono (imm_st hst51 rfl rfl)
       have hf1295 := hf1294.mono (imm_st hst70 rfl rfl)
       have hf1296 := hf1295.mono (imm_st hst74 rfl rfl)
       have hf1297 := hf1296.mono (imm_st hst98 rfl rfl)
       have hf1298 := hf1297.mono (imm_st hst1052 rfl rfl)
       have hf1299 := hf1298.mono (imm_st hst1266 rfl rfl)
       have hf1300 := hf1299.mono (imm_st hst1290 rfl rfl)
       have hf1301 := hf33.mono (imm_st hst42 rfl rfl)
       have hf1302 := hf1301.mono (imm_st hst51 rfl rfl)
       have hf1303 := hf1302.mono (imm_st hst70 rfl rfl)
       have hf1304 := hf1303.mono (imm_st hst74 rfl rfl)
       have hf1305 := hf1304.mono (imm_st hst98 rfl rfl)
       have hf1306 := hf1305.mono (imm_st hst1052 rfl rfl)
       have hf1307 := hf1306.mono (imm_st hst1266 rfl rfl)
       have hf1308 := hf1307.mono (imm_st hst1290 rfl rfl)
       obtain ⟨r1309, hp1310, h⟩ := bnd h
       refine WL.call (vals := [Value.agg (List.toArray [vi a1.Scale, vu a1.Zero, vi a1.Pos.Offset, (Value.slice p29 m30 c31), vi a1.Neg.Offset, (Value.slice p34 m35 c36)])]) kok45 rfl rfl (c_hist_Clone (A := fun _ => True) (a0 := a1) (Sl.all hf1300) (Sl.all hf1308) hp1310) ?_
       rintro vr1318 wd1317 ⟨u1311, u1312, rfl, hm1316, f1313, f1314, f1315⟩
       obtain ⟨O1319, hold1320, hnew1321, hst1322⟩ := adoptE O1287 (fun k => if Value.ownBlock u1311 = some k then 61 else if Value.ownBlock u1312 = some k then 62 else 1) hm1316
       have hf1323 : OwnSl 61 Rep.u 22 O1319 wd1317 u1311 r1309.Pos.Counts := RowF.adopt 61 Flat.u f1313 hnew1321 (fun k hk => if_pos hk)
       have hf1324 : OwnSl 62 Rep.u 22 O1319 wd1317 u1312 r1309.Neg.Counts := RowF.adopt 62 Flat.u f1314 hnew1321 (fun k hk => (if_neg (fun (e : Value.ownBlock u1311 = some k) => f1315 k e hk)).trans (if_pos hk))
       refine WL.nil ?_
       refine At.dq (Stp.up hst1322 rfl) ?_
       have hf1325 := hb1262.st hst1290 rfl
       have hf1326 := hf1325.st hst1322 rfl
       obtain ⟨O1327, hst1328, hb1329⟩ := Blk.rlb 1001 rfl hf1326
       have hf1330 := hb1048.st hst1266 rfl
       have hf1331 := hf1330.st hst1290 rfl
       have hf1332 := hf1331.st hst1322 rfl
       have hf1333 := hf1332.st hst1328 rfl
       obtain ⟨O1334, hst1335, hb1336⟩ := Blk.rlb 1002 rfl hf1333
       have hf1337 := hf1291.st hst1322 rfl rfl rfl
       have hf1338 := hf1337.st hst1328 rfl rfl rfl
       have hf1339 := hf1338.st hst1335 rfl rfl rfl
       obtain ⟨O1340, hst1341, ho1342⟩ := OwnSl.rlb 1003 rfl hf1339
       have hf1343 := hf1292.st hst1322 rfl rfl rfl
       have hf1344 := hf1343.st hst1328 rfl rfl rfl
       have hf1345 := hf1344.st hst1335 rfl rfl rfl
       have hf1346 := hf1345.st hst1341 rfl rfl rfl
       obtain ⟨O1347, hst1348, ho1349⟩ := OwnSl.rlb 1004 rfl hf1346
       have hf1350 := hf1323.st hst1328 rfl rfl rfl
       have hf1351 := hf1350.st hst1335 rfl rfl rfl
       have hf1352 := hf1351.st hst1341 rfl rfl rfl
       have hf1353 := hf1352.st hst1348 rfl rfl rfl
       obtain ⟨O1354, hst1355, ho1356⟩ := OwnSl.rlb 1005 rfl hf1353
       have hf1357 := hf1324.st hst1328 rfl rfl rfl
       have hf1358 := hf1357.st hst1335 rfl rfl rfl
       have hf1359 := hf1358.st hst1341 rfl rfl rfl
       have hf1360 := hf1359.st hst1348 rfl rfl rfl
       have hf1361 := hf1360.st hst1355 rfl rfl rfl
       obtain ⟨O1362, hst1363, ho1364⟩ := OwnSl.rlb 1006 rfl hf1361
       have hf1365 := hb1329.st hst1335 rfl
       have hf1366 := hf1365.st hst1341 rfl
       have hf1367 := hf1366.st hst1348 rfl
       have hf1368 := hf1367.st hst1355 rfl
       have hf1369 := hf1368.st hst1363 rfl
       have hf1370 := hb1336.st hst1341 rfl
       have hf1371 := hf1370.st hst1348 rfl
       have hf1372 := hf1371.st hst1355 rfl
       have hf1373 := hf1372.st hst1363 rfl
       have hf1374 := ho1342.st hst1348 rfl rfl rfl
       have hf1375 := hf1374.st hst1355 rfl rfl rfl
       have hf1376 := hf1375.st hst1363 rfl rfl rfl
       have hf1377 := ho1349.st hst1355 rfl rfl rfl
       have hf1378 := hf1377.st hst1363 rfl rfl rfl
       have hf1379 := ho1356.st hst1363 rfl rfl rfl
       refine WD.own (Stp.trans (Stp.up hst1328 rfl) (Stp.trans (Stp.up hst1335 rfl) (Stp.trans (Stp.up hst1341 rfl) (Stp.trans (Stp.up hst1348 rfl) (Stp.trans (Stp.up hst1355 rfl) (Stp.up hst1363 rfl)))))) ?_
       refine WD.perm _ [5, 4, 3, 2, 1, 0] (by kernel_rfl) ?_
       exact hJ143 (r1277.Scale, r1277.Zero, r1277.Pos.Offset, r1277.Pos.Counts, r1277.Neg.Offset, r1277.Neg.Counts, r1309.Scale, r1309.Zero, r1309.Pos.Offset, r1309.Pos.Counts, r1309.Neg.Offset, r1309.Neg.Counts, O1362, p1263, p1049, u1279, u1280, u1311, u1312) _ _ _ ⟨h, (Stp.trans (Stp.up hst1052 rfl) (Stp.trans (Stp.up hst1266 rfl) (Stp.trans (Stp.up hst1290 rfl) (Stp.trans (Stp.up hst1322 rfl) (Stp.trans (Stp.up hst1328 rfl) (Stp.trans (Stp.up hst1335 rfl) (Stp.trans (Stp.up hst1341 rfl) (Stp.trans (Stp.up hst1348 rfl) (Stp.trans (Stp.up hst1355 rfl) (Stp.up hst1363 rfl)))))))))), hf1369, hf1373, hf1376, hf1378, hf1379, ho1364, rfl⟩ (.cons rfl (.cons rfl (.cons rfl (.cons rfl (.cons rfl (.cons rfl .nil))))))
    ·rintro ⟨x118, x119, x120, x121, x124, x125, x128, x129, x130, x131, x134, x135, O138, b114, b116, v122, v126, v132, v136⟩ _ wd139 ⟨h, hst140, hb115, hb117, hf123, hf127, hf133, hf137, rfl⟩
     replace h := h.trans (congrArg some hX142.symm)
     unfold law09_FoldKeeps_k1 at h
     try dsimp only at h hst140 hb115 hb117 hf123 hf127 hf133 hf137
     refine (show WD _ _ _ _ _ _ _ _ [(2, Value.pointer (some ⟨p24, 0, none⟩)), (3, Value.pointer (some ⟨p39, 0, none⟩)), (5, Value.pointer (some ⟨b114, 0, none⟩)), (6, Value.pointer (some ⟨b116, 0, none⟩)), (31, Value.agg (List.toArray [vi x118, vu x119, vi x120, v122, vi x124, v126])), (33, Value.agg (List.toArray [vi x128, vu x129, vi x130, v132, vi x134, v136]))] _ _ from ?_)
     refine WD.phase [1001] [0, 1, 2, 3, 4, 5, 6] (by kernel_rfl) (by kernel_rfl) ?_
     refine WD.heavy 6 rfl (by kernel_rfl) ?_
     have hh1383 := h
     obtain ⟨p1380, m1381, c1382, rfl⟩ := hf123.shape
     have h := hh1383
     have hh1387 := h
     obtain ⟨p1384, m1385, c1386, rfl⟩ := hf127.shape
     have h := hh1387
     refine WL.store (v := Value.agg (List.toArray [vi x118, vu x119, vi x120, (Value.slice p1380 m1381 c1382), vi x124, (Value.slice p1384 m1385 c1386)])) (cells' := [vi x118, vu x119, vi x120, (Value.slice p1380 m1381 c1382), vi x124, (Value.slice p1384 m1385 c1386)]) ty27 rfl rfl hb115 rfl (Nat.le_of_ble_eq_true rfl) rfl rfl ?_
     intro wd1388 hst1389 hb1390
     refine WL.nil ?_
     refine At.dq (Stp.up hst1389 rfl) ?_
     refine WD.phase [1002] [0, 1, 2, 3, 4, 5, 6, 7] (by kernel_rfl) (by kernel_rfl) ?_
     refine WD.heavy 7 rfl (by kernel_rfl) ?_
     have hf1391 := hf133.st hst1389 rfl rfl rfl
     have hh1395 := h
     obtain ⟨p1392, m1393, c1394, rfl⟩ := hf1391.shape
     have h := hh1395
     have hf1396 := hf137.st hst1389 rfl rfl rfl
     have hh1400 := h
     obtain ⟨p1397, m1398, c1399, rfl⟩ := hf1396.shape
     have h := hh1400
     have hf1401 := hb117.st hst1389 rfl
     refine WL.store (v := Value.agg (List.toArray [vi x128, vu x129, vi x130, (Value.slice p1392 m1393 c1394), vi x134, (Value.slice p1397 m1398 c1399)])) (cells' := [vi x128, vu x129, vi x130, (Value.slice p1392 m1393 c1394), vi x134, (Value.slice p1397 m1398 c1399)]) ty27 rfl rfl hf1401 rfl (Nat.le_of_ble_eq_true rfl) rfl rfl ?_
     intro wd1402 hst1403 hb1404
     refine WL.nil ?_
     refine At.dq (Stp.up hst1403 rfl) ?_
     refine WD.done_ (by kernel_rfl) ?_
     refine At.then ?_
     refine WC.seq ?_
     refine WC.region ?_
     have hf1405 := hf55.st hst70 rfl
     have hf1406 := hf1405.st hst74 rfl
     have hf1407 := hf1406.st hst98 rfl
     have hf1408 := hf1407.st hst140 rfl
     have hf1409 := hf1408.st hst1389 rfl
     have hf1410 := hf1409.st hst1403 rfl
     refine WL.y (Y.loadAg ty27 rfl rfl (hf1410.cells 0 [vi a0.Scale, vu a0.Zero, vi a0.Pos.Offset, (Value.slice p15 m16 c17), vi a0.Neg.Offset, (Value.slice p19 m20 c21)] rfl) rfl) rfl ?_
     have hf1411 := hb38.st hst51 rfl
     have hf1412 := hf1411.st hst70 rfl
     have hf1413 := hf1412.st hst74 rfl
     have hf1414 := hf1413.st hst98 rfl
     have hf1415 := hf1414.st hst140 rfl
     have hf1416 := hf1415.st hst1389 rfl
     have hf1417 := hf1416.st hst1403 rfl
     refine WL.y (Y.loadAg ty27 rfl rfl (hf1417.cells 0 [vi a1.Scale, vu a1.Zero, vi a1.Pos.Offset, (Value.slice p29 m30 c31), vi a1.Neg.Offset, (Value.slice p34 m35 c36)] rfl) rfl) rfl ?_
     have hf1418 := hf58.mono (imm_st hst70 rfl rfl)
     have hf1419 := hf1418.mono (imm_st hst74 rfl rfl)
     have hf1420 := hf1419.mono (imm_st hst98 rfl rfl)
     have hf1421 := hf1420.mono (imm_st hst140 rfl rfl)
     have hf1422 := hf1421.mono (imm_st hst1389 rfl rfl)
     have hf1423 := hf1422.mono (imm_st hst1403 rfl rfl)
     have hf1424 := hf61.mono (imm_st hst70 rfl rfl)
     have hf1425 := hf1424.mono (imm_st hst74 rfl rfl)
     have hf1426 := hf1425.mono (imm_st hst98 rfl rfl)
     have hf1427 := hf1426.mono (imm_st hst140 rfl rfl)
     have hf1428 := hf1427.mono (imm_st hst1389 rfl rfl)
     have hf1429 := hf1428.mono (imm_st hst1403 rfl rfl)
     have hf1430 := hf28.mono (imm_st hst42 rfl rfl)
     have hf1431 := hf1430.mono (imm_st hst51 rfl rfl)
     have hf1432 := hf1431.mono (imm_st hst70 rfl rfl)
     have hf1433 := hf1432.mono (imm_st hst74 rfl rfl)
     have hf1434 := hf1433.mono (imm_st hst98 rfl rfl)
     have hf1435 := hf1434.mono (imm_st hst140 rfl rfl)
     have hf1436 := hf1435.mono (imm_st hst1389 rfl rfl)
     have hf1437 := hf1436.mono (imm_st hst1403 rfl rfl)
     have hf1438 := hf33.mono (imm_st hst42 rfl rfl)
     have hf1439 := hf1438.mono (imm_st hst51 rfl rfl)
     have hf1440 := hf1439.mono (imm_st hst70 rfl rfl)
     have hf1441 := hf1440.mono (imm_st hst74 rfl rfl)
     have hf1442 := hf1441.mono (imm_st hst98 rfl rfl)
     have hf1443 := hf1442.mono (imm_st hst140 rfl rfl)
     have hf1444 := hf1443.mono (imm_st hst1389 rfl rfl)
     have hf1445 := hf1444.mono (imm_st hst1403 rfl rfl)
     obtain ⟨⟨r1446, r1447, r1448⟩, hp1449, h⟩ := bnd h
     refine WL.call (vals := [Value.agg (List.toArray [vi a0.Scale, vu a0.Zero, vi a0.Pos.Offset, (Value.slice p15 m16 c17), vi a0.Neg.Offset, (Value.slice p19 m20 c21)]), Value.agg (List.toArray [vi a1.Scale, vu a1.Zero, vi a1.Pos.Offset, (Value.slice p29 m30 c31), vi a1.Neg.Offset, (Value.slice p34 m35 c36)])]) kok38 rfl rfl (c_fold_Level (A := fun _ => True) (a0 := a0) (a1 := a1) (Sl.all hf1423) (Sl.all hf1429) (Sl.all hf1437) (Sl.all hf1445) hp1449) ?_
     rintro vr1466 wd1465 ⟨u1450, u1451, u1452, u1453, rfl, hm1464, f1454, f1455, f1456, f1457, f1458, f1459, f1460, f1461, f1462, f1463⟩
     obtain ⟨O1467, hold1468, hnew1469, hst1470⟩ := adoptE O138 (fun k => if Value.ownBlock u1450 = some k then 63 else if Value.ownBlock u1451 = some k then 64 else if Value.ownBlock u1452 = some k then 65 else if Value.ownBlock u1453 = some k then 66 else 1) hm1464
     have hf1471 : OwnSl 63 Rep.u 22 O1467 wd1465 u1450 r1446.Pos.Counts := RowF.adopt 63 Flat.u f1454 hnew1469 (fun k hk => if_pos hk)
     have hf1472 : OwnSl 64 Rep.u 22 O1467 wd1465 u1451 r1446.Neg.Counts := RowF.adopt 64 Flat.u f1455 hnew1469 (fun k hk => (if_neg (fun (e : Value.ownBlock u1450 = some k) => f1458 k e hk)).trans (if_pos hk))
     have hf1473 : OwnSl 65 Rep.u 22 O1467 wd1465 u1452 r1447.Pos.Counts := RowF.adopt 65 Flat.u f1456 hnew1469 (fun k hk => (if_neg (fun (e : Value.ownBlock u1450 = some k) => f1459 k e hk)).trans ((if_neg (fun (e : Value.ownBlock u1451 = some k) => f1460 k e hk)).trans (if_pos hk)))
     have hf1474 : OwnSl 66 Rep.u 22 O1467 wd1465 u1453 r1447.Neg.Counts := RowF.adopt 66 Flat.u f1457 hnew1469 (fun k hk => (if_neg (fun (e : Value.ownBlock u1450 = some k) => f1461 k e hk)).trans ((if_neg (fun (e : Value.ownBlock u1451 = some k) => f1462 k e hk)).trans ((if_neg (fun (e : Value.ownBlock u1452 = some k) => f1463 k e hk)).trans (if_pos hk))))
     refine WL.y (Y.move rfl) rfl ?_
     refine WL.y (Y.extract rfl rfl) rfl ?_
     refine WL.y (Y.extract rfl rfl) rfl ?_
     refine WL.y (Y.extract rfl rfl) rfl ?_
     refine WL.alloc (O := O1467) 67 [vi 0, vu 0, vi 0, Value.slice none 0 0, vi 0, Value.slice none 0 0] ty27 rfl rfl ?_
     intro p1476 O1477 wd1478 hst1479 hb1475
     refine WL.alloc (O := O1477) 68 [vi 0, vu 0, vi 0, Value.slice none 0 0, vi 0, Value.slice none 0 0] ty27 rfl rfl ?_
     intro p1481 O1482 wd1483 hst1484 hb1480
     have hf1485 := hf1471.st hst1479 rfl rfl rfl
     have hf1486 := hf1485.st hst1484 rfl rfl rfl
     have hh1490 := h
     obtain ⟨p1487, m1488, c1489, rfl⟩ := hf1486.shape
     have h := hh1490
     have hf1491 := hf1472.st hst1479 rfl rfl rfl
     have hf1492 := hf1491.st hst1484 rfl rfl rfl
     have hh1496 := h
     obtain ⟨p1493, m1494, c1495, rfl⟩ := hf1492.shape
     have h := hh1496
     have hf1497 := hb1475.st hst1484 rfl
     refine WL.store (v := Value.agg (List.toArray [vi r1446.Scale, vu r1446.Zero, vi r1446.Pos.Offset, (Value.slice p1487 m1488 c1489), vi r1446.Neg.Offset, (Value.slice p1493 m1494 c1495)])) (cells' := [vi r1446.Scale, vu r1446.Zero, vi r1446.Pos.Offset, (Value.slice p1487 m1488 c1489), vi r1446.Neg.Offset, (Value.slice p1493 m1494 c1495)]) ty27 rfl rfl hf1497 rfl (Nat.le_of_ble_eq_true rfl) rfl rfl ?_
     intro wd1498 hst1499 hb1500
     have hf1501 := hf1473.st hst1479 rfl rfl rfl
     have hf1502 := hf1501.st hst1484 rfl rfl rfl
     have hf1503 := hf1502.st hst1499 rfl rfl rfl
     have hh1507 := h
     obtain ⟨p1504, m1505, c1506, rfl⟩ := hf1503.shape
     have h := hh1507
     have hf1508 := hf1474.st hst1479 rfl rfl rfl
     have hf1509 := hf1508.st hst1484 rfl rfl rfl
     have hf1510 := hf1509.st hst1499 rfl rfl rfl
     have hh1514 := h
     obtain ⟨p1511, m1512, c1513, rfl⟩ := hf1510.shape
     have h := hh1514
     have hf1515 := hb1480.st hst1499 rfl
     refine WL.store (v := Value.agg (List.toArray [vi r1447.Scale, vu r1447.Zero, vi r1447.Pos.Offset, (Value.slice p1504 m1505 c1506), vi r1447.Neg.Offset, (Value.slice p1511 m1512 c1513)])) (cells' := [vi r1447.Scale, vu r1447.Zero, vi r1447.Pos.Offset, (Value.slice p1504 m1505 c1506), vi r1447.Neg.Offset, (Value.slice p1511 m1512 c1513)]) ty27 rfl rfl hf1515 rfl (Nat.le_of_ble_eq_true rfl) rfl rfl ?_
     intro wd1516 hst1517 hb1518
     refine WL.y (Y.assign rfl) rfl ?_
     refine WL.nil ?_
     refine At.then ?_
     refine WC.seq ?_
     refine WC.region ?_
     have hf1519 := hf1410.st hst1470 rfl
     have hf1520 := hf1519.st hst1479 rfl
     have hf1521 := hf1520.st hst1484 rfl
     have hf1522 := hf1521.st hst1499 rfl
     have hf1523 := hf1522.st hst1517 rfl
     refine WL.y (Y.loadAg ty27 rfl rfl (hf1523.cells 0 [vi a0.Scale, vu a0.Zero, vi a0.Pos.Offset, (Value.slice p15 m16 c17), vi a0.Neg.Offset, (Value.slice p19 m20 c21)] rfl) rfl) rfl ?_
     have hf1524 := hf1417.st hst1470 rfl
     have hf1525 := hf1524.st hst1479 rfl
     have hf1526 := hf1525.st hst1484 rfl
     have hf1527 := hf1526.st hst1499 rfl
     have hf1528 := hf1527.st hst1517 rfl
     refine WL.y (Y.loadAg ty27 rfl rfl (hf1528.cells 0 [vi a1.Scale, vu a1.Zero, vi a1.Pos.Offset, (Value.slice p29 m30 c31), vi a1.Neg.Offset, (Value.slice p34 m35 c36)] rfl) rfl) rfl ?_
     have hf1529 := hf1423.mono (imm_st hst1470 rfl rfl)
     have hf1530 := hf1529.mono (imm_st hst1479 rfl rfl)
     have hf1531 := hf1530.mono (imm_st hst1484 rfl rfl)
     have hf1532 := hf1531.mono (imm_st hst1499 rfl rfl)
     have hf1533 := hf1532.mono (imm_st hst1517 rfl rfl)
     have hf1534 := hf1429.mono (imm_st hst1470 rfl rfl)
     have hf1535 := hf1534.mono (imm_st hst1479 rfl rfl)
     have hf1536 := hf1535.mono (imm_st hst1484 rfl rfl)
     have hf1537 := hf1536.mono (imm_st hst1499 rfl rfl)
     have hf1538 := hf1537.mono (imm_st hst1517 rfl rfl)
     have hf1539 := hf1437.mono (imm_st hst1470 rfl rfl)
     have hf1540 := hf1539.mono (imm_st hst1479 rfl rfl)
     have hf1541 := hf1540.mono (imm_st hst1484 rfl rfl)
     have hf1542 := hf1541.mono (imm_st hst1499 rfl rfl)
     have hf1543 := hf1542.mono (imm_st hst1517 rfl rfl)
     have hf1544 := hf1445.mono (imm_st hst1470 rfl rfl)
     have hf1545 := hf1544.mono (imm_st hst1479 rfl rfl)
     have hf1546 := hf1545.mono (imm_st hst1484 rfl rfl)
     have hf1547 := hf1546.mono (imm_st hst1499 rfl rfl)
     have hf1548 := hf1547.mono (imm_st hst1517 rfl rfl)
     obtain ⟨⟨r1549, r1550⟩, hp1551, h⟩ := bnd h
     refine WL.call (vals := [Value.agg (List.toArray [vi a0.Scale, vu a0.Zero, vi a0.Pos.Offset, (Value.slice p15 m16 c17), vi a0.Neg.Offset, (Value.slice p19 m20 c21)]), Value.agg (List.toArray [vi a1.Scale, vu a1.Zero, vi a1.Pos.Offset, (Value.slice p29 m30 c31), vi a1.Neg.Offset, (Value.slice p34 m35 c36)])]) kok40 rfl rfl (c_fold_Merge (A := fun _ => True) (a0 := a0) (a1 := a1) (Sl.all hf1533) (Sl.all hf1538) (Sl.all hf1543) (Sl.all hf1548) hp1551) ?_
     rintro vr1559 wd1558 ⟨u1552, u1553, rfl, hm1557, f1554, f1555, f1556⟩
     obtain ⟨O1560, hold1561, hnew1562, hst1563⟩ := adoptE O1482 (fun k => if Value.ownBlock u1552 = some k then 69 else if Value.ownBlock u1553 = some k then 70 else 1) hm1557
     have hf1564 : OwnSl 69 Rep.u 22 O1560 wd1558 u1552 r1549.Pos.Counts := RowF.adopt 69 Flat.u f1554 hnew1562 (fun k hk => if_pos hk)
     have hf1565 : OwnSl 70 Rep.u 22 O1560 wd1558 u1553 r1549.Neg.Counts := RowF.adopt 70 Flat.u f1555 hnew1562 (fun k hk => (if_neg (fun (e : Value.ownBlock u1552 = some k) => f1556 k e hk)).trans (if_pos hk))
     refine WL.y (Y.move rfl) rfl ?_
     refine WL.y (Y.extract rfl rfl) rfl ?_
     refine WL.y (Y.extract rfl rfl) rfl ?_
     refine WL.alloc (O := O1560) 71 [vi 0, vu 0, vi 0, Value.slice none 0 0, vi 0, Value.slice none 0 0] ty27 rfl rfl ?_
     intro p1567 O1568 wd1569 hst1570 hb1566
     have hf1571 := hf1564.st hst1570 rfl rfl rfl
     have hh1575 := h
     obtain ⟨p1572, m1573, c1574, rfl⟩ := hf1571.shape
     have h := hh1575
     have hf1576 := hf1565.st hst1570 rfl rfl rfl
     have hh1580 := h
     obtain ⟨p1577, m1578, c1579, rfl⟩ := hf1576.shape
     have h := hh1580
     refine WL.store (v := Value.agg (List.toArray [vi r1549.Scale, vu r1549.Zero, vi r1549.Pos.Offset, (Value.slice p1572 m1573 c1574), vi r1549.Neg.Offset, (Value.slice p1577 m1578 c1579)])) (cells' := [vi r1549.Scale, vu r1549.Zero, vi r1549.Pos.Offset, (Value.slice p1572 m1573 c1574), vi r1549.Neg.Offset, (Value.slice p1577 m1578 c1579)]) ty27 rfl rfl hb1566 rfl (Nat.le_of_ble_eq_true rfl) rfl rfl ?_
     intro wd1581 hst1582 hb1583
     refine WL.y (Y.assign rfl) rfl ?_
     refine WL.nil ?_
     refine At.then ?_
     refine WC.seq ?_
     refine WC.region ?_
     have hf1584 := hf1523.st hst1563 rfl
     have hf1585 := hf1584.st hst1570 rfl
     have hf1586 := hf1585.st hst1582 rfl
     refine WL.y (Y.loadAg ty27 rfl rfl (hf1586.cells 0 [vi a0.Scale, vu a0.Zero, vi a0.Pos.Offset, (Value.slice p15 m16 c17), vi a0.Neg.Offset, (Value.slice p19 m20 c21)] rfl) rfl) rfl ?_
     have hf1587 := hf1528.st hst1563 rfl
     have hf1588 := hf1587.st hst1570 rfl
     have hf1589 := hf1588.st hst1582 rfl
     refine WL.y (Y.loadAg ty27 rfl rfl (hf1589.cells 0 [vi a1.Scale, vu a1.Zero, vi a1.Pos.Offset, (Value.slice p29 m30 c31), vi a1.Neg.Offset, (Value.slice p34 m35 c36)] rfl) rfl) rfl ?_
     have hf1590 := hf1533.mono (imm_st hst1563 rfl rfl)
     have hf1591 := hf1590.mono (imm_st hst1570 rfl rfl)
     have hf1592 := hf1591.mono (imm_st hst1582 rfl rfl)
     have hf1593 := hf1538.mono (imm_st hst1563 rfl rfl)
     have hf1594 := hf1593.mono (imm_st hst1570 rfl rfl)
     have hf1595 := hf1594.mono (imm_st hst1582 rfl rfl)
     have hf1596 := hf1543.mono (imm_st hst1563 rfl rfl)
     have hf1597 := hf1596.mono (imm_st hst1570 rfl rfl)
     have hf1598 := hf1597.mono (imm_st hst1582 rfl rfl)
     have hf1599 := hf1548.mono (imm_st hst1563 rfl rfl)
     have hf1600 := hf1599.mono (imm_st hst1570 rfl rfl)
     have hf1601 := hf1600.mono (imm_st hst1582 rfl rfl)
     obtain ⟨⟨r1602, r1603⟩, hp1604, h⟩ := bnd h
     refine WL.call (vals := [Value.agg (List.toArray [vi a0.Scale, vu a0.Zero, vi a0.Pos.Offset, (Value.slice p15 m16 c17), vi a0.Neg.Offset, (Value.slice p19 m20 c21)]), Value.agg (List.toArray [vi a1.Scale, vu a1.Zero, vi a1.Pos.Offset, (Value.slice p29 m30 c31), vi a1.Neg.Offset, (Value.slice p34 m35 c36)])]) kok42 rfl rfl (c_fold_Sub (A := fun _ => True) (a0 := a0) (a1 := a1) (Sl.all hf1592) (Sl.all hf1595) (Sl.all hf1598) (Sl.all hf1601) hp1604) ?_
     rintro vr1612 wd1611 ⟨u1605, u1606, rfl, hm1610, f1607, f1608, f1609⟩
     obtain ⟨O1613, hold1614, hnew1615, hst1616⟩ := adoptE O1568 (fun k => if Value.ownBlock u1605 = some k then 72 else if Value.ownBlock u1606 = some k then 73 else 1) hm1610
     have hf1617 : OwnSl 72 Rep.u 22 O1613 wd1611 u1605 r1602.Pos.Counts := RowF.adopt 72 Flat.u f1607 hnew1615 (fun k hk => if_pos hk)
     have hf1618 : OwnSl 73 Rep.u 22 O1613 wd1611 u1606 r1602.Neg.Counts := RowF.adopt 73 Flat.u f1608 hnew1615 (fun k hk => (if_neg (fun (e : Value.ownBlock u1605 = some k) => f1609 k e hk)).trans (if_pos hk))
     refine WL.y (Y.move rfl) rfl ?_
     refine WL.y (Y.extract rfl rfl) rfl ?_
     refine WL.y (Y.extract rfl rfl) rfl ?_
     refine WL.alloc (O := O1613) 74 [vi 0, vu 0, vi 0, Value.slice none 0 0, vi 0, Value.slice none 0 0] ty27 rfl rfl ?_
     intro p1620 O1621 wd1622 hst1623 hb1619
     have hf1624 := hf1617.st hst1623 rfl rfl rfl
     have hh1628 := h
     obtain ⟨p1625, m1626, c1627, rfl⟩ := hf1624.shape
     have h := hh1628
     have hf1629 := hf1618.st hst1623 rfl rfl rfl
     have hh1633 := h
     obtain ⟨p1630, m1631, c1632, rfl⟩ := hf1629.shape
     have h := hh1633
     refine WL.store (v := Value.agg (List.toArray [vi r1602.Scale, vu r1602.Zero, vi r1602.Pos.Offset, (Value.slice p1625 m1626 c1627), vi r1602.Neg.Offset, (Value.slice p1630 m1631 c1632)])) (cells' := [vi r1602.Scale, vu r1602.Zero, vi r1602.Pos.Offset, (Value.slice p1625 m1626 c1627), vi r1602.Neg.Offset, (Value.slice p1630 m1631 c1632)]) ty27 rfl rfl hb1619 rfl (Nat.le_of_ble_eq_true rfl) rfl rfl ?_
     intro wd1634 hst1635 hb1636
     refine WL.y (Y.assign rfl) rfl ?_
     refine WL.nil ?_
     refine At.then ?_
     refine WC.seq ?_
     refine WC.region ?_
     have hf1637 := hf1586.st hst1616 rfl
     have hf1638 := hf1637.st hst1623 rfl
     have hf1639 := hf1638.st hst1635 rfl
     refine WL.y (Y.loadAg ty27 rfl rfl (hf1639.cells 0 [vi a0.Scale, vu a0.Zero, vi a0.Pos.Offset, (Value.slice p15 m16 c17), vi a0.Neg.Offset, (Value.slice p19 m20 c21)] rfl) rfl) rfl ?_
     have hf1642 := hf1592.mono (imm_st hst1616 rfl rfl)
     have hf1643 := hf1642.mono (imm_st hst1623 rfl rfl)
     have hf1644 := hf1643.mono (imm_st hst1635 rfl rfl)
     have hf1645 := hf1595.mono (imm_st hst1616 rfl rfl)
     have hf1646 := hf1645.mono (imm_st hst1623 rfl rfl)
     have hf1647 := hf1646.mono (imm_st hst1635 rfl rfl)
     refine WL.buildSlice (O := O1621) (R := rep_api_Hist) (vals := [(0, Value.agg (List.toArray [vi a0.Scale, vu a0.Zero, vi a0.Pos.Offset, (Value.slice p15 m16 c17), vi a0.Neg.Offset, (Value.slice p19 m20 c21)]))]) 75 [vi a0.Scale, vu a0.Zero, vi a0.Pos.Offset, (Value.slice p15 m16 c17), vi a0.Neg.Offset, (Value.slice p19 m20 c21)] (xs := [a0]) (by decide) ty45 ty27 (by decide) (by decide) (Fits.evalp rfl) (by kernel_rfl) rfl ⟨[vi a0.Scale, vu a0.Zero, vi a0.Pos.Offset, (Value.slice p15 m16 c17), vi a0.Neg.Offset, (Value.slice p19 m20 c21)], [], rfl, ⟨[vi a0.Scale], [vu a0.Zero, vi a0.Pos.Offset, (Value.slice p15 m16 c17), vi a0.Neg.Offset, (Value.slice p19 m20 c21)], rfl, rfl, ⟨[vu a0.Zero], [vi a0.Pos.Offset, (Value.slice p15 m16 c17), vi a0.Neg.Offset, (Value.slice p19 m20 c21)], rfl, rfl, ⟨[vi a0.Pos.Offset, (Value.slice p15 m16 c17)], [vi a0.Neg.Offset, (Value.slice p19 m20 c21)], rfl, ⟨[vi a0.Pos.Offset], [(Value.slice p15 m16 c17)], rfl, rfl, ⟨_, rfl, hf1644⟩⟩, ⟨[vi a0.Neg.Offset], [(Value.slice p19 m20 c21)], rfl, rfl, ⟨_, rfl, hf1647⟩⟩⟩⟩⟩, rfl⟩ rfl ?_
     intro v1640 O1648 wd1649 hst1650 ho1641
     obtain ⟨⟨r1651, r1652⟩, hp1653, h⟩ := bnd h
     refine WL.call (vals := [v1640]) kok46 rfl rfl (c_fold_Sum (A := fun _ => True) (ho1641.src.sl) hp1653) ?_
     rintro vr1661 wd1660 ⟨u1654, u1655, rfl, hm1659, f1656, f1657, f1658⟩
     obtain ⟨O1662, hold1663, hnew1664, hst1665⟩ := adoptE O1648 (fun k => if Value.ownBlock u1654 = some k then 76 else if Value.ownBlock u1655 = some k then 77 else 1) hm1659
     have hf1666 : OwnSl 76 Rep.u 22 O1662 wd1660 u1654 r1651.Pos.Counts := RowF.adopt 76 Flat.u f1656 hnew1664 (fun k hk => if_pos hk)
     have hf1667 : OwnSl 77 Rep.u 22 O1662 wd1660 u1655 r1651.Neg.Counts := RowF.adopt 77 Flat.u f1657 hnew1664 (fun k hk => (if_neg (fun (e : Value.ownBlock u1654 = some k) => f1658 k e hk)).trans (if_pos hk))
     refine WL.y (Y.move rfl) rfl ?_
     refine WL.y (Y.extract rfl rfl) rfl ?_
     refine WL.y (Y.extract rfl rfl) rfl ?_
     refine WL.alloc (O := O1662) 78 [vi 0, vu 0, vi 0, Value.slice none 0 0, vi 0, Value.slice none 0 0] ty27 rfl rfl ?_
     intro p1669 O1670 wd1671 hst1672 hb1668
     have hf1673 := hf1666.st hst1672 rfl rfl rfl
     have hh1677 := h
     obtain ⟨p1674, m1675, c1676, rfl⟩ := hf1673.shape
     have h := hh1677
     have hf1678 := hf1667.st hst1672 rfl rfl rfl
     have hh1682 := h
     obtain ⟨p1679, m1680, c1681, rfl⟩ := hf1678.shape
     have h := hh1682
     refine WL.store (v := Value.agg (List.toArray [vi r1651.Scale, vu r1651.Zero, vi r1651.Pos.Offset, (Value.slice p1674 m1675 c1676), vi r1651.Neg.Offset, (Value.slice p1679 m1680 c1681)])) (cells' := [vi r1651.Scale, vu r1651.Zero, vi r1651.Pos.Offset, (Value.slice p1674 m1675 c1676), vi r1651.Neg.Offset, (Value.slice p1679 m1680 c1681)]) ty27 rfl rfl hb1668 rfl (Nat.le_of_ble_eq_true rfl) rfl rfl ?_
     intro wd1683 hst1684 hb1685
     refine WL.y (Y.assign rfl) rfl ?_
     refine WL.nil ?_
     refine At.then ?_
     refine WC.seq ?_
     refine WC.seq ?_
     refine WC.region ?_
     have hf1686 := hb1500.st hst1517 rfl
     have hf1687 := hf1686.st hst1563 rfl
     have hf1688 := hf1687.st hst1570 rfl
     have hf1689 := hf1688.st hst1582 rfl
     have hf1690 := hf1689.st hst1616 rfl
     have hf1691 := hf1690.st hst1623 rfl
     have hf1692 := hf1691.st hst1635 rfl
     have hf1693 := hf1692.st hst1650 rfl
     have hf1694 := hf1693.st hst1665 rfl
     have hf1695 := hf1694.st hst1672 rfl
     have hf1696 := hf1695.st hst1684 rfl
     refine WL.y (Y.loadAg ty27 rfl rfl (hf1696.cells 0 [vi r1446.Scale, vu r1446.Zero, vi r1446.Pos.Offset, (Value.slice p1487 m1488 c1489), vi r1446.Neg.Offset, (Value.slice p1493 m1494 c1495)] rfl) rfl) rfl ?_
     have hf1697 := hb1518.st hst1563 rfl
     have hf1698 := hf1697.st hst1570 rfl
     have hf1699 := hf1698.st hst1582 rfl
     have hf1700 := hf1699.st hst1616 rfl
     have hf1701 := hf1700.st hst1623 rfl
     have hf1702 := hf1701.st hst1635 rfl
     have hf1703 := hf1702.st hst1650 rfl
     have hf1704 := hf1703.st hst1665 rfl
     have hf1705 := hf1704.st hst1672 rfl
     have hf1706 := hf1705.st hst1684 rfl
     refine WL.y (Y.loadAg ty27 rfl rfl (hf1706.cells 0 [vi r1447.Scale, vu r1447.Zero, vi r1447.Pos.Offset, (Value.slice p1504 m1505 c1506), vi r1447.Neg.Offset, (Value.slice p1511 m1512 c1513)] rfl) rfl) rfl ?_
     have hf1707 := hb1583.st hst1616 rfl
     have hf1708 := hf1707.st hst1623 rfl
     have hf1709 := hf1708.st hst1635 rfl
     have hf1710 := hf1709.st hst1650 rfl
     have hf1711 := hf1710.st hst1665 rfl
     have hf1712 := hf1711.st hst1672 rfl
     have hf1713 := hf1712.st hst1684 rfl
     refine WL.y (Y.loadAg ty27 rfl rfl (hf1713.cells 0 [vi r1549.Scale, vu r1549.Zero, vi r1549.Pos.Offset, (Value.slice p1572 m1573 c1574), vi r1549.Neg.Offset, (Value.slice p1577 m1578 c1579)] rfl) rfl) rfl ?_
     have hf1714 := hb1636.st hst1650 rfl
     have hf1715 := hf1714.st hst1665 rfl
     have hf1716 := hf1715.st hst1672 rfl
     have hf1717 := hf1716.st hst1684 rfl
     refine WL.y (Y.loadAg ty27 rfl rfl (hf1717.cells 0 [vi r1602.Scale, vu r1602.Zero, vi r1602.Pos.Offset, (Value.slice p1625 m1626 c1627), vi r1602.Neg.Offset, (Value.slice p1630 m1631 c1632)] rfl) rfl) rfl ?_
     refine WL.y (Y.loadAg ty27 rfl rfl (hb1685.cells 0 [vi r1651.Scale, vu r1651.Zero, vi r1651.Pos.Offset, (Value.slice p1674 m1675 c1676), vi r1651.Neg.Offset, (Value.slice p1679 m1680 c1681)] rfl) rfl) rfl ?_
     refine WL.buildLit (O := O1670) (vals := [(0, Value.agg (List.toArray [vi r1446.Scale, vu r1446.Zero, vi r1446.Pos.Offset, (Value.slice p1487 m1488 c1489), vi r1446.Neg.Offset, (Value.slice p1493 m1494 c1495)])), (1, Value.agg (List.toArray [vi r1447.Scale, vu r1447.Zero, vi r1447.Pos.Offset, (Value.slice p1504 m1505 c1506), vi r1447.Neg.Offset, (Value.slice p1511 m1512 c1513)])), (2, Value.agg (List.toArray [vi r1549.Scale, vu r1549.Zero, vi r1549.Pos.Offset, (Value.slice p1572 m1573 c1574), vi r1549.Neg.Offset, (Value.slice p1577 m1578 c1579)])), (3, Value.agg (List.toArray [vi r1602.Scale, vu r1602.Zero, vi r1602.Pos.Offset, (Value.slice p1625 m1626 c1627), vi r1602.Neg.Offset, (Value.slice p1630 m1631 c1632)])), (4, Value.agg (List.toArray [vi r1651.Scale, vu r1651.Zero, vi r1651.Pos.Offset, (Value.slice p1674 m1675 c1676), vi r1651.Neg.Offset, (Value.slice p1679 m1680 c1681)]))]) 79 [vi r1446.Scale, vu r1446.Zero, vi r1446.Pos.Offset, (Value.slice p1487 m1488 c1489), vi r1446.Neg.Offset, (Value.slice p1493 m1494 c1495), vi r1447.Scale, vu r1447.Zero, vi r1447.Pos.Offset, (Value.slice p1504 m1505 c1506), vi r1447.Neg.Offset, (Value.slice p1511 m1512 c1513), vi r1549.Scale, vu r1549.Zero, vi r1549.Pos.Offset, (Value.slice p1572 m1573 c1574), vi r1549.Neg.Offset, (Value.slice p1577 m1578 c1579), vi r1602.Scale, vu r1602.Zero, vi r1602.Pos.Offset, (Value.slice p1625 m1626 c1627), vi r1602.Neg.Offset, (Value.slice p1630 m1631 c1632), vi r1651.Scale, vu r1651.Zero, vi r1651.Pos.Offset, (Value.slice p1674 m1675 c1676), vi r1651.Neg.Offset, (Value.slice p1679 m1680 c1681)] ty45 ty27 (by decide) (by decide) (Fits.evalp rfl) (by kernel_rfl) rfl ?_
     intro p1719 O1720 wd1721 hst1722 hb1718
     refine WL.yE (Y.lenv ty45 rfl) (show vi ((5 : Nat) : Int) = vi 5 from rfl) rfl ?_
     refine WL.y (Y.move rfl) rfl ?_
     refine WL.nil ?_
     refine At.then ?_
     obtain ⟨p1726, h, hk1727⟩ := bnd h
     refine WC.join (σ := Own) (fun x w' => () = p1726 ∧ Stp [63, 64, 65, 66, 69, 70, 72, 73, 76, 77, 80, 81, 82, 83, 84, 1007, 1008, 1011, 1012, 1015, 1016, 1019, 1020, 1023, 1024, 1027, 1028, 1031, 1032, 1035, 1036, 1039, 1040, 1043, 1044] O1720 wd1721 x w') (fun x => [(2, Value.pointer (some ⟨p24, 0, none⟩)), (3, Value.pointer (some ⟨p39, 0, none⟩)), (5, Value.pointer (some ⟨b114, 0, none⟩)), (6, Value.pointer (some ⟨b116, 0, none⟩))]) ?_ ?_
     ·refine WC.block ?_
      refine WC.unroll 5 ?_
      refine WC.seq ?_
      refine WC.region ?_
      refine WL.yE (Y.lss_i rfl rfl) (congrArg Value.bool (by decide : decide ((0 : Int) < (5 : Int)) = true)) rfl ?_
      refine WL.nil ?_
      refine At.then ?_
      refine WC.seq ?_
      refine WC.condT rfl ?_
      refine WC.skip ?_
      refine At.then ?_
      refine WC.seq ?_
      refine WC.block ?_
      refine WC.seq ?_
      refine WC.region ?_
      refine WL.yE (Y.indexAddr ty45 ty27 rfl rfl rfl (by decide) (by decide)) (show (Value.pointer (some ⟨p1719, 0 + (0 : Int).toNat * 6, none⟩)) = .pointer (some ⟨p1719, 0, none⟩) from rfl) rfl ?_
      refine WL.y (Y.loadAg ty27 rfl rfl (hb1718.cells 0 [vi r1446.Scale, vu r1446.Zero, vi r1446.Pos.Offset, (Value.slice p1487 m1488 c1489), vi r1446.Neg.Offset, (Value.slice p1493 m1494 c1495)] rfl) rfl) rfl ?_
      refine WL.alloc (O := O1720) 80 [vi 0, vu 0, vi 0, Value.slice none 0 0, vi 0, Value.slice none 0 0] ty27 rfl rfl ?_
      intro p1729 O1730 wd1731 hst1732 hb1728
      refine WL.store (v := Value.agg (List.toArray [vi r1446.Scale, vu r1446.Zero, vi r1446.Pos.Offset, (Value.slice p1487 m1488 c1489), vi r1446.Neg.Offset, (Value.slice p1493 m1494 c1495)])) (cells' := [vi r1446.Scale, vu r1446.Zero, vi r1446.Pos.Offset, (Value.slice p1487 m1488 c1489), vi r1446.Neg.Offset, (Value.slice p1493 m1494 c1495)]) ty27 rfl rfl hb1728 rfl (Nat.le_of_ble_eq_true rfl) rfl rfl ?_
      intro wd1733 hst1734 hb1735
      refine WL.nil ?_
      refine At.then ?_
      refine WC.seq ?_
      refine WC.seq ?_
      refine WC.region ?_
      refine WL.y (Y.assign rfl) rfl ?_
      refine WL.nil ?_
      refine At.then ?_
      obtain ⟨p1742, h, hk1743⟩ := bnd h
      refine WC.join (σ := (List UInt64 × Own)) (fun x w' => x.1 = p1742 ∧ Stp [63, 1007, 1008] O1730 wd1733 x.2 w' ∧ OwnSl 1010 Rep.u 22 x.2 w' (Value.slice p1487 m1488 c1489) x.1) (fun x => [(2, Value.pointer (some ⟨p24, 0, none⟩)), (3, Value.pointer (some ⟨p39, 0, none⟩)), (5, Value.pointer (some ⟨b114, 0, none⟩)), (6, Value.pointer (some ⟨b116, 0, none⟩)), (17, Value.pointer (some ⟨p1729, 0, none⟩)), (64, Value.slice (some ⟨p1719, 0, none⟩) 5 5), (65, vi 5), (66, vi 0)]) ?_ ?_
      ·refine WC.block ?_
       obtain ⟨p1757, h, hk1759⟩ := flow1 h
       obtain ⟨k1758, h⟩ := loop_some h
       refine WC.joinB 2 (σ := (List UInt64 × Own)) (fun x w' => p1757 = .go x.1 ∧ Stp [63, 1007] O1730 wd1733 x.2 w' ∧ OwnSl 1008 Rep.u 22 x.2 w' (Value.slice p1487 m1488 c1489) x.1) (fun x => [(2, Value.pointer (some ⟨p24, 0, none⟩)), (3, Value.pointer (some ⟨p39, 0, none⟩)), (5, Value.pointer (some ⟨b114, 0, none⟩)), (6, Value.pointer (some ⟨b116, 0, none⟩)), (17, Value.pointer (some ⟨p1729, 0, none⟩)), (64, Value.slice (some ⟨p1719, 0, none⟩) 5 5), (65, vi 5), (66, vi 0)]) ?_ ?_
       ·have hf1760 := hf1486.st hst1499 rfl rfl rfl
        have hf1761 := hf1760.st hst1517 rfl rfl rfl
        have hf1762 := hf1761.st hst1563 rfl rfl rfl
        have hf1763 := hf1762.st hst1570 rfl rfl rfl
        have hf1764 := hf1763.st hst1582 rfl rfl rfl
        have hf1765 := hf1764.st hst1616 rfl rfl rfl
        have hf1766 := hf1765.st hst1623 rfl rfl rfl
        have hf1767 := hf1766.st hst1635 rfl rfl rfl
        have hf1768 := hf1767.st hst1650 rfl rfl rfl
        have hf1769 := hf1768.st hst1665 rfl rfl rfl
        have hf1770 := hf1769.st hst1672 rfl rfl rfl
        have hf1771 := hf1770.st hst1684 rfl rfl rfl
        have hf1772 := hf1771.st hst1722 rfl rfl rfl
        have hf1773 := hf1772.st hst1732 rfl rfl rfl
        have hf1774 := hf1773.st hst1734 rfl rfl rfl
        obtain ⟨O1775, hst1776, ho1777⟩ := OwnSl.rlb 1007 rfl hf1774
        refine WC.loop (σ := (List UInt64 × Int × Own)) (fun x k w' => loopN k (law09_FoldKeeps_lp2) (x.1, x.2.1) = some p1757 ∧ Stp [63, 1007] O1730 wd1733 x.2.2 w' ∧ OwnSl 1007 Rep.u 22 x.2.2 w' (Value.slice p1487 m1488 c1489) x.1) (fun x => [(2, Value.pointer (some ⟨p24, 0, none⟩)), (3, Value.pointer (some ⟨p39, 0, none⟩)), (5, Value.pointer (some ⟨b114, 0, none⟩)), (6, Value.pointer (some ⟨b116, 0, none⟩)), (17, Value.pointer (some ⟨p1729, 0, none⟩)), (18, vi x.2.1), (64, Value.slice (some ⟨p1719, 0, none⟩) 5 5), (65, vi 5), (66, vi 0)]) (r1446.Pos.Counts, 0, O1775) k1758 (.cons rfl (.cons rfl (.cons rfl (.cons rfl (.cons rfl (.cons rfl (.cons rfl (.cons rfl (.cons rfl .nil))))))))) ⟨h, (Stp.up hst1776 rfl), ho1777⟩ ?_
        rintro ⟨c1744, i1747, O1748⟩ k1758 wd1749 ⟨h, hst1750, hf1746⟩
        obtain ⟨j1778, q1779, rfl, h, hn1780⟩ := rnd1 h
        unfold law09_FoldKeeps_lp2 at h
        try dsimp only at h hst1750 hf1746
        refine (show WC _ _ _ _ [(2, Value.pointer (some ⟨p24, 0, none⟩)), (3, Value.pointer (some ⟨p39, 0, none⟩)), (5, Value.pointer (some ⟨b114, 0, none⟩)), (6, Value.pointer (some ⟨b116, 0, none⟩)), (17, Value.pointer (some ⟨p1729, 0, none⟩)), (18, vi i1747), (64, Value.slice (some ⟨p1719, 0, none⟩) 5 5), (65, vi 5), (66, vi 0)] _ from ?_)
        refine WC.seq ?_
        refine WC.seq ?_
        refine WC.region ?_
        refine WL.y (Y.move rfl) rfl ?_
        refine WL.y (Y.fieldAddr fo27_2 rfl) rfl ?_
        refine WL.y (Y.fieldAddr fo25_1 rfl) rfl ?_
        have hf1781 := hb1735.st hst1750 rfl
        refine WL.y (Y.loadSc ty23 rfl rfl (hf1781.cell 3 _ rfl)) rfl ?_
        refine WL.y (Y.len ty23 rfl hf1746.src.sl) rfl ?_
        refine WL.y (Y.lss_i rfl rfl) rfl ?_
        refine WL.nil ?_
        refine At.then ?_
        rcases cnd h with ⟨hc1782, h⟩ | ⟨hc1782, h⟩
        ·refine WC.condT' rfl hc1782 ?_
         refine WC.skip ?_
         refine At.then ?_
         refine WC.seq ?_
         refine WC.block ?_
         refine WC.draw 12 O1748 fmix (by kernel_rfl) ?_
         intro wd1783 hst1784
         refine WS.y (Y.fieldAddr fo27_2 rfl) rfl ?_
         refine WS.y (Y.fieldAddr fo25_1 rfl) rfl ?_
         have hf1785 := hf1781.st hst1784 rfl
         refine WS.y (Y.loadSc ty23 rfl rfl (hf1785.cell 3 _ rfl)) rfl ?_
         refine WS.y (Y.move rfl) rfl ?_
         refine WS.y (Y.fieldAddr fo27_2 rfl) rfl ?_
         refine WS.y (Y.fieldAddr fo25_1 rfl) rfl ?_
         refine WS.y (Y.loadSc ty23 rfl rfl (hf1785.cell 3 _ rfl)) rfl ?_
         refine WS.y (Y.move rfl) rfl ?_
         obtain ⟨e1786, he1786, h⟩ := bnd h
         have hf1795 := hf1746.st hst1784 rfl rfl rfl
         obtain ⟨b1787, cap1794, cs1793, hv1788, hi1789, hl1790, hc1791, hok1792⟩ := OwnSl.at hf1795 he1786
         obtain rfl := hok1792
         replace hc1791 : CellsAt _ _ _ [vu e1786] := hc1791
         have hca1796 := CAt.own hf1795 hv1788 hc1791
         refine WS.y (Y.indexAddr ty23 ty22 rfl hv1788 rfl hi1789 hl1790) rfl ?_
         refine WS.y (Y.loadSc ty22 rfl rfl hca1796.at_) rfl ?_
         refine WS.y (Y.add_u (b := 1) rfl rfl) rfl ?_
         obtain ⟨e1797, he1797, h⟩ := bnd h
         obtain ⟨b1798, cap1805, cs1804, hv1799, hi1800, hl1801, hc1802, hok1803⟩ := OwnSl.at hf1795 he1797
         obtain rfl := hok1803
         replace hc1802 : CellsAt _ _ _ [vu e1797] := hc1802
         have hca1806 := CAt.own hf1795 hv1799 hc1802
         refine WS.y (Y.indexAddr ty23 ty22 rfl hv1799 rfl hi1800 hl1801) rfl ?_
         refine WS.tail ?_
         obtain ⟨t1807, ht1807, h⟩ := lt1 h
         refine WL.ren 88 rfl (congrArg vu ht1807.symm) ?_
         obtain ⟨xs1808, hxs1808, h⟩ := bnd h
         refine WL.storeOwn (by decide) ty22 rfl rfl rfl hf1795 hv1799 hxs1808 ?_
         intro wd1809 hst1810 ho1811
         refine WL.nil ?_
         refine At.inBlock ?_
         refine At.then ?_
         refine WC.region ?_
         refine WL.y (Y.move rfl) rfl ?_
         refine WL.y (Y.add_i rfl rfl) rfl ?_
         obtain ⟨i1812, hi1812, h⟩ := lt1 h
         refine WL.yE (Y.assign rfl) (congrArg vi hi1812.symm) rfl ?_
         refine WL.nil ?_
         exact At.round (xs1808, i1812, O1748) j1778 (Nat.lt_succ_self _) ⟨next1 h hn1780, (Stp.trans (Stp.up hst1750 rfl) (Stp.trans (Stp.up hst1784 rfl) (Stp.up hst1810 rfl))), ho1811⟩ (.cons rfl (.cons rfl (.cons rfl (.cons rfl (.cons rfl (.cons rfl (.cons rfl (.cons rfl (.cons rfl .nil)))))))))
        ·refine WC.condF' rfl hc1782 ?_
         refine WC.exit ?_
         refine At.thenX ?_
         refine At.loopX ?_
         obtain ⟨O1813, hst1814, ho1815⟩ := OwnSl.rlb 1008 rfl hf1746
         exact At.hitB (σ := (List UInt64 × Own)) (c1744, O1813) ⟨brk1 h hn1780, (Stp.trans (Stp.up hst1750 rfl) (Stp.up hst1814 rfl)), ho1815⟩ (.cons rfl (.cons rfl (.cons rfl (.cons rfl (.cons rfl (.cons rfl (.cons rfl (.cons rfl .nil))))))))
       ·rintro ⟨c1751, O1754⟩ wd1755 ⟨rfl, hst1756, hf1753⟩
        replace h := flowK_go hk1759
        try dsimp only at h hst1756 hf1753
        refine (show At _ _ _ [(2, Value.pointer (some ⟨p24, 0, none⟩)), (3, Value.pointer (some ⟨p39, 0, none⟩)), (5, Value.pointer (some ⟨b114, 0, none⟩)), (6, Value.pointer (some ⟨b116, 0, none⟩)), (17, Value.pointer (some ⟨p1729, 0, none⟩)), (64, Value.slice (some ⟨p1719, 0, none⟩) 5 5), (65, vi 5), (66, vi 0)] _ from ?_)
        refine At.inBlockHit ?_
        obtain ⟨O1816, hst1817, ho1818⟩ := OwnSl.rlb 1010 rfl hf1753
        exact At.join (σ := (List UInt64 × Own)) (c1751, O1816) ⟨some1 h, (Stp.trans (Stp.up hst1756 rfl) (Stp.up hst1817 rfl)), ho1818⟩ (.cons rfl (.cons rfl (.cons rfl (.cons rfl (.cons rfl (.cons rfl (.cons rfl (.cons rfl .nil))))))))
      ·rintro ⟨c1736, O1739⟩ wd1740 ⟨rfl, hst1741, hf1738⟩
       replace h := hk1743
       try dsimp only at h hst1741 hf1738
       refine (show At _ _ _ [(2, Value.pointer (some ⟨p24, 0, none⟩)), (3, Value.pointer (some ⟨p39, 0, none⟩)), (5, Value.pointer (some ⟨b114, 0, none⟩)), (6, Value.pointer (some ⟨b116, 0, none⟩)), (17, Value.pointer (some ⟨p1729, 0, none⟩)), (64, Value.slice (some ⟨p1719, 0, none⟩) 5 5), (65, vi 5), (66, vi 0)] _ from ?_)
       refine At.then ?_
       refine WC.seq ?_
       refine WC.region ?_
       refine WL.y (Y.assign rfl) rfl ?_
       refine WL.nil ?_
       refine At.then ?_
       obtain ⟨p1825, h, hk1826⟩ := bnd h
       refine WC.join (σ := (List UInt64 × Own)) (fun x w' => x.1 = p1825 ∧ Stp [64, 1011, 1012] O1739 wd1740 x.2 w' ∧ OwnSl 1014 Rep.u 22 x.2 w' (Value.slice p1493 m1494 c1495) x.1) (fun x => [(2, Value.pointer (some ⟨p24, 0, none⟩)), (3, Value.pointer (some ⟨p39, 0, none⟩)), (5, Value.pointer (some ⟨b114, 0, none⟩)), (6, Value.pointer (some ⟨b116, 0, none⟩)), (64, Value.slice (some ⟨p1719, 0, none⟩) 5 5), (65, vi 5), (66, vi 0)]) ?_ ?_
       ·refine WC.block ?_
        obtain ⟨p1840, h, hk1842⟩ := flow1 h
        obtain ⟨k1841, h⟩ := loop_some h
        refine WC.joinB 4 (σ := (List UInt64 × Own)) (fun x w' => p1840 = .go x.1 ∧ Stp [64, 1011] O1739 wd1740 x.2 w' ∧ OwnSl 1012 Rep.u 22 x.2 w' (Value.slice p1493 m1494 c1495) x.1) (fun x => [(2, Value.pointer (some ⟨p24, 0, none⟩)), (3, Value.pointer (some ⟨p39, 0, none⟩)), (5, Value.pointer (some ⟨b114, 0, none⟩)), (6, Value.pointer (some ⟨b116, 0, none⟩)), (64, Value.slice (some ⟨p1719, 0, none⟩) 5 5), (65, vi 5), (66, vi 0)]) ?_ ?_
        ·have hf1843 := hf1492.st hst1499 rfl rfl rfl
         have hf1844 := hf1843.st hst1517 rfl rfl rfl
         have hf1845 := hf1844.st hst1563 rfl rfl rfl
         have hf1846 := hf1845.st hst1570 rfl rfl rfl
         have hf1847 := hf1846.st hst1582 rfl rfl rfl
         have hf1848 := hf1847.st hst1616 rfl rfl rfl
         have hf1849 := hf1848.st hst1623 rfl rfl rfl
         have hf1850 := hf1849.st hst1635 rfl rfl rfl
         have hf1851 := hf1850.st hst1650 rfl rfl rfl
         have hf1852 := hf1851.st hst1665 rfl rfl rfl
         have hf1853 := hf1852.st hst1672 rfl rfl rfl
         have hf1854 := hf1853.st hst1684 rfl rfl rfl
         have hf1855 := hf1854.st hst1722 rfl rfl rfl
         have hf1856 := hf1855.st hst1732 rfl rfl rfl
         have hf1857 := hf1856.st hst1734 rfl rfl rfl
         have hf1858 := hf1857.st hst1741 rfl rfl rfl
         obtain ⟨O1859, hst1860, ho1861⟩ := OwnSl.rlb 1011 rfl hf1858
         refine WC.loop (σ := (List UInt64 × Int × Own)) (fun x k w' => loopN k (law09_FoldKeeps_lp3) (x.1, x.2.1) = some p1840 ∧ Stp [64, 1011] O1739 wd1740 x.2.2 w' ∧ OwnSl 1011 Rep.u 22 x.2.2 w' (Value.slice p1493 m1494 c1495) x.1) (fun x => [(2, Value.pointer (some ⟨p24, 0, none⟩)), (3, Value.pointer (some ⟨p39, 0, none⟩)), (5, Value.pointer (some ⟨b114, 0, none⟩)), (6, Value.pointer (some ⟨b116, 0, none⟩)), (17, Value.pointer (some ⟨p1729, 0, none⟩)), (19, vi x.2.1), (64, Value.slice (some ⟨p1719, 0, none⟩) 5 5), (65, vi 5), (66, vi 0)]) (r1446.Neg.Counts, 0, O1859) k1841 (.cons rfl (.cons rfl (.cons rfl (.cons rfl (.cons rfl (.cons rfl (.cons rfl (.cons rfl (.cons rfl .nil))))))))) ⟨h, (Stp.up hst1860 rfl), ho1861⟩ ?_
         rintro ⟨c1827, i1830, O1831⟩ k1841 wd1832 ⟨h, hst1833, hf1829⟩
         obtain ⟨j1862, q1863, rfl, h, hn1864⟩ := rnd1 h
         unfold law09_FoldKeeps_lp3 at h
         try dsimp only at h hst1833 hf1829
         refine (show WC _ _ _ _ [(2, Value.pointer (some ⟨p24, 0, none⟩)), (3, Value.pointer (some ⟨p39, 0, none⟩)), (5, Value.pointer (some ⟨b114, 0, none⟩)), (6, Value.pointer (some ⟨b116, 0, none⟩)), (17, Value.pointer (some ⟨p1729, 0, none⟩)), (19, vi i1830), (64, Value.slice (some ⟨p1719, 0, none⟩) 5 5), (65, vi 5), (66, vi 0)] _ from ?_)
         refine WC.seq ?_
         refine WC.seq ?_
         refine WC.region ?_
         refine WL.y (Y.move rfl) rfl ?_
         refine WL.y (Y.fieldAddr fo27_3 rfl) rfl ?_
         refine WL.y (Y.fieldAddr fo25_1 rfl) rfl ?_
         have hf1865 := hb1735.st hst1741 rfl
         have hf1866 := hf1865.st hst1833 rfl
         refine WL.y (Y.loadSc ty23 rfl rfl (hf1866.cell 5 _ rfl)) rfl ?_
         refine WL.y (Y.len ty23 rfl hf1829.src.sl) rfl ?_
         refine WL.y (Y.lss_i rfl rfl) rfl ?_
         refine WL.nil ?_
         refine At.then ?_
         rcases cnd h with ⟨hc1867, h⟩ | ⟨hc1867, h⟩
         ·refine WC.condT' rfl hc1867 ?_
          refine WC.skip ?_
          refine At.then ?_
          refine WC.seq ?_
          refine WC.block ?_
          refine WC.draw 12 O1831 fmix (by kernel_rfl) ?_
          intro wd1868 hst1869
          refine WS.y (Y.fieldAddr fo27_3 rfl) rfl ?_
          refine WS.y (Y.fieldAddr fo25_1 rfl) rfl ?_
          have hf1870 := hf1866.st hst1869 rfl
          refine WS.y (Y.loadSc ty23 rfl rfl (hf1870.cell 5 _ rfl)) rfl ?_
          refine WS.y (Y.move rfl) rfl ?_
          refine WS.y (Y.fieldAddr fo27_3 rfl) rfl ?_
          refine WS.y (Y.fieldAddr fo25_1 rfl) rfl ?_
          refine WS.y (Y.loadSc ty23 rfl rfl (hf1870.cell 5 _ rfl)) rfl ?_
          refine WS.y (Y.move rfl) rfl ?_
          obtain ⟨e1871, he1871, h⟩ := bnd h
          have hf1880 := hf1829.st hst1869 rfl rfl rfl
          obtain ⟨b1872, cap1879, cs1878, hv1873, hi1874, hl1875, hc1876, hok1877⟩ := OwnSl.at hf1880 he1871
          obtain rfl := hok1877
          replace hc1876 : CellsAt _ _ _ [vu e1871] := hc1876
          have hca1881 := CAt.own hf1880 hv1873 hc1876
          refine WS.y (Y.indexAddr ty23 ty22 rfl hv1873 rfl hi1874 hl1875) rfl ?_
          refine WS.y (Y.loadSc ty22 rfl rfl hca1881.at_) rfl ?_
          refine WS.y (Y.add_u (b := 1) rfl rfl) rfl ?_
          obtain ⟨e1882, he1882, h⟩ := bnd h
          obtain ⟨b1883, cap1890, cs1889, hv1884, hi1885, hl1886, hc1887, hok1888⟩ := OwnSl.at hf1880 he1882
          obtain rfl := hok1888
          replace hc1887 : CellsAt _ _ _ [vu e1882] := hc1887
          have hca1891 := CAt.own hf1880 hv1884 hc1887
          refine WS.y (Y.indexAddr ty23 ty22 rfl hv1884 rfl hi1885 hl1886) rfl ?_
          refine WS.tail ?_
          obtain ⟨t1892, ht1892, h⟩ := lt1 h
          refine WL.ren 108 rfl (congrArg vu ht1892.symm) ?_
          obtain ⟨xs1893, hxs1893, h⟩ := bnd h
          refine WL.storeOwn (by decide) ty22 rfl rfl rfl hf1880 hv1884 hxs1893 ?_
          intro wd1894 hst1895 ho1896
          refine WL.nil ?_
          refine At.inBlock ?_
          refine At.then ?_
          refine WC.region ?_
          refine WL.y (Y.move rfl) rfl ?_
          refine WL.y (Y.add_i rfl rfl) rfl ?_
          obtain ⟨i1897, hi1897, h⟩ := lt1 h
          refine WL.yE (Y.assign rfl) (congrArg vi hi1897.symm) rfl ?_
          refine WL.nil ?_
          exact At.round (xs1893, i1897, O1831) j1862 (Nat.lt_succ_self _) ⟨next1 h hn1864, (Stp.trans (Stp.up hst1833 rfl) (Stp.trans (Stp.up hst1869 rfl) (Stp.up hst1895 rfl))), ho1896⟩ (.cons rfl (.cons rfl (.cons rfl (.cons rfl (.cons rfl (.cons rfl (.cons rfl (.cons rfl (.cons rfl .nil)))))))))
         ·refine WC.condF' rfl hc1867 ?_
          refine WC.exit ?_
          refine At.thenX ?_
          refine At.loopX ?_
          obtain ⟨O1898, hst1899, ho1900⟩ := OwnSl.rlb 1012 rfl hf1829
          exact At.hitB (σ := (List UInt64 × Own)) (c1827, O1898) ⟨brk1 h hn1864, (Stp.trans (Stp.up hst1833 rfl) (Stp.up hst1899 rfl)), ho1900⟩ (.cons rfl (.cons rfl (.cons rfl (.cons rfl (.cons rfl (.cons rfl (.cons rfl .nil)))))))
        ·rintro ⟨c1834, O1837⟩ wd1838 ⟨rfl, hst1839, hf1836⟩
         replace h := flowK_go hk1842
         try dsimp only at h hst1839 hf1836
         refine (show At _ _ _ [(2, Value.pointer (some ⟨p24, 0, none⟩)), (3, Value.pointer (some ⟨p39, 0, none⟩)), (5, Value.pointer (some ⟨b114, 0, none⟩)), (6, Value.pointer (some ⟨b116, 0, none⟩)), (64, Value.slice (some ⟨p1719, 0, none⟩) 5 5), (65, vi 5), (66, vi 0)] _ from ?_)
         refine At.inBlockHit ?_
         obtain ⟨O1901, hst1902, ho1903⟩ := OwnSl.rlb 1014 rfl hf1836
         exact At.join (σ := (List UInt64 × Own)) (c1834, O1901) ⟨some1 h, (Stp.trans (Stp.up hst1839 rfl) (Stp.up hst1902 rfl)), ho1903⟩ (.cons rfl (.cons rfl (.cons rfl (.cons rfl (.cons rfl (.cons rfl (.cons rfl .nil)))))))
       ·rintro ⟨c1819, O1822⟩ wd1823 ⟨rfl, hst1824, hf1821⟩
        replace h := hk1826
        try dsimp only at h hst1824 hf1821
        refine (show At _ _ _ [(2, Value.pointer (some ⟨p24, 0, none⟩)), (3, Value.pointer (some ⟨p39, 0, none⟩)), (5, Value.pointer (some ⟨b114, 0, none⟩)), (6, Value.pointer (some ⟨b116, 0, none⟩)), (64, Value.slice (some ⟨p1719, 0, none⟩) 5 5), (65, vi 5), (66, vi 0)] _ from ?_)
        refine At.inBlock ?_
        refine At.then ?_
        refine WC.region ?_
        refine WL.yE (Y.add_i rfl rfl) (congrArg vi (by decide : w64 (0 + 1) = 1)) rfl ?_
        refine WL.y (Y.move rfl) rfl ?_
        refine WL.nil ?_
        refine At.again ?_
        refine WC.seq ?_
        refine WC.region ?_
        refine WL.yE (Y.lss_i rfl rfl) (congrArg Value.bool (by decide : decide ((1 : Int) < (5 : Int)) = true)) rfl ?_
        refine WL.nil ?_
        refine At.then ?_
        refine WC.seq ?_
        refine WC.condT rfl ?_
        refine WC.skip ?_
        refine At.then ?_
        refine WC.seq ?_
        refine WC.block ?_
        refine WC.seq ?_
        refine WC.region ?_
        refine WL.yE (Y.indexAddr ty45 ty27 rfl rfl rfl (by decide) (by decide)) (show (Value.pointer (some ⟨p1719, 0 + (1 : Int).toNat * 6, none⟩)) = .pointer (some ⟨p1719, 6, none⟩) from rfl) rfl ?_
        have hf1904 := hb1718.st hst1732 rfl
        have hf1905 := hf1904.st hst1734 rfl
        have hf1906 := hf1905.st hst1741 rfl
        have hf1907 := hf1906.st hst1824 rfl
        refine WL.y (Y.loadAg ty27 rfl rfl (hf1907.cells 6 [vi r1447.Scale, vu r1447.Zero, vi r1447.Pos.Offset, (Value.slice p1504 m1505 c1506), vi r1447.Neg.Offset, (Value.slice p1511 m1512 c1513)] rfl) rfl) rfl ?_
        refine WL.alloc (O := O1822) 81 [vi 0, vu 0, vi 0, Value.slice none 0 0, vi 0, Value.slice none 0 0] ty27 rfl rfl ?_
        intro p1909 O1910 wd1911 hst1912 hb1908
        refine WL.store (v := Value.agg (List.toArray [vi r1447.Scale, vu r1447.Zero, vi r1447.Pos.Offset, (Value.slice p1504 m1505 c1506), vi r1447.Neg.Offset, (Value.slice p1511 m1512 c1513)])) (cells' := [vi r1447.Scale, vu r1447.Zero, vi r1447.Pos.Offset, (Value.slice p1504 m1505 c1506), vi r1447.Neg.Offset, (Value.slice p1511 m1512 c1513)]) ty27 rfl rfl hb1908 rfl (Nat.le_of_ble_eq_true rfl) rfl rfl ?_
        intro wd1913 hst1914 hb1915
        refine WL.nil ?_
        refine At.then ?_
        refine WC.seq ?_
        refine WC.seq ?_
        refine WC.region ?_
        refine WL.y (Y.assign rfl) rfl ?_
        refine WL.nil ?_
        refine At.then ?_
        obtain ⟨p1922, h, hk1923⟩ := bnd h
        refine WC.join (σ := (List UInt64 × Own)) (fun x w' => x.1 = p1922 ∧ Stp [65, 1015, 1016] O1910 wd1913 x.2 w' ∧ OwnSl 1018 Rep.u 22 x.2 w' (Value.slice p1504 m1505 c1506) x.1) (fun x => [(2, Value.pointer (some ⟨p24, 0, none⟩)), (3, Value.pointer (some ⟨p39, 0, none⟩)), (5, Value.pointer (some ⟨b114, 0, none⟩)), (6, Value.pointer (some ⟨b116, 0, none⟩)), (17, Value.pointer (some ⟨p1909, 0, none⟩)), (64, Value.slice (some ⟨p1719, 0, none⟩) 5 5), (65, vi 5), (66, vi 1)]) ?_ ?_
        ·refine WC.block ?_
         obtain ⟨p1937, h, hk1939⟩ := flow1 h
         obtain ⟨k1938, h⟩ := loop_some h
         refine WC.joinB 2 (σ := (List UInt64 × Own)) (fun x w' => p1937 = .go x.1 ∧ Stp [65, 1015] O1910 wd1913 x.2 w' ∧ OwnSl 1016 Rep.u 22 x.2 w' (Value.slice p1504 m1505 c1506) x.1) (fun x => [(2, Value.pointer (some ⟨p24, 0, none⟩)), (3, Value.pointer (some ⟨p39, 0, none⟩)), (5, Value.pointer (some ⟨b114, 0, none⟩)), (6, Value.pointer (some ⟨b116, 0, none⟩)), (17, Value.pointer (some ⟨p1909, 0, none⟩)), (64, Value.slice (some ⟨p1719, 0, none⟩) 5 5), (65, vi 5), (66, vi 1)]) ?_ ?_
         ·have hf1940 := hf1503.st hst1517 rfl rfl rfl
          have hf1941 := hf1940.st hst1563 rfl rfl rfl
          have hf1942 := hf1941.st hst1570 rfl rfl rfl
          have hf1943 := hf1942.st hst1582 rfl rfl rfl
          have hf1944 := hf1943.st hst1616 rfl rfl rfl
          have hf1945 := hf1944.st hst1623 rfl rfl rfl
          have hf1946 := hf1945.st hst1635 rfl rfl rfl
          have hf1947 := hf1946.st hst1650 rfl rfl rfl
          have hf1948 := hf1947.st hst1665 rfl rfl rfl
          have hf1949 := hf1948.st hst1672 rfl rfl rfl
          have hf1950 := hf1949.st hst1684 rfl rfl rfl
          have hf1951 := hf1950.st hst1722 rfl rfl rfl
          have hf1952 := hf1951.st hst1732 rfl rfl rfl
          have hf1953 := hf1952.st hst1734 rfl rfl rfl
          have hf1954 := hf1953.st hst1741 rfl rfl rfl
          have hf1955 := hf1954.st hst1824 rfl rfl rfl
          have hf1956 := hf1955.st hst1912 rfl rfl rfl
          have hf1957 := hf1956.st hst1914 rfl rfl rfl
          obtain ⟨O1958, hst1959, ho1960⟩ := OwnSl.rlb 1015 rfl hf1957
          refine WC.loop (σ := (List UInt64 × Int × Own)) (fun x k w' => loopN k (law09_FoldKeeps_lp4) (x.1, x.2.1) = some p1937 ∧ Stp [65, 1015] O1910 wd1913 x.2.2 w' ∧ OwnSl 1015 Rep.u 22 x.2.2 w' (Value.slice p1504 m1505 c1506) x.1) (fun x => [(2, Value.pointer (some ⟨p24, 0, none⟩)), (3, Value.pointer (some ⟨p39, 0, none⟩)), (5, Value.pointer (some ⟨b114, 0, none⟩)), (6, Value.pointer (some ⟨b116, 0, none⟩)), (17, Value.pointer (some ⟨p1909, 0, none⟩)), (18, vi x.2.1), (64, Value.slice (some ⟨p1719, 0, none⟩) 5 5), (65, vi 5), (66, vi 1)]) (r1447.Pos.Counts, 0, O1958) k1938 (.cons rfl (.cons rfl (.cons rfl (.cons rfl (.cons rfl (.cons rfl (.cons rfl (.cons rfl (.cons rfl .nil))))))))) ⟨h, (Stp.up hst1959 rfl), ho1960⟩ ?_
          rintro ⟨c1924, i1927, O1928⟩ k1938 wd1929 ⟨h, hst1930, hf1926⟩
          obtain ⟨j1961, q1962, rfl, h, hn1963⟩ := rnd1 h
          unfold law09_FoldKeeps_lp4 at h
          try dsimp only at h hst1930 hf1926
          refine (show WC _ _ _ _ [(2, Value.pointer (some ⟨p24, 0, none⟩)), (3, Value.pointer (some ⟨p39, 0, none⟩)), (5, Value.pointer (some ⟨b114, 0, none⟩)), (6, Value.pointer (some ⟨b116, 0, none⟩)), (17, Value.pointer (some ⟨p1909, 0, none⟩)), (18, vi i1927), (64, Value.slice (some ⟨p1719, 0, none⟩) 5 5), (65, vi 5), (66, vi 1)] _ from ?_)
          refine WC.seq ?_
          refine WC.seq ?_
          refine WC.region ?_
          refine WL.y (Y.move rfl) rfl ?_
          refine WL.y (Y.fieldAddr fo27_2 rfl) rfl ?_
          refine WL.y (Y.fieldAddr fo25_1 rfl) rfl ?_
          have hf1964 := hb1915.st hst1930 rfl
          refine WL.y (Y.loadSc ty23 rfl rfl (hf1964.cell 3 _ rfl)) rfl ?_
          refine WL.y (Y.len ty23 rfl hf1926.src.sl) rfl ?_
          refine WL.y (Y.lss_i rfl rfl) rfl ?_
          refine WL.nil ?_
          refine At.then ?_
          rcases cnd h with ⟨hc1965, h⟩ | ⟨hc1965, h⟩
          ·refine WC.condT' rfl hc1965 ?_
           refine WC.skip ?_
           refine At.then ?_
           refine WC.seq ?_
           refine WC.block ?_
           refine WC.draw 12 O1928 fmix (by kernel_rfl) ?_
           intro wd1966 hst1967
           refine WS.y (Y.fieldAddr fo27_2 rfl) rfl ?_
           refine WS.y (Y.fieldAddr fo25_1 rfl) rfl ?_
           have hf1968 := hf1964.st hst1967 rfl
           refine WS.y (Y.loadSc ty23 rfl rfl (hf1968.cell 3 _ rfl)) rfl ?_
           refine WS.y (Y.move rfl) rfl ?_
           refine WS.y (Y.fieldAddr fo27_2 rfl) rfl ?_
           refine WS.y (Y.fieldAddr fo25_1 rfl) rfl ?_
           refine WS.y (Y.loadSc ty23 rfl rfl (hf1968.cell 3 _ rfl)) rfl ?_
           refine WS.y (Y.move rfl) rfl ?_
           obtain ⟨e1969, he1969, h⟩ := bnd h
           have hf1978 := hf1926.st hst1967 rfl rfl rfl
           obtain ⟨b1970, cap1977, cs1976, hv1971, hi1972, hl1973, hc1974, hok1975⟩ := OwnSl.at hf1978 he1969
           obtain rfl := hok1975
           replace hc1974 : CellsAt _ _ _ [vu e1969] := hc1974
           have hca1979 := CAt.own hf1978 hv1971 hc1974
           refine WS.y (Y.indexAddr ty23 ty22 rfl hv1971 rfl hi1972 hl1973) rfl ?_
           refine WS.y (Y.loadSc ty22 rfl rfl hca1979.at_) rfl ?_
           refine WS.y (Y.add_u (b := 1) rfl rfl) rfl ?_
           obtain ⟨e1980, he1980, h⟩ := bnd h
           obtain ⟨b1981, cap1988, cs1987, hv1982, hi1983, hl1984, hc1985, hok1986⟩ := OwnSl.at hf1978 he1980
           obtain rfl := hok1986
           replace hc1985 : CellsAt _ _ _ [vu e1980] := hc1985
           have hca1989 := CAt.own hf1978 hv1982 hc1985
           refine WS.y (Y.indexAddr ty23 ty22 rfl hv1982 rfl hi1983 hl1984) rfl ?_
           refine WS.tail ?_
           obtain ⟨t1990, ht1990, h⟩ := lt1 h
           refine WL.ren 88 rfl (congrArg vu ht1990.symm) ?_
           obtain ⟨xs1991, hxs1991, h⟩ := bnd h
           refine WL.storeOwn (by decide) ty22 rfl rfl rfl hf1978 hv1982 hxs1991 ?_
           intro wd1992 hst1993 ho1994
           refine WL.nil ?_
           refine At.inBlock ?_
           refine At.then ?_
           refine WC.region ?_
           refine WL.y (Y.move rfl) rfl ?_
           refine WL.y (Y.add_i rfl rfl) rfl ?_
           obtain ⟨i1995, hi1995, h⟩ := lt1 h
           refine WL.yE (Y.assign rfl) (congrArg vi hi1995.symm) rfl ?_
           refine WL.nil ?_
           exact At.round (xs1991, i1995, O1928) j1961 (Nat.lt_succ_self _) ⟨next1 h hn1963, (Stp.trans (Stp.up hst1930 rfl) (Stp.trans (Stp.up hst1967 rfl) (Stp.up hst1993 rfl))), ho1994⟩ (.cons rfl (.cons rfl (.cons rfl (.cons rfl (.cons rfl (.cons rfl (.cons rfl (.cons rfl (.cons rfl .nil)))))))))
          ·refine WC.condF' rfl hc1965 ?_
           refine WC.exit ?_
           refine At.thenX ?_
           refine At.loopX ?_
           obtain ⟨O1996, hst1997, ho1998⟩ := OwnSl.rlb 1016 rfl hf1926
           exact At.hitB (σ := (List UInt64 × Own)) (c1924, O1996) ⟨brk1 h hn1963, (Stp.trans (Stp.up hst1930 rfl) (Stp.up hst1997 rfl)), ho1998⟩ (.cons rfl (.cons rfl (.cons rfl (.cons rfl (.cons rfl (.cons rfl (.cons rfl (.cons rfl .nil))))))))
         ·rintro ⟨c1931, O1934⟩ wd1935 ⟨rfl, hst1936, hf1933⟩
          replace h := flowK_go hk1939
          try dsimp only at h hst1936 hf1933
          refine (show At _ _ _ [(2, Value.pointer (some ⟨p24, 0, none⟩)), (3, Value.pointer (some ⟨p39, 0, none⟩)), (5, Value.pointer (some ⟨b114, 0, none⟩)), (6, Value.pointer (some ⟨b116, 0, none⟩)), (17, Value.pointer (some ⟨p1909, 0, none⟩)), (64, Value.slice (some ⟨p1719, 0, none⟩) 5 5), (65, vi 5), (66, vi 1)] _ from ?_)
          refine At.inBlockHit ?_
          obtain ⟨O1999, hst2000, ho2001⟩ := OwnSl.rlb 1018 rfl hf1933
          exact At.join (σ := (List UInt64 × Own)) (c1931, O1999) ⟨some1 h, (Stp.trans (Stp.up hst1936 rfl) (Stp.up hst2000 rfl)), ho2001⟩ (.cons rfl (.cons rfl (.cons rfl (.cons rfl (.cons rfl (.cons rfl (.cons rfl (.cons rfl .nil))))))))
        ·rintro ⟨c1916, O1919⟩ wd1920 ⟨rfl, hst1921, hf1918⟩
         replace h := hk1923
         try dsimp only at h hst1921 hf1918
         refine (show At _ _ _ [(2, Value.pointer (some ⟨p24, 0, none⟩)), (3, Value.pointer (some ⟨p39, 0, none⟩)), (5, Value.pointer (some ⟨b114, 0, none⟩)), (6, Value.pointer (some ⟨b116, 0, none⟩)), (17, Value.pointer (some ⟨p1909, 0, none⟩)), (64, Value.slice (some ⟨p1719, 0, none⟩) 5 5), (65, vi 5), (66, vi 1)] _ from ?_)
         refine At.then ?_
         refine WC.seq ?_
         refine WC.region ?_
         refine WL.y (Y.assign rfl) rfl ?_
         refine WL.nil ?_
         refine At.then ?_
         obtain ⟨p2008, h, hk2009⟩ := bnd h
         refine WC.join (σ := (List UInt64 × Own)) (fun x w' => x.1 = p2008 ∧ Stp [66, 1019, 1020] O1919 wd1920 x.2 w' ∧ OwnSl 1022 Rep.u 22 x.2 w' (Value.slice p1511 m1512 c1513) x.1) (fun x => [(2, Value.pointer (some ⟨p24, 0, none⟩)), (3, Value.pointer (some ⟨p39, 0, none⟩)), (5, Value.pointer (some ⟨b114, 0, none⟩)), (6, Value.pointer (some ⟨b116, 0, none⟩)), (64, Value.slice (some ⟨p1719, 0, none⟩) 5 5), (65, vi 5), (66, vi 1)]) ?_ ?_
         ·refine WC.block ?_
          obtain ⟨p2023, h, hk2025⟩ := flow1 h
          obtain ⟨k2024, h⟩ := loop_some h
          refine WC.joinB 4 (σ := (List UInt64 × Own)) (fun x w' => p2023 = .go x.1 ∧ Stp [66, 1019] O1919 wd1920 x.2 w' ∧ OwnSl 1020 Rep.u 22 x.2 w' (Value.slice p1511 m1512 c1513) x.1) (fun x => [(2, Value.pointer (some ⟨p24, 0, none⟩)), (3, Value.pointer (some ⟨p39, 0, none⟩)), (5, Value.pointer (some ⟨b114, 0, none⟩)), (6, Value.pointer (some ⟨b116, 0, none⟩)), (64, Value.slice (some ⟨p1719, 0, none⟩) 5 5), (65, vi 5), (66, vi 1)]) ?_ ?_
          ·have hf2026 := hf1510.st hst1517 rfl rfl rfl
           have hf2027 := hf2026.st hst1563 rfl rfl rfl
           have hf2028 := hf2027.st hst1570 rfl rfl rfl
           have hf2029 := hf2028.st hst1582 rfl rfl rfl
           have hf2030 := hf2029.st hst1616 rfl rfl rfl
           have hf2031 := hf2030.st hst1623 rfl rfl rfl
           have hf2032 := hf2031.st hst1635 rfl rfl rfl
           have hf2033 := hf2032.st hst1650 rfl rfl rfl
           have hf2034 := hf2033.st hst1665 rfl rfl rfl
           have hf2035 := hf2034.st hst1672 rfl rfl rfl
           have hf2036 := hf2035.st hst1684 rfl rfl rfl
           have hf2037 := hf2036.st hst1722 rfl rfl rfl
           have hf2038 := hf2037.st hst1732 rfl rfl rfl
           have hf2039 := hf2038.st hst1734 rfl rfl rfl
           have hf2040 := hf2039.st hst1741 rfl rfl rfl
           have hf2041 := hf2040.st hst1824 rfl rfl rfl
           have hf2042 := hf2041.st hst1912 rfl rfl rfl
           have hf2043 := hf2042.st hst1914 rfl rfl rfl
           have hf2044 := hf2043.st hst1921 rfl rfl rfl
           obtain ⟨O2045, hst2046, ho2047⟩ := OwnSl.rlb 1019 rfl hf2044
           refine WC.loop (σ := (List UInt64 × Int × Own)) (fun x k w' => loopN k (law09_FoldKeeps_lp5) (x.1, x.2.1) = some p2023 ∧ Stp [66, 1019] O1919 wd1920 x.2.2 w' ∧ OwnSl 1019 Rep.u 22 x.2.2 w' (Value.slice p1511 m1512 c1513) x.1) (fun x => [(2, Value.pointer (some ⟨p24, 0, none⟩)), (3, Value.pointer (some ⟨p39, 0, none⟩)), (5, Value.pointer (some ⟨b114, 0, none⟩)), (6, Value.pointer (some ⟨b116, 0, none⟩)), (17, Value.pointer (some ⟨p1909, 0, none⟩)), (19, vi x.2.1), (64, Value.slice (some ⟨p1719, 0, none⟩) 5 5), (65, vi 5), (66, vi 1)]) (r1447.Neg.Counts, 0, O2045) k2024 (.cons rfl (.cons rfl (.cons rfl (.cons rfl (.cons rfl (.cons rfl (.cons rfl (.cons rfl (.cons rfl .nil))))))))) ⟨h, (Stp.up hst2046 rfl), ho2047⟩ ?_
           rintro ⟨c2010, i2013, O2014⟩ k2024 wd2015 ⟨h, hst2016, hf2012⟩
           obtain ⟨j2048, q2049, rfl, h, hn2050⟩ := rnd1 h
           unfold law09_FoldKeeps_lp5 at h
           try dsimp only at h hst2016 hf2012
           refine (show WC _ _ _ _ [(2, Value.pointer (some ⟨p24, 0, none⟩)), (3, Value.pointer (some ⟨p39, 0, none⟩)), (5, Value.pointer (some ⟨b114, 0, none⟩)), (6, Value.pointer (some ⟨b116, 0, none⟩)), (17, Value.pointer (some ⟨p1909, 0, none⟩)), (19, vi i2013), (64, Value.slice (some ⟨p1719, 0, none⟩) 5 5), (65, vi 5), (66, vi 1)] _ from ?_)
           refine WC.seq ?_
           refine WC.seq ?_
           refine WC.region ?_
           refine WL.y (Y.move rfl) rfl ?_
           refine WL.y (Y.fieldAddr fo27_3 rfl) rfl ?_
           refine WL.y (Y.fieldAddr fo25_1 rfl) rfl ?_
           have hf2051 := hb1915.st hst1921 rfl
           have hf2052 := hf2051.st hst2016 rfl
           refine WL.y (Y.loadSc ty23 rfl rfl (hf2052.cell 5 _ rfl)) rfl ?_
           refine WL.y (Y.len ty23 rfl hf2012.src.sl) rfl ?_
           refine WL.y (Y.lss_i rfl rfl) rfl ?_
           refine WL.nil ?_
           refine At.then ?_
           rcases cnd h with ⟨hc2053, h⟩ | ⟨hc2053, h⟩
           ·refine WC.condT' rfl hc2053 ?_
            refine WC.skip ?_
            refine At.then ?_
            refine WC.seq ?_
            refine WC.block ?_
            refine WC.draw 12 O2014 fmix (by kernel_rfl) ?_
            intro wd2054 hst2055
            refine WS.y (Y.fieldAddr fo27_3 rfl) rfl ?_
            refine WS.y (Y.fieldAddr fo25_1 rfl) rfl ?_
            have hf2056 := hf2052.st hst2055 rfl
            refine WS.y (Y.loadSc ty23 rfl rfl (hf2056.cell 5 _ rfl)) rfl ?_
            refine WS.y (Y.move rfl) rfl ?_
            refine WS.y (Y.fieldAddr fo27_3 rfl) rfl ?_
            refine WS.y (Y.fieldAddr fo25_1 rfl) rfl ?_
            refine WS.y (Y.loadSc ty23 rfl rfl (hf2056.cell 5 _ rfl)) rfl ?_
            refine WS.y (Y.move rfl) rfl ?_
            obtain ⟨e2057, he2057, h⟩ := bnd h
            have hf2066 := hf2012.st hst2055 rfl rfl rfl
            obtain ⟨b2058, cap2065, cs2064, hv2059, hi2060, hl2061, hc2062, hok2063⟩ := OwnSl.at hf2066 he2057
            obtain rfl := hok2063
            replace hc2062 : CellsAt _ _ _ [vu e2057] := hc2062
            have hca2067 := CAt.own hf2066 hv2059 hc2062
            refine WS.y (Y.indexAddr ty23 ty22 rfl hv2059 rfl hi2060 hl2061) rfl ?_
            refine WS.y (Y.loadSc ty22 rfl rfl hca2067.at_) rfl ?_
            refine WS.y (Y.add_u (b := 1) rfl rfl) rfl ?_
            obtain ⟨e2068, he2068, h⟩ := bnd h
            obtain ⟨b2069, cap2076, cs2075, hv2070, hi2071, hl2072, hc2073, hok2074⟩ := OwnSl.at hf2066 he2068
            obtain rfl := hok2074
            replace hc2073 : CellsAt _ _ _ [vu e2068] := hc2073
            have hca2077 := CAt.own hf2066 hv2070 hc2073
            refine WS.y (Y.indexAddr ty23 ty22 rfl hv2070 rfl hi2071 hl2072) rfl ?_
            refine WS.tail ?_
            obtain ⟨t2078, ht2078, h⟩ := lt1 h
            refine WL.ren 108 rfl (congrArg vu ht2078.symm) ?_
            obtain ⟨xs2079, hxs2079, h⟩ := bnd h
            refine WL.storeOwn (by decide) ty22 rfl rfl rfl hf2066 hv2070 hxs2079 ?_
            intro wd2080 hst2081 ho2082
            refine WL.nil ?_
            refine At.inBlock ?_
            refine At.then ?_
            refine WC.region ?_
            refine WL.y (Y.move rfl) rfl ?_
            refine WL.y (Y.add_i rfl rfl) rfl ?_
            obtain ⟨i2083, hi2083, h⟩ := lt1 h
            refine WL.yE (Y.assign rfl) (congrArg vi hi2083.symm) rfl ?_
            refine WL.nil ?_
            exact At.round (xs2079, i2083, O2014) j2048 (Nat.lt_succ_self _) ⟨next1 h hn2050, (Stp.trans (Stp.up hst2016 rfl) (Stp.trans (Stp.up hst2055 rfl) (Stp.up hst2081 rfl))), ho2082⟩ (.cons rfl (.cons rfl (.cons rfl (.cons rfl (.cons rfl (.cons rfl (.cons rfl (.cons rfl (.cons rfl .nil)))))))))
           ·refine WC.condF' rfl hc2053 ?_
            refine WC.exit ?_
            refine At.thenX ?_
            refine At.loopX ?_
            obtain ⟨O2084, hst2085, ho2086⟩ := OwnSl.rlb 1020 rfl hf2012
            exact At.hitB (σ := (List UInt64 × Own)) (c2010, O2084) ⟨brk1 h hn2050, (Stp.trans (Stp.up hst2016 rfl) (Stp.up hst2085 rfl)), ho2086⟩ (.cons rfl (.cons rfl (.cons rfl (.cons rfl (.cons rfl (.cons rfl (.cons rfl .nil)))))))
          ·rintro ⟨c2017, O2020⟩ wd2021 ⟨rfl, hst2022, hf2019⟩
           replace h := flowK_go hk2025
           try dsimp only at h hst2022 hf2019
           refine (show At _ _ _ [(2, Value.pointer (some ⟨p24, 0, none⟩)), (3, Value.pointer (some ⟨p39, 0, none⟩)), (5, Value.pointer (some ⟨b114, 0, none⟩)), (6, Value.pointer (some ⟨b116, 0, none⟩)), (64, Value.slice (some ⟨p1719, 0, none⟩) 5 5), (65, vi 5), (66, vi 1)] _ from ?_)
           refine At.inBlockHit ?_
           obtain ⟨O2087, hst2088, ho2089⟩ := OwnSl.rlb 1022 rfl hf2019
           exact At.join (σ := (List UInt64 × Own)) (c2017, O2087) ⟨some1 h, (Stp.trans (Stp.up hst2022 rfl) (Stp.up hst2088 rfl)), ho2089⟩ (.cons rfl (.cons rfl (.cons rfl (.cons rfl (.cons rfl (.cons rfl (.cons rfl .nil)))))))
         ·rintro ⟨c2002, O2005⟩ wd2006 ⟨rfl, hst2007, hf2004⟩
          replace h := hk2009
          try dsimp only at h hst2007 hf2004
          refine (show At _ _ _ [(2, Value.pointer (some ⟨p24, 0, none⟩)), (3, Value.pointer (some ⟨p39, 0, none⟩)), (5, Value.pointer (some ⟨b114, 0, none⟩)), (6, Value.pointer (some ⟨b116, 0, none⟩)), (64, Value.slice (some ⟨p1719, 0, none⟩) 5 5), (65, vi 5), (66, vi 1)] _ from ?_)
          refine At.inBlock ?_
          refine At.then ?_
          refine WC.region ?_
          refine WL.yE (Y.add_i rfl rfl) (congrArg vi (by decide : w64 (1 + 1) = 2)) rfl ?_
          refine WL.y (Y.move rfl) rfl ?_
          refine WL.nil ?_
          refine At.again ?_
          refine WC.seq ?_
          refine WC.region ?_
          refine WL.yE (Y.lss_i rfl rfl) (congrArg Value.bool (by decide : decide ((2 : Int) < (5 : Int)) = true)) rfl ?_
          refine WL.nil ?_
          refine At.then ?_
          refine WC.seq ?_
          refine WC.condT rfl ?_
          refine WC.skip ?_
          refine At.then ?_
          refine WC.seq ?_
          refine WC.block ?_
          refine WC.seq ?_
          refine WC.region ?_
          refine WL.yE (Y.indexAddr ty45 ty27 rfl rfl rfl (by decide) (by decide)) (show (Value.pointer (some ⟨p1719, 0 + (2 : Int).toNat * 6, none⟩)) = .pointer (some ⟨p1719, 12, none⟩) from rfl) rfl ?_
          have hf2090 := hf1907.st hst1912 rfl
          have hf2091 := hf2090.st hst1914 rfl
          have hf2092 := hf2091.st hst1921 rfl
          have hf2093 := hf2092.st hst2007 rfl
          refine WL.y (Y.loadAg ty27 rfl rfl (hf2093.cells 12 [vi r1549.Scale, vu r1549.Zero, vi r1549.Pos.Offset, (Value.slice p1572 m1573 c1574), vi r1549.Neg.Offset, (Value.slice p1577 m1578 c1579)] rfl) rfl) rfl ?_
          refine WL.alloc (O := O2005) 82 [vi 0, vu 0, vi 0, Value.slice none 0 0, vi 0, Value.slice none 0 0] ty27 rfl rfl ?_
          intro p2095 O2096 wd2097 hst2098 hb2094
          refine WL.store (v := Value.agg (List.toArray [vi r1549.Scale, vu r1549.Zero, vi r1549.Pos.Offset, (Value.slice p1572 m1573 c1574), vi r1549.Neg.Offset, (Value.slice p1577 m1578 c1579)])) (cells' := [vi r1549.Scale, vu r1549.Zero, vi r1549.Pos.Offset, (Value.slice p1572 m1573 c1574), vi r1549.Neg.Offset, (Value.slice p1577 m1578 c1579)]) ty27 rfl rfl hb2094 rfl (Nat.le_of_ble_eq_true rfl) rfl rfl ?_
          intro wd2099 hst2100 hb2101
          refine WL.nil ?_
          refine At.then ?_
          refine WC.seq ?_
          refine WC.seq ?_
          refine WC.region ?_
          refine WL.y (Y.assign rfl) rfl ?_
          refine WL.nil ?_
          refine At.then ?_
          obtain ⟨p2108, h, hk2109⟩ := bnd h
          refine WC.join (σ := (List UInt64 × Own)) (fun x w' => x.1 = p2108 ∧ Stp [69, 1023, 1024] O2096 wd2099 x.2 w' ∧ OwnSl 1026 Rep.u 22 x.2 w' (Value.slice p1572 m1573 c1574) x.1) (fun x => [(2, Value.pointer (some ⟨p24, 0, none⟩)), (3, Value.pointer (some ⟨p39, 0, none⟩)), (5, Value.pointer (some ⟨b114, 0, none⟩)), (6, Value.pointer (some ⟨b116, 0, none⟩)), (17, Value.pointer (some ⟨p2095, 0, none⟩)), (64, Value.slice (some ⟨p1719, 0, none⟩) 5 5), (65, vi 5), (66, vi 2)]) ?_ ?_
          ·refine WC.block ?_
           obtain ⟨p2123, h, hk2125⟩ := flow1 h
           obtain ⟨k2124, h⟩ := loop_some h
           refine WC.joinB 2 (σ := (List UInt64 × Own)) (fun x w' => p2123 = .go x.1 ∧ Stp [69, 1023] O2096 wd2099 x.2 w' ∧ OwnSl 1024 Rep.u 22 x.2 w' (Value.slice p1572 m1573 c1574) x.1) (fun x => [(2, Value.pointer (some ⟨p24, 0, none⟩)), (3, Value.pointer (some ⟨p39, 0, none⟩)), (5, Value.pointer (some ⟨b114, 0, none⟩)), (6, Value.pointer (some ⟨b116, 0, none⟩)), (17, Value.pointer (some ⟨p2095, 0, none⟩)), (64, Value.slice (some ⟨p1719, 0, none⟩) 5 5), (65, vi 5), (66, vi 2)]) ?_ ?_
           ·have hf2126 := hf1571.st hst1582 rfl rfl rfl
            have hf2127 := hf2126.st hst1616 rfl rfl rfl
            have hf2128 := hf2127.st hst1623 rfl rfl rfl
            have hf2129 := hf2128.st hst1635 rfl rfl rfl
            have hf2130 := hf2129.st hst1650 rfl rfl rfl
            have hf2131 := hf2130.st hst1665 rfl rfl rfl
            have hf2132 := hf2131.st hst1672 rfl rfl rfl
            have hf2133 := hf2132.st hst1684 rfl rfl rfl
            have hf2134 := hf2133.st hst1722 rfl rfl rfl
            have hf2135 := hf2134.st hst1732 rfl rfl rfl
            have hf2136 := hf2135.st hst1734 rfl rfl rfl
            have hf2137 := hf2136.st hst1741 rfl rfl rfl
            have hf2138 := hf2137.st hst1824 rfl rfl rfl
            have hf2139 := hf2138.st hst1912 rfl rfl rfl
            have hf2140 := hf2139.st hst1914 rfl rfl rfl
            have hf2141 := hf2140.st hst1921 rfl rfl rfl
            have hf2142 := hf2141.st hst2007 rfl rfl rfl
            have hf2143 := hf2142.st hst2098 rfl rfl rfl
            have hf2144 := hf2143.st hst2100 rfl rfl rfl
            obtain ⟨O2145, hst2146, ho2147⟩ := OwnSl.rlb 1023 rfl hf2144
            refine WC.loop (σ := (List UInt64 × Int × Own)) (fun x k w' => loopN k (law09_FoldKeeps_lp6) (x.1, x.2.1) = some p2123 ∧ Stp [69, 1023] O2096 wd2099 x.2.2 w' ∧ OwnSl 1023 Rep.u 22 x.2.2 w' (Value.slice p1572 m1573 c1574) x.1) (fun x => [(2, Value.pointer (some ⟨p24, 0, none⟩)), (3, Value.pointer (some ⟨p39, 0, none⟩)), (5, Value.pointer (some ⟨b114, 0, none⟩)), (6, Value.pointer (some ⟨b116, 0, none⟩)), (17, Value.pointer (some ⟨p2095, 0, none⟩)), (18, vi x.2.1), (64, Value.slice (some ⟨p1719, 0, none⟩) 5 5), (65, vi 5), (66, vi 2)]) (r1549.Pos.Counts, 0, O2145) k2124 (.cons rfl (.cons rfl (.cons rfl (.cons rfl (.cons rfl (.cons rfl (.cons rfl (.cons rfl (.cons rfl .nil))))))))) ⟨h, (Stp.up hst2146 rfl), ho2147⟩ ?_
            rintro ⟨c2110, i2113, O2114⟩ k2124 wd2115 ⟨h, hst2116, hf2112⟩
            obtain ⟨j2148, q2149, rfl, h, hn2150⟩ := rnd1 h
            unfold law09_FoldKeeps_lp6 at h
            try dsimp only at h hst2116 hf2112
            refine (show WC _ _ _ _ [(2, Value.pointer (some ⟨p24, 0, none⟩)), (3, Value.pointer (some ⟨p39, 0, none⟩)), (5, Value.pointer (some ⟨b114, 0, none⟩)), (6, Value.pointer (some ⟨b116, 0, none⟩)), (17, Value.pointer (some ⟨p2095, 0, none⟩)), (18, vi i2113), (64, Value.slice (some ⟨p1719, 0, none⟩) 5 5), (65, vi 5), (66, vi 2)] _ from ?_)
            refine WC.seq ?_
            refine WC.seq ?_
            refine WC.region ?_
            refine WL.y (Y.move rfl) rfl ?_
            refine WL.y (Y.fieldAddr fo27_2 rfl) rfl ?_
            refine WL.y (Y.fieldAddr fo25_1 rfl) rfl ?_
            have hf2151 := hb2101.st hst2116 rfl
            refine WL.y (Y.loadSc ty23 rfl rfl (hf2151.cell 3 _ rfl)) rfl ?_
            refine WL.y (Y.len ty23 rfl hf2112.src.sl) rfl ?_
            refine WL.y (Y.lss_i rfl rfl) rfl ?_
            refine WL.nil ?_
            refine At.then ?_
            rcases cnd h with ⟨hc2152, h⟩ | ⟨hc2152, h⟩
            ·refine WC.condT' rfl hc2152 ?_
             refine WC.skip ?_
             refine At.then ?_
             refine WC.seq ?_
             refine WC.block ?_
             refine WC.draw 12 O2114 fmix (by kernel_rfl) ?_
             intro wd2153 hst2154
             refine WS.y (Y.fieldAddr fo27_2 rfl) rfl ?_
             refine WS.y (Y.fieldAddr fo25_1 rfl) rfl ?_
             have hf2155 := hf2151.st hst2154 rfl
             refine WS.y (Y.loadSc ty23 rfl rfl (hf2155.cell 3 _ rfl)) rfl ?_
             refine WS.y (Y.move rfl) rfl ?_
             refine WS.y (Y.fieldAddr fo27_2 rfl) rfl ?_
             refine WS.y (Y.fieldAddr fo25_1 rfl) rfl ?_
             refine WS.y (Y.loadSc ty23 rfl rfl (hf2155.cell 3 _ rfl)) rfl ?_
             refine WS.y (Y.move rfl) rfl ?_
             obtain ⟨e2156, he2156, h⟩ := bnd h
             have hf2165 := hf2112.st hst2154 rfl rfl rfl
             obtain ⟨b2157, cap2164, cs2163, hv2158, hi2159, hl2160, hc2161, hok2162⟩ := OwnSl.at hf2165 he2156
             obtain rfl := hok2162
             replace hc2161 : CellsAt _ _ _ [vu e2156] := hc2161
             have hca2166 := CAt.own hf2165 hv2158 hc2161
             refine WS.y (Y.indexAddr ty23 ty22 rfl hv2158 rfl hi2159 hl2160) rfl ?_
             refine WS.y (Y.loadSc ty22 rfl rfl hca2166.at_) rfl ?_
             refine WS.y (Y.add_u (b := 1) rfl rfl) rfl ?_
             obtain ⟨e2167, he2167, h⟩ := bnd h
             obtain ⟨b2168, cap2175, cs2174, hv2169, hi2170, hl2171, hc2172, hok2173⟩ := OwnSl.at hf2165 he2167
             obtain rfl := hok2173
             replace hc2172 : CellsAt _ _ _ [vu e2167] := hc2172
             have hca2176 := CAt.own hf2165 hv2169 hc2172
             refine WS.y (Y.indexAddr ty23 ty22 rfl hv2169 rfl hi2170 hl2171) rfl ?_
             refine WS.tail ?_
             obtain ⟨t2177, ht2177, h⟩ := lt1 h
             refine WL.ren 88 rfl (congrArg vu ht2177.symm) ?_
             obtain ⟨xs2178, hxs2178, h⟩ := bnd h
             refine WL.storeOwn (by decide) ty22 rfl rfl rfl hf2165 hv2169 hxs2178 ?_
             intro wd2179 hst2180 ho2181
             refine WL.nil ?_
             refine At.inBlock ?_
             refine At.then ?_
             refine WC.region ?_
             refine WL.y (Y.move rfl) rfl ?_
             refine WL.y (Y.add_i rfl rfl) rfl ?_
             obtain ⟨i2182, hi2182, h⟩ := lt1 h
             refine WL.yE (Y.assign rfl) (congrArg vi hi2182.symm) rfl ?_
             refine WL.nil ?_
             exact At.round (xs2178, i2182, O2114) j2148 (Nat.lt_succ_self _) ⟨next1 h hn2150, (Stp.trans (Stp.up hst2116 rfl) (Stp.trans (Stp.up hst2154 rfl) (Stp.up hst2180 rfl))), ho2181⟩ (.cons rfl (.cons rfl (.cons rfl (.cons rfl (.cons rfl (.cons rfl (.cons rfl (.cons rfl (.cons rfl .nil)))))))))
            ·refine WC.condF' rfl hc2152 ?_
             refine WC.exit ?_
             refine At.thenX ?_
             refine At.loopX ?_
             obtain ⟨O2183, hst2184, ho2185⟩ := OwnSl.rlb 1024 rfl hf2112
             exact At.hitB (σ := (List UInt64 × Own)) (c2110, O2183) ⟨brk1 h hn2150, (Stp.trans (Stp.up hst2116 rfl) (Stp.up hst2184 rfl)), ho2185⟩ (.cons rfl (.cons rfl (.cons rfl (.cons rfl (.cons rfl (.cons rfl (.cons rfl (.cons rfl .nil))))))))
           ·rintro ⟨c2117, O2120⟩ wd2121 ⟨rfl, hst2122, hf2119⟩
            replace h := flowK_go hk2125
            try dsimp only at h hst2122 hf2119
            refine (show At _ _ _ [(2, Value.pointer (some ⟨p24, 0, none⟩)), (3, Value.pointer (some ⟨p39, 0, none⟩)), (5, Value.pointer (some ⟨b114, 0, none⟩)), (6, Value.pointer (some ⟨b116, 0, none⟩)), (17, Value.pointer (some ⟨p2095, 0, none⟩)), (64, Value.slice (some ⟨p1719, 0, none⟩) 5 5), (65, vi 5), (66, vi 2)] _ from ?_)
            refine At.inBlockHit ?_
            obtain ⟨O2186, hst2187, ho2188⟩ := OwnSl.rlb 1026 rfl hf2119
            exact At.join (σ := (List UInt64 × Own)) (c2117, O2186) ⟨some1 h, (Stp.trans (Stp.up hst2122 rfl) (Stp.up hst2187 rfl)), ho2188⟩ (.cons rfl (.cons rfl (.cons rfl (.cons rfl (.cons rfl (.cons rfl (.cons rfl (.cons rfl .nil))))))))
          ·rintro ⟨c2102, O2105⟩ wd2106 ⟨rfl, hst2107, hf2104⟩
           replace h := hk2109
           try dsimp only at h hst2107 hf2104
           refine (show At _ _ _ [(2, Value.pointer (some ⟨p24, 0, none⟩)), (3, Value.pointer (some ⟨p39, 0, none⟩)), (5, Value.pointer (some ⟨b114, 0, none⟩)), (6, Value.pointer (some ⟨b116, 0, none⟩)), (17, Value.pointer (some ⟨p2095, 0, none⟩)), (64, Value.slice (some ⟨p1719, 0, none⟩) 5 5), (65, vi 5), (66, vi 2)] _ from ?_)
           refine At.then ?_
           refine WC.seq ?_
           refine WC.region ?_
           refine WL.y (Y.assign rfl) rfl ?_
           refine WL.nil ?_
           refine At.then ?_
           obtain ⟨p2195, h, hk2196⟩ := bnd h
           refine WC.join (σ := (List UInt64 × Own)) (fun x w' => x.1 = p2195 ∧ Stp [70, 1027, 1028] O2105 wd2106 x.2 w' ∧ OwnSl 1030 Rep.u 22 x.2 w' (Value.slice p1577 m1578 c1579) x.1) (fun x => [(2, Value.pointer (some ⟨p24, 0, none⟩)), (3, Value.pointer (some ⟨p39, 0, none⟩)), (5, Value.pointer (some ⟨b114, 0, none⟩)), (6, Value.pointer (some ⟨b116, 0, none⟩)), (64, Value.slice (some ⟨p1719, 0, none⟩) 5 5), (65, vi 5), (66, vi 2)]) ?_ ?_
           ·refine WC.block ?_
            obtain ⟨p2210, h, hk2212⟩ := flow1 h
            obtain ⟨k2211, h⟩ := loop_some h
            refine WC.joinB 4 (σ := (List UInt64 × Own)) (fun x w' => p2210 = .go x.1 ∧ Stp [70, 1027] O2105 wd2106 x.2 w' ∧ OwnSl 1028 Rep.u 22 x.2 w' (Value.slice p1577 m1578 c1579) x.1) (fun x => [(2, Value.pointer (some ⟨p24, 0, none⟩)), (3, Value.pointer (some ⟨p39, 0, none⟩)), (5, Value.pointer (some ⟨b114, 0, none⟩)), (6, Value.pointer (some ⟨b116, 0, none⟩)), (64, Value.slice (some ⟨p1719, 0, none⟩) 5 5), (65, vi 5), (66, vi 2)]) ?_ ?_
            ·have hf2213 := hf1576.st hst1582 rfl rfl rfl
             have hf2214 := hf2213.st hst1616 rfl rfl rfl
             have hf2215 := hf2214.st hst1623 rfl rfl rfl
             have hf2216 := hf2215.st hst1635 rfl rfl rfl
             have hf2217 := hf2216.st hst1650 rfl rfl rfl
             have hf2218 := hf2217.st hst1665 rfl rfl rfl
             have hf2219 := hf2218.st hst1672 rfl rfl rfl
             have hf2220 := hf2219.st hst1684 rfl rfl rfl
             have hf2221 := hf2220.st hst1722 rfl rfl rfl
             have hf2222 := hf2221.st hst1732 rfl rfl rfl
             have hf2223 := hf2222.st hst1734 rfl rfl rfl
             have hf2224 := hf2223.st hst1741 rfl rfl rfl
             have hf2225 := hf2224.st hst1824 rfl rfl rfl
             have hf2226 := hf2225.st hst1912 rfl rfl rfl
             have hf2227 := hf2226.st hst1914 rfl rfl rfl
             have hf2228 := hf2227.st hst1921 rfl rfl rfl
             have hf2229 := hf2228.st hst2007 rfl rfl rfl
             have hf2230 := hf2229.st hst2098 rfl rfl rfl
             have hf2231 := hf2230.st hst2100 rfl rfl rfl
             have hf2232 := hf2231.st hst2107 rfl rfl rfl
             obtain ⟨O2233, hst2234, ho2235⟩ := OwnSl.rlb 1027 rfl hf2232
             refine WC.loop (σ := (List UInt64 × Int × Own)) (fun x k w' => loopN k (law09_FoldKeeps_lp7) (x.1, x.2.1) = some p2210 ∧ Stp [70, 1027] O2105 wd2106 x.2.2 w' ∧ OwnSl 1027 Rep.u 22 x.2.2 w' (Value.slice p1577 m1578 c1579) x.1) (fun x => [(2, Value.pointer (some ⟨p24, 0, none⟩)), (3, Value.pointer (some ⟨p39, 0, none⟩)), (5, Value.pointer (some ⟨b114, 0, none⟩)), (6, Value.pointer (some ⟨b116, 0, none⟩)), (17, Value.pointer (some ⟨p2095, 0, none⟩)), (19, vi x.2.1), (64, Value.slice (some ⟨p1719, 0, none⟩) 5 5), (65, vi 5), (66, vi 2)]) (r1549.Neg.Counts, 0, O2233) k2211 (.cons rfl (.cons rfl (.cons rfl (.cons rfl (.cons rfl (.cons rfl (.cons rfl (.cons rfl (.cons rfl .nil))))))))) ⟨h, (Stp.up hst2234 rfl), ho2235⟩ ?_
             rintro ⟨c2197, i2200, O2201⟩ k2211 wd2202 ⟨h, hst2203, hf2199⟩
             obtain ⟨j2236, q2237, rfl, h, hn2238⟩ := rnd1 h
             unfold law09_FoldKeeps_lp7 at h
             try dsimp only at h hst2203 hf2199
             refine (show WC _ _ _ _ [(2, Value.pointer (some ⟨p24, 0, none⟩)), (3, Value.pointer (some ⟨p39, 0, none⟩)), (5, Value.pointer (some ⟨b114, 0, none⟩)), (6, Value.pointer (some ⟨b116, 0, none⟩)), (17, Value.pointer (some ⟨p2095, 0, none⟩)), (19, vi i2200), (64, Value.slice (some ⟨p1719, 0, none⟩) 5 5), (65, vi 5), (66, vi 2)] _ from ?_)
             refine WC.seq ?_
             refine WC.seq ?_
             refine WC.region ?_
             refine WL.y (Y.move rfl) rfl ?_
             refine WL.y (Y.fieldAddr fo27_3 rfl) rfl ?_
             refine WL.y (Y.fieldAddr fo25_1 rfl) rfl ?_
             have hf2239 := hb2101.st hst2107 rfl
             have hf2240 := hf2239.st hst2203 rfl
             refine WL.y (Y.loadSc ty23 rfl rfl (hf2240.cell 5 _ rfl)) rfl ?_
             refine WL.y (Y.len ty23 rfl hf2199.src.sl) rfl ?_
             refine WL.y (Y.lss_i rfl rfl) rfl ?_
             refine WL.nil ?_
             refine At.then ?_
             rcases cnd h with ⟨hc2241, h⟩ | ⟨hc2241, h⟩
             ·refine WC.condT' rfl hc2241 ?_
              refine WC.skip ?_
              refine At.then ?_
              refine WC.seq ?_
              refine WC.block ?_
              refine WC.draw 12 O2201 fmix (by kernel_rfl) ?_
              intro wd2242 hst2243
              refine WS.y (Y.fieldAddr fo27_3 rfl) rfl ?_
              refine WS.y (Y.fieldAddr fo25_1 rfl) rfl ?_
              have hf2244 := hf2240.st hst2243 rfl
              refine WS.y (Y.loadSc ty23 rfl rfl (hf2244.cell 5 _ rfl)) rfl ?_
              refine WS.y (Y.move rfl) rfl ?_
              refine WS.y (Y.fieldAddr fo27_3 rfl) rfl ?_
              refine WS.y (Y.fieldAddr fo25_1 rfl) rfl ?_
              refine WS.y (Y.loadSc ty23 rfl rfl (hf2244.cell 5 _ rfl)) rfl ?_
              refine WS.y (Y.move rfl) rfl ?_
              obtain ⟨e2245, he2245, h⟩ := bnd h
              have hf2254 := hf2199.st hst2243 rfl rfl rfl
              obtain ⟨b2246, cap2253, cs2252, hv2247, hi2248, hl2249, hc2250, hok2251⟩ := OwnSl.at hf2254 he2245
              obtain rfl := hok2251
              replace hc2250 : CellsAt _ _ _ [vu e2245] := hc2250
              have hca2255 := CAt.own hf2254 hv2247 hc2250
              refine WS.y (Y.indexAddr ty23 ty22 rfl hv2247 rfl hi2248 hl2249) rfl ?_
              refine WS.y (Y.loadSc ty22 rfl rfl hca2255.at_) rfl ?_
              refine WS.y (Y.add_u (b := 1) rfl rfl) rfl ?_
              obtain ⟨e2256, he2256, h⟩ := bnd h
              obtain ⟨b2257, cap2264, cs2263, hv2258, hi2259, hl2260, hc2261, hok2262⟩ := OwnSl.at hf2254 he2256
              obtain rfl := hok2262
              replace hc2261 : CellsAt _ _ _ [vu e2256] := hc2261
              have hca2265 := CAt.own hf2254 hv2258 hc2261
              refine WS.y (Y.indexAddr ty23 ty22 rfl hv2258 rfl hi2259 hl2260) rfl ?_
              refine WS.tail ?_
              obtain ⟨t2266, ht2266, h⟩ := lt1 h
              refine WL.ren 108 rfl (congrArg vu ht2266.symm) ?_
              obtain ⟨xs2267, hxs2267, h⟩ := bnd h
              refine WL.storeOwn (by decide) ty22 rfl rfl rfl hf2254 hv2258 hxs2267 ?_
              intro wd2268 hst2269 ho2270
              refine WL.nil ?_
              refine At.inBlock ?_
              refine At.then ?_
              refine WC.region ?_
              refine WL.y (Y.move rfl) rfl ?_
              refine WL.y (Y.add_i rfl rfl) rfl ?_
              obtain ⟨i2271, hi2271, h⟩ := lt1 h
              refine WL.yE (Y.assign rfl) (congrArg vi hi2271.symm) rfl ?_
              refine WL.nil ?_
              exact At.round (xs2267, i2271, O2201) j2236 (Nat.lt_succ_self _) ⟨next1 h hn2238, (Stp.trans (Stp.up hst2203 rfl) (Stp.trans (Stp.up hst2243 rfl) (Stp.up hst2269 rfl))), ho2270⟩ (.cons rfl (.cons rfl (.cons rfl (.cons rfl (.cons rfl (.cons rfl (.cons rfl (.cons rfl (.cons rfl .nil)))))))))
             ·refine WC.condF' rfl hc2241 ?_
              refine WC.exit ?_
              refine At.thenX ?_
              refine At.loopX ?_
              obtain ⟨O2272, hst2273, ho2274⟩ := OwnSl.rlb 1028 rfl hf2199
              exact At.hitB (σ := (List UInt64 × Own)) (c2197, O2272) ⟨brk1 h hn2238, (Stp.trans (Stp.up hst2203 rfl) (Stp.up hst2273 rfl)), ho2274⟩ (.cons rfl (.cons rfl (.cons rfl (.cons rfl (.cons rfl (.cons rfl (.cons rfl .nil)))))))
            ·rintro ⟨c2204, O2207⟩ wd2208 ⟨rfl, hst2209, hf2206⟩
             replace h := flowK_go hk2212
             try dsimp only at h hst2209 hf2206
             refine (show At _ _ _ [(2, Value.pointer (some ⟨p24, 0, none⟩)), (3, Value.pointer (some ⟨p39, 0, none⟩)), (5, Value.pointer (some ⟨b114, 0, none⟩)), (6, Value.pointer (some ⟨b116, 0, none⟩)), (64, Value.slice (some ⟨p1719, 0, none⟩) 5 5), (65, vi 5), (66, vi 2)] _ from ?_)
             refine At.inBlockHit ?_
             obtain ⟨O2275, hst2276, ho2277⟩ := OwnSl.rlb 1030 rfl hf2206
             exact At.join (σ := (List UInt64 × Own)) (c2204, O2275) ⟨some1 h, (Stp.trans (Stp.up hst2209 rfl) (Stp.up hst2276 rfl)), ho2277⟩ (.cons rfl (.cons rfl (.cons rfl (.cons rfl (.cons rfl (.cons rfl (.cons rfl .nil)))))))
           ·rintro ⟨c2189, O2192⟩ wd2193 ⟨rfl, hst2194, hf2191⟩
            replace h := hk2196
            try dsimp only at h hst2194 hf2191
            refine (show At _ _ _ [(2, Value.pointer (some ⟨p24, 0, none⟩)), (3, Value.pointer (some ⟨p39, 0, none⟩)), (5, Value.pointer (some ⟨b114, 0, none⟩)), (6, Value.pointer (some ⟨b116, 0, none⟩)), (64, Value.slice (some ⟨p1719, 0, none⟩) 5 5), (65, vi 5), (66, vi 2)] _ from ?_)
            refine At.inBlock ?_
            refine At.then ?_
            refine WC.region ?_
            refine WL.yE (Y.add_i rfl rfl) (congrArg vi (by decide : w64 (2 + 1) = 3)) rfl ?_
            refine WL.y (Y.move rfl) rfl ?_
            refine WL.nil ?_
            refine At.again ?_
            refine WC.seq ?_
            refine WC.region ?_
            refine WL.yE (Y.lss_i rfl rfl) (congrArg Value.bool (by decide : decide ((3 : Int) < (5 : Int)) = true)) rfl ?_
            refine WL.nil ?_
            refine At.then ?_
            refine WC.seq ?_
            refine WC.condT rfl ?_
            refine WC.skip ?_
            refine At.then ?_
            refine WC.seq ?_
            refine WC.block ?_
            refine WC.seq ?_
            refine WC.region ?_
            refine WL.yE (Y.indexAddr ty45 ty27 rfl rfl rfl (by decide) (by decide)) (show (Value.pointer (some ⟨p1719, 0 + (3 : Int).toNat * 6, none⟩)) = .pointer (some ⟨p1719, 18, none⟩) from rfl) rfl ?_
            have hf2278 := hf2093.st hst2098 rfl
            have hf2279 := hf2278.st hst2100 rfl
            have hf2280 := hf2279.st hst2107 rfl
            have hf2281 := hf2280.st hst2194 rfl
            refine WL.y (Y.loadAg ty27 rfl rfl (hf2281.cells 18 [vi r1602.Scale, vu r1602.Zero, vi r1602.Pos.Offset, (Value.slice p1625 m1626 c1627), vi r1602.Neg.Offset, (Value.slice p1630 m1631 c1632)] rfl) rfl) rfl ?_
            refine WL.alloc (O := O2192) 83 [vi 0, vu 0, vi 0, Value.slice none 0 0, vi 0, Value.slice none 0 0] ty27 rfl rfl ?_
            intro p2283 O2284 wd2285 hst2286 hb2282
            refine WL.store (v := Value.agg (List.toArray [vi r1602.Scale, vu r1602.Zero, vi r1602.Pos.Offset, (Value.slice p1625 m1626 c1627), vi r1602.Neg.Offset, (Value.slice p1630 m1631 c1632)])) (cells' := [vi r1602.Scale, vu r1602.Zero, vi r1602.Pos.Offset, (Value.slice p1625 m1626 c1627), vi r1602.Neg.Offset, (Value.slice p1630 m1631 c1632)]) ty27 rfl rfl hb2282 rfl (Nat.le_of_ble_eq_true rfl) rfl rfl ?_
            intro wd2287 hst2288 hb2289
            refine WL.nil ?_
            refine At.then ?_
            refine WC.seq ?_
            refine WC.seq ?_
            refine WC.region ?_
            refine WL.y (Y.assign rfl) rfl ?_
            refine WL.nil ?_
            refine At.then ?_
            obtain ⟨p2296, h, hk2297⟩ := bnd h
            refine WC.join (σ := (List UInt64 × Own)) (fun x w' => x.1 = p2296 ∧ Stp [72, 1031, 1032] O2284 wd2287 x.2 w' ∧ OwnSl 1034 Rep.u 22 x.2 w' (Value.slice p1625 m1626 c1627) x.1) (fun x => [(2, Value.pointer (some ⟨p24, 0, none⟩)), (3, Value.pointer (some ⟨p39, 0, none⟩)), (5, Value.pointer (some ⟨b114, 0, none⟩)), (6, Value.pointer (some ⟨b116, 0, none⟩)), (17, Value.pointer (some ⟨p2283, 0, none⟩)), (64, Value.slice (some ⟨p1719, 0, none⟩) 5 5), (65, vi 5), (66, vi 3)]) ?_ ?_
            ·refine WC.block ?_
             obtain ⟨p2311, h, hk2313⟩ := flow1 h
             obtain ⟨k2312, h⟩ := loop_some h
             refine WC.joinB 2 (σ := (List UInt64 × Own)) (fun x w' => p2311 = .go x.1 ∧ Stp [72, 1031] O2284 wd2287 x.2 w' ∧ OwnSl 1032 Rep.u 22 x.2 w' (Value.slice p1625 m1626 c1627) x.1) (fun x => [(2, Value.pointer (some ⟨p24, 0, none⟩)), (3, Value.pointer (some ⟨p39, 0, none⟩)), (5, Value.pointer (some ⟨b114, 0, none⟩)), (6, Value.pointer (some ⟨b116, 0, none⟩)), (17, Value.pointer (some ⟨p2283, 0, none⟩)), (64, Value.slice (some ⟨p1719, 0, none⟩) 5 5), (65, vi 5), (66, vi 3)]) ?_ ?_
             ·have hf2314 := hf1624.st hst1635 rfl rfl rfl
              have hf2315 := hf2314.st hst1650 rfl rfl rfl
              have hf2316 := hf2315.st hst1665 rfl rfl rfl
              have hf2317 := hf2316.st hst1672 rfl rfl rfl
              have hf2318 := hf2317.st hst1684 rfl rfl rfl
              have hf2319 := hf2318.st hst1722 rfl rfl rfl
              have hf2320 := hf2319.st hst1732 rfl rfl rfl
              have hf2321 := hf2320.st hst1734 rfl rfl rfl
              have hf2322 := hf2321.st hst1741 rfl rfl rfl
              have hf2323 := hf2322.st hst1824 rfl rfl rfl
              have hf2324 := hf2323.st hst1912 rfl rfl rfl
              have hf2325 := hf2324.st hst1914 rfl rfl rfl
              have hf2326 := hf2325.st hst1921 rfl rfl rfl
              have hf2327 := hf2326.st hst2007 rfl rfl rfl
              have hf2328 := hf2327.st hst2098 rfl rfl rfl
              have hf2329 := hf2328.st hst2100 rfl rfl rfl
              have hf2330 := hf2329.st hst2107 rfl rfl rfl
              have hf2331 := hf2330.st hst2194 rfl rfl rfl
              have hf2332 := hf2331.st hst2286 rfl rfl rfl
              have hf2333 := hf2332.st hst2288 rfl rfl rfl
              obtain ⟨O2334, hst2335, ho2336⟩ := OwnSl.rlb 1031 rfl hf2333
              refine WC.loop (σ := (List UInt64 × Int × Own)) (fun x k w' => loopN k (law09_FoldKeeps_lp8) (x.1, x.2.1) = some p2311 ∧ Stp [72, 1031] O2284 wd2287 x.2.2 w' ∧ OwnSl 1031 Rep.u 22 x.2.2 w' (Value.slice p1625 m1626 c1627) x.1) (fun x => [(2, Value.pointer (some ⟨p24, 0, none⟩)), (3, Value.pointer (some ⟨p39, 0, none⟩)), (5, Value.pointer (some ⟨b114, 0, none⟩)), (6, Value.pointer (some ⟨b116, 0, none⟩)), (17, Value.pointer (some ⟨p2283, 0, none⟩)), (18, vi x.2.1), (64, Value.slice (some ⟨p1719, 0, none⟩) 5 5), (65, vi 5), (66, vi 3)]) (r1602.Pos.Counts, 0, O2334) k2312 (.cons rfl (.cons rfl (.cons rfl (.cons rfl (.cons rfl (.cons rfl (.cons rfl (.cons rfl (.cons rfl .nil))))))))) ⟨h, (Stp.up hst2335 rfl), ho2336⟩ ?_
              rintro ⟨c2298, i2301, O2302⟩ k2312 wd2303 ⟨h, hst2304, hf2300⟩
              obtain ⟨j2337, q2338, rfl, h, hn2339⟩ := rnd1 h
              unfold law09_FoldKeeps_lp8 at h
              try dsimp only at h hst2304 hf2300
              refine (show WC _ _ _ _ [(2, Value.pointer (some ⟨p24, 0, none⟩)), (3, Value.pointer (some ⟨p39, 0, none⟩)), (5, Value.pointer (some ⟨b114, 0, none⟩)), (6, Value.pointer (some ⟨b116, 0, none⟩)), (17, Value.pointer (some ⟨p2283, 0, none⟩)), (18, vi i2301), (64, Value.slice (some ⟨p1719, 0, none⟩) 5 5), (65, vi 5), (66, vi 3)] _ from ?_)
              refine WC.seq ?_
              refine WC.seq ?_
              refine WC.region ?_
              refine WL.y (Y.move rfl) rfl ?_
              refine WL.y (Y.fieldAddr fo27_2 rfl) rfl ?_
              refine WL.y (Y.fieldAddr fo25_1 rfl) rfl ?_
              have hf2340 := hb2289.st hst2304 rfl
              refine WL.y (Y.loadSc ty23 rfl rfl (hf2340.cell 3 _ rfl)) rfl ?_
              refine WL.y (Y.len ty23 rfl hf2300.src.sl) rfl ?_
              refine WL.y (Y.lss_i rfl rfl) rfl ?_
              refine WL.nil ?_
              refine At.then ?_
              rcases cnd h with ⟨hc2341, h⟩ | ⟨hc2341, h⟩
              ·refine WC.condT' rfl hc2341 ?_
               refine WC.skip ?_
               refine At.then ?_
               refine WC.seq ?_
               refine WC.block ?_
               refine WC.draw 12 O2302 fmix (by kernel_rfl) ?_
               intro wd2342 hst2343
               refine WS.y (Y.fieldAddr fo27_2 rfl) rfl ?_
               refine WS.y (Y.fieldAddr fo25_1 rfl) rfl ?_
               have hf2344 := hf2340.st hst2343 rfl
               refine WS.y (Y.loadSc ty23 rfl rfl (hf2344.cell 3 _ rfl)) rfl ?_
               refine WS.y (Y.move rfl) rfl ?_
               refine WS.y (Y.fieldAddr fo27_2 rfl) rfl ?_
               refine WS.y (Y.fieldAddr fo25_1 rfl) rfl ?_
               refine WS.y (Y.loadSc ty23 rfl rfl (hf2344.cell 3 _ rfl)) rfl ?_
               refine WS.y (Y.move rfl) rfl ?_
               obtain ⟨e2345, he2345, h⟩ := bnd h
               have hf2354 := hf2300.st hst2343 rfl rfl rfl
               obtain ⟨b2346, cap2353, cs2352, hv2347, hi2348, hl2349, hc2350, hok2351⟩ := OwnSl.at hf2354 he2345
               obtain rfl := hok2351
               replace hc2350 : CellsAt _ _ _ [vu e2345] := hc2350
               have hca2355 := CAt.own hf2354 hv2347 hc2350
               refine WS.y (Y.indexAddr ty23 ty22 rfl hv2347 rfl hi2348 hl2349) rfl ?_
               refine WS.y (Y.loadSc ty22 rfl rfl hca2355.at_) rfl ?_
               refine WS.y (Y.add_u (b := 1) rfl rfl) rfl ?_
               obtain ⟨e2356, he2356, h⟩ := bnd h
               obtain ⟨b2357, cap2364, cs2363, hv2358, hi2359, hl2360, hc2361, hok2362⟩ := OwnSl.at hf2354 he2356
               obtain rfl := hok2362
               replace hc2361 : CellsAt _ _ _ [vu e2356] := hc2361
               have hca2365 := CAt.own hf2354 hv2358 hc2361
               refine WS.y (Y.indexAddr ty23 ty22 rfl hv2358 rfl hi2359 hl2360) rfl ?_
               refine WS.tail ?_
               obtain ⟨t2366, ht2366, h⟩ := lt1 h
               refine WL.ren 88 rfl (congrArg vu ht2366.symm) ?_
               obtain ⟨xs2367, hxs2367, h⟩ := bnd h
               refine WL.storeOwn (by decide) ty22 rfl rfl rfl hf2354 hv2358 hxs2367 ?_
               intro wd2368 hst2369 ho2370
               refine WL.nil ?_
               refine At.inBlock ?_
               refine At.then ?_
               refine WC.region ?_
               refine WL.y (Y.move rfl) rfl ?_
               refine WL.y (Y.add_i rfl rfl) rfl ?_
               obtain ⟨i2371, hi2371, h⟩ := lt1 h
               refine WL.yE (Y.assign rfl) (congrArg vi hi2371.symm) rfl ?_
               refine WL.nil ?_
               exact At.round (xs2367, i2371, O2302) j2337 (Nat.lt_succ_self _) ⟨next1 h hn2339, (Stp.trans (Stp.up hst2304 rfl) (Stp.trans (Stp.up hst2343 rfl) (Stp.up hst2369 rfl))), ho2370⟩ (.cons rfl (.cons rfl (.cons rfl (.cons rfl (.cons rfl (.cons rfl (.cons rfl (.cons rfl (.cons rfl .nil)))))))))
              ·refine WC.condF' rfl hc2341 ?_
               refine WC.exit ?_
               refine At.thenX ?_
               refine At.loopX ?_
               obtain ⟨O2372, hst2373, ho2374⟩ := OwnSl.rlb 1032 rfl hf2300
               exact At.hitB (σ := (List UInt64 × Own)) (c2298, O2372) ⟨brk1 h hn2339, (Stp.trans (Stp.up hst2304 rfl) (Stp.up hst2373 rfl)), ho2374⟩ (.cons rfl (.cons rfl (.cons rfl (.cons rfl (.cons rfl (.cons rfl (.cons rfl (.cons rfl .nil))))))))
             ·rintro ⟨c2305, O2308⟩ wd2309 ⟨rfl, hst2310, hf2307⟩
              replace h := flowK_go hk2313
              try dsimp only at h hst2310 hf2307
              refine (show At _ _ _ [(2, Value.pointer (some ⟨p24, 0, none⟩)), (3, Value.pointer (some ⟨p39, 0, none⟩)), (5, Value.pointer (some ⟨b114, 0, none⟩)), (6, Value.pointer (some ⟨b116, 0, none⟩)), (17, Value.pointer (some ⟨p2283, 0, none⟩)), (64, Value.slice (some ⟨p1719, 0, none⟩) 5 5), (65, vi 5), (66, vi 3)] _ from ?_)
              refine At.inBlockHit ?_
              obtain ⟨O2375, hst2376, ho2377⟩ := OwnSl.rlb 1034 rfl hf2307
              exact At.join (σ := (List UInt64 × Own)) (c2305, O2375) ⟨some1 h, (Stp.trans (Stp.up hst2310 rfl) (Stp.up hst2376 rfl)), ho2377⟩ (.cons rfl (.cons rfl (.cons rfl (.cons rfl (.cons rfl (.cons rfl (.cons rfl (.cons rfl .nil))))))))
            ·rintro ⟨c2290, O2293⟩ wd2294 ⟨rfl, hst2295, hf2292⟩
             replace h := hk2297
             try dsimp only at h hst2295 hf2292
             refine (show At _ _ _ [(2, Value.pointer (some ⟨p24, 0, none⟩)), (3, Value.pointer (some ⟨p39, 0, none⟩)), (5, Value.pointer (some ⟨b114, 0, none⟩)), (6, Value.pointer (some ⟨b116, 0, none⟩)), (17, Value.pointer (some ⟨p2283, 0, none⟩)), (64, Value.slice (some ⟨p1719, 0, none⟩) 5 5), (65, vi 5), (66, vi 3)] _ from ?_)
             refine At.then ?_
             refine WC.seq ?_
             refine WC.region ?_
             refine WL.y (Y.assign rfl) rfl ?_
             refine WL.nil ?_
             refine At.then ?_
             obtain ⟨p2384, h, hk2385⟩ := bnd h
             refine WC.join (σ := (List UInt64 × Own)) (fun x w' => x.1 = p2384 ∧ Stp [73, 1035, 1036] O2293 wd2294 x.2 w' ∧ OwnSl 1038 Rep.u 22 x.2 w' (Value.slice p1630 m1631 c1632) x.1) (fun x => [(2, Value.pointer (some ⟨p24, 0, none⟩)), (3, Value.pointer (some ⟨p39, 0, none⟩)), (5, Value.pointer (some ⟨b114, 0, none⟩)), (6, Value.pointer (some ⟨b116, 0, none⟩)), (64, Value.slice (some ⟨p1719, 0, none⟩) 5 5), (65, vi 5), (66, vi 3)]) ?_ ?_
             ·refine WC.block ?_
              obtain ⟨p2399, h, hk2401⟩ := flow1 h
              obtain ⟨k2400, h⟩ := loop_some h
              refine WC.joinB 4 (σ := (List UInt64 × Own)) (fun x w' => p2399 = .go x.1 ∧ Stp [73, 1035] O2293 wd2294 x.2 w' ∧ OwnSl 1036 Rep.u 22 x.2 w' (Value.slice p1630 m1631 c1632) x.1) (fun x => [(2, Value.pointer (some ⟨p24, 0, none⟩)), (3, Value.pointer (some ⟨p39, 0, none⟩)), (5, Value.pointer (some ⟨b114, 0, none⟩)), (6, Value.pointer (some ⟨b116, 0, none⟩)), (64, Value.slice (some ⟨p1719, 0, none⟩) 5 5), (65, vi 5), (66, vi 3)]) ?_ ?_
              ·have hf2402 := hf1629.st hst1635 rfl rfl rfl
               have hf2403 := hf2402.st hst1650 rfl rfl rfl
               have hf2404 := hf2403.st hst1665 rfl rfl rfl
               have hf2405 := hf2404.st hst1672 rfl rfl rfl
               have hf2406 := hf2405.st hst1684 rfl rfl rfl
               have hf2407 := hf2406.st hst1722 rfl rfl rfl
               have hf2408 := hf2407.st hst1732 rfl rfl rfl
               have hf2409 := hf2408.st hst1734 rfl rfl rfl
               have hf2410 := hf2409.st hst1741 rfl rfl rfl
               have hf2411 := hf2410.st hst1824 rfl rfl rfl
               have hf2412 := hf2411.st hst1912 rfl rfl rfl
               have hf2413 := hf2412.st hst1914 rfl rfl rfl
               have hf2414 := hf2413.st hst1921 rfl rfl rfl
               have hf2415 := hf2414.st hst2007 rfl rfl rfl
               have hf2416 := hf2415.st hst2098 rfl rfl rfl
               have hf2417 := hf2416.st hst2100 rfl rfl rfl
               have hf2418 := hf2417.st hst2107 rfl rfl rfl
               have hf2419 := hf2418.st hst2194 rfl rfl rfl
               have hf2420 := hf2419.st hst2286 rfl rfl rfl
               have hf2421 := hf2420.st hst2288 rfl rfl rfl
               have hf2422 := hf2421.st hst2295 rfl rfl rfl
               obtain ⟨O2423, hst2424, ho2425⟩ := OwnSl.rlb 1035 rfl hf2422
               refine WC.loop (σ := (List UInt64 × Int × Own)) (fun x k w' => loopN k (law09_FoldKeeps_lp9) (x.1, x.2.1) = some p2399 ∧ Stp [73, 1035] O2293 wd2294 x.2.2 w' ∧ OwnSl 1035 Rep.u 22 x.2.2 w' (Value.slice p1630 m1631 c1632) x.1) (fun x => [(2, Value.pointer (some ⟨p24, 0, none⟩)), (3, Value.pointer (some ⟨p39, 0, none⟩)), (5, Value.pointer (some ⟨b114, 0, none⟩)), (6, Value.pointer (some ⟨b116, 0, none⟩)), (17, Value.pointer (some ⟨p2283, 0, none⟩)), (19, vi x.2.1), (64, Value.slice (some ⟨p1719, 0, none⟩) 5 5), (65, vi 5), (66, vi 3)]) (r1602.Neg.Counts, 0, O2423) k2400 (.cons rfl (.cons rfl (.cons rfl (.cons rfl (.cons rfl (.cons rfl (.cons rfl (.cons rfl (.cons rfl .nil))))))))) ⟨h, (Stp.up hst2424 rfl), ho2425⟩ ?_
               rintro ⟨c2386, i2389, O2390⟩ k2400 wd2391 ⟨h, hst2392, hf2388⟩
               obtain ⟨j2426, q2427, rfl, h, hn2428⟩ := rnd1 h
               unfold law09_FoldKeeps_lp9 at h
               try dsimp only at h hst2392 hf2388
               refine (show WC _ _ _ _ [(2, Value.pointer (some ⟨p24, 0, none⟩)), (3, Value.pointer (some ⟨p39, 0, none⟩)), (5, Value.pointer (some ⟨b114, 0, none⟩)), (6, Value.pointer (some ⟨b116, 0, none⟩)), (17, Value.pointer (some ⟨p2283, 0, none⟩)), (19, vi i2389), (64, Value.slice (some ⟨p1719, 0, none⟩) 5 5), (65, vi 5), (66, vi 3)] _ from ?_)
               refine WC.seq ?_
               refine WC.seq ?_
               refine WC.region ?_
               refine WL.y (Y.move rfl) rfl ?_
               refine WL.y (Y.fieldAddr fo27_3 rfl) rfl ?_
               refine WL.y (Y.fieldAddr fo25_1 rfl) rfl ?_
               have hf2429 := hb2289.st hst2295 rfl
               have hf2430 := hf2429.st hst2392 rfl
               refine WL.y (Y.loadSc ty23 rfl rfl (hf2430.cell 5 _ rfl)) rfl ?_
               refine WL.y (Y.len ty23 rfl hf2388.src.sl) rfl ?_
               refine WL.y (Y.lss_i rfl rfl) rfl ?_
               refine WL.nil ?_
               refine At.then ?_
               rcases cnd h with ⟨hc2431, h⟩ | ⟨hc2431, h⟩
               ·refine WC.condT' rfl hc2431 ?_
                refine WC.skip ?_
                refine At.then ?_
                refine WC.seq ?_
                refine WC.block ?_
                refine WC.draw 12 O2390 fmix (by kernel_rfl) ?_
                intro wd2432 hst2433
                refine WS.y (Y.fieldAddr fo27_3 rfl) rfl ?_
                refine WS.y (Y.fieldAddr fo25_1 rfl) rfl ?_
                have hf2434 := hf2430.st hst2433 rfl
                refine WS.y (Y.loadSc ty23 rfl rfl (hf2434.cell 5 _ rfl)) rfl ?_
                refine WS.y (Y.move rfl) rfl ?_
                refine WS.y (Y.fieldAddr fo27_3 rfl) rfl ?_
                refine WS.y (Y.fieldAddr fo25_1 rfl) rfl ?_
                refine WS.y (Y.loadSc ty23 rfl rfl (hf2434.cell 5 _ rfl)) rfl ?_
                refine WS.y (Y.move rfl) rfl ?_
                obtain ⟨e2435, he2435, h⟩ := bnd h
                have hf2444 := hf2388.st hst2433 rfl rfl rfl
                obtain ⟨b2436, cap2443, cs2442, hv2437, hi2438, hl2439, hc2440, hok2441⟩ := OwnSl.at hf2444 he2435
                obtain rfl := hok2441
                replace hc2440 : CellsAt _ _ _ [vu e2435] := hc2440
                have hca2445 := CAt.own hf2444 hv2437 hc2440
                refine WS.y (Y.indexAddr ty23 ty22 rfl hv2437 rfl hi2438 hl2439) rfl ?_
                refine WS.y (Y.loadSc ty22 rfl rfl hca2445.at_) rfl ?_
                refine WS.y (Y.add_u (b := 1) rfl rfl) rfl ?_
                obtain ⟨e2446, he2446, h⟩ := bnd h
                obtain ⟨b2447, cap2454, cs2453, hv2448, hi2449, hl2450, hc2451, hok2452⟩ := OwnSl.at hf2444 he2446
                obtain rfl := hok2452
                replace hc2451 : CellsAt _ _ _ [vu e2446] := hc2451
                have hca2455 := CAt.own hf2444 hv2448 hc2451
                refine WS.y (Y.indexAddr ty23 ty22 rfl hv2448 rfl hi2449 hl2450) rfl ?_
                refine WS.tail ?_
                obtain ⟨t2456, ht2456, h⟩ := lt1 h
                refine WL.ren 108 rfl (congrArg vu ht2456.symm) ?_
                obtain ⟨xs2457, hxs2457, h⟩ := bnd h
                refine WL.storeOwn (by decide) ty22 rfl rfl rfl hf2444 hv2448 hxs2457 ?_
                intro wd2458 hst2459 ho2460
                refine WL.nil ?_
                refine At.inBlock ?_
                refine At.then ?_
                refine WC.region ?_
                refine WL.y (Y.move rfl) rfl ?_
                refine WL.y (Y.add_i rfl rfl) rfl ?_
                obtain ⟨i2461, hi2461, h⟩ := lt1 h
                refine WL.yE (Y.assign rfl) (congrArg vi hi2461.symm) rfl ?_
                refine WL.nil ?_
                exact At.round (xs2457, i2461, O2390) j2426 (Nat.lt_succ_self _) ⟨next1 h hn2428, (Stp.trans (Stp.up hst2392 rfl) (Stp.trans (Stp.up hst2433 rfl) (Stp.up hst2459 rfl))), ho2460⟩ (.cons rfl (.cons rfl (.cons rfl (.cons rfl (.cons rfl (.cons rfl (.cons rfl (.cons rfl (.cons rfl .nil)))))))))
               ·refine WC.condF' rfl hc2431 ?_
                refine WC.exit ?_
                refine At.thenX ?_
                refine At.loopX ?_
                obtain ⟨O2462, hst2463, ho2464⟩ := OwnSl.rlb 1036 rfl hf2388
                exact At.hitB (σ := (List UInt64 × Own)) (c2386, O2462) ⟨brk1 h hn2428, (Stp.trans (Stp.up hst2392 rfl) (Stp.up hst2463 rfl)), ho2464⟩ (.cons rfl (.cons rfl (.cons rfl (.cons rfl (.cons rfl (.cons rfl (.cons rfl .nil)))))))
              ·rintro ⟨c2393, O2396⟩ wd2397 ⟨rfl, hst2398, hf2395⟩
               replace h := flowK_go hk2401
               try dsimp only at h hst2398 hf2395
               refine (show At _ _ _ [(2, Value.pointer (some ⟨p24, 0, none⟩)), (3, Value.pointer (some ⟨p39, 0, none⟩)), (5, Value.pointer (some ⟨b114, 0, none⟩)), (6, Value.pointer (some ⟨b116, 0, none⟩)), (64, Value.slice (some ⟨p1719, 0, none⟩) 5 5), (65, vi 5), (66, vi 3)] _ from ?_)
               refine At.inBlockHit ?_
               obtain ⟨O2465, hst2466, ho2467⟩ := OwnSl.rlb 1038 rfl hf2395
               exact At.join (σ := (List UInt64 × Own)) (c2393, O2465) ⟨some1 h, (Stp.trans (Stp.up hst2398 rfl) (Stp.up hst2466 rfl)), ho2467⟩ (.cons rfl (.cons rfl (.cons rfl (.cons rfl (.cons rfl (.cons rfl (.cons rfl .nil)))))))
             ·rintro ⟨c2378, O2381⟩ wd2382 ⟨rfl, hst2383, hf2380⟩
              replace h := hk2385
              try dsimp only at h hst2383 hf2380
              refine (show At _ _ _ [(2, Value.pointer (some ⟨p24, 0, none⟩)), (3, Value.pointer (some ⟨p39, 0, none⟩)), (5, Value.pointer (some ⟨b114, 0, none⟩)), (6, Value.pointer (some ⟨b116, 0, none⟩)), (64, Value.slice (some ⟨p1719, 0, none⟩) 5 5), (65, vi 5), (66, vi 3)] _ from ?_)
              refine At.inBlock ?_
              refine At.then ?_
              refine WC.region ?_
              refine WL.yE (Y.add_i rfl rfl) (congrArg vi (by decide : w64 (3 + 1) = 4)) rfl ?_
              refine WL.y (Y.move rfl) rfl ?_
              refine WL.nil ?_
              refine At.again ?_
              refine WC.seq ?_
              refine WC.region ?_
              refine WL.yE (Y.lss_i rfl rfl) (congrArg Value.bool (by decide : decide ((4 : Int) < (5 : Int)) = true)) rfl ?_
              refine WL.nil ?_
              refine At.then ?_
              refine WC.seq ?_
              refine WC.condT rfl ?_
              refine WC.skip ?_
              refine At.then ?_
              refine WC.seq ?_
              refine WC.block ?_
              refine WC.seq ?_
              refine WC.region ?_
              refine WL.yE (Y.indexAddr ty45 ty27 rfl rfl rfl (by decide) (by decide)) (show (Value.pointer (some ⟨p1719, 0 + (4 : Int).toNat * 6, none⟩)) = .pointer (some ⟨p1719, 24, none⟩) from rfl) rfl ?_
              have hf2468 := hf2281.st hst2286 rfl
              have hf2469 := hf2468.st hst2288 rfl
              have hf2470 := hf2469.st hst2295 rfl
              have hf2471 := hf2470.st hst2383 rfl
              refine WL.y (Y.loadAg ty27 rfl rfl (hf2471.cells 24 [vi r1651.Scale, vu r1651.Zero, vi r1651.Pos.Offset, (Value.slice p1674 m1675 c1676), vi r1651.Neg.Offset, (Value.slice p1679 m1680 c1681)] rfl) rfl) rfl ?_
              refine WL.alloc (O := O2381) 84 [vi 0, vu 0, vi 0, Value.slice none 0 0, vi 0, Value.slice none 0 0] ty27 rfl rfl ?_
              intro p2473 O2474 wd2475 hst2476 hb2472
              refine WL.store (v := Value.agg (List.toArray [vi r1651.Scale, vu r1651.Zero, vi r1651.Pos.Offset, (Value.slice p1674 m1675 c1676), vi r1651.Neg.Offset, (Value.slice p1679 m1680 c1681)])) (cells' := [vi r1651.Scale, vu r1651.Zero, vi r1651.Pos.Offset, (Value.slice p1674 m1675 c1676), vi r1651.Neg.Offset, (Value.slice p1679 m1680 c1681)]) ty27 rfl rfl hb2472 rfl (Nat.le_of_ble_eq_true rfl) rfl rfl ?_
              intro wd2477 hst2478 hb2479
              refine WL.nil ?_
              refine At.then ?_
              refine WC.seq ?_
              refine WC.seq ?_
              refine WC.region ?_
              refine WL.y (Y.assign rfl) rfl ?_
              refine WL.nil ?_
              refine At.then ?_
              obtain ⟨p2486, h, hk2487⟩ := bnd h
              refine WC.join (σ := (List UInt64 × Own)) (fun x w' => x.1 = p2486 ∧ Stp [76, 1039, 1040] O2474 wd2477 x.2 w' ∧ OwnSl 1042 Rep.u 22 x.2 w' (Value.slice p1674 m1675 c1676) x.1) (fun x => [(2, Value.pointer (some ⟨p24, 0, none⟩)), (3, Value.pointer (some ⟨p39, 0, none⟩)), (5, Value.pointer (some ⟨b114, 0, none⟩)), (6, Value.pointer (some ⟨b116, 0, none⟩)), (17, Value.pointer (some ⟨p2473, 0, none⟩)), (64, Value.slice (some ⟨p1719, 0, none⟩) 5 5), (65, vi 5), (66, vi 4)]) ?_ ?_
              ·refine WC.block ?_
               obtain ⟨p2501, h, hk2503⟩ := flow1 h
               obtain ⟨k2502, h⟩ := loop_some h
               refine WC.joinB 2 (σ := (List UInt64 × Own)) (fun x w' => p2501 = .go x.1 ∧ Stp [76, 1039] O2474 wd2477 x.2 w' ∧ OwnSl 1040 Rep.u 22 x.2 w' (Value.slice p1674 m1675 c1676) x.1) (fun x => [(2, Value.pointer (some ⟨p24, 0, none⟩)), (3, Value.pointer (some ⟨p39, 0, none⟩)), (5, Value.pointer (some ⟨b114, 0, none⟩)), (6, Value.pointer (some ⟨b116, 0, none⟩)), (17, Value.pointer (some ⟨p2473, 0, none⟩)), (64, Value.slice (some ⟨p1719, 0, none⟩) 5 5), (65, vi 5), (66, vi 4)]) ?_ ?_
               ·have hf2504 := hf1673.st hst1684 rfl rfl rfl
                have hf2505 := hf2504.st hst1722 rfl rfl rfl
                have hf2506 := hf2505.st hst1732 rfl rfl rfl
                have hf2507 := hf2506.st hst1734 rfl rfl rfl
                have hf2508 := hf2507.st hst1741 rfl rfl rfl
                have hf2509 := hf2508.st hst1824 rfl rfl rfl
                have hf2510 := hf2509.st hst1912 rfl rfl rfl
                have hf2511 := hf2510.st hst1914 rfl rfl rfl
                have hf2512 := hf2511.st hst1921 rfl rfl rfl
                have hf2513 := hf2512.st hst2007 rfl rfl rfl
                have hf2514 := hf2513.st hst2098 rfl rfl rfl
                have hf2515 := hf2514.st hst2100 rfl rfl rfl
                have hf2516 := hf2515.st hst2107 rfl rfl rfl
                have hf2517 := hf2516.st hst2194 rfl rfl rfl
                have hf2518 := hf2517.st hst2286 rfl rfl rfl
                have hf2519 := hf2518.st hst2288 rfl rfl rfl
                have hf2520 := hf2519.st hst2295 rfl rfl rfl
                have hf2521 := hf2520.st hst2383 rfl rfl rfl
                have hf2522 := hf2521.st hst2476 rfl rfl rfl
                have hf2523 := hf2522.st hst2478 rfl rfl rfl
                obtain ⟨O2524, hst2525, ho2526⟩ := OwnSl.rlb 1039 rfl hf2523
                refine WC.loop (σ := (List UInt64 × Int × Own)) (fun x k w' => loopN k (law09_FoldKeeps_lp10) (x.1, x.2.1) = some p2501 ∧ Stp [76, 1039] O2474 wd2477 x.2.2 w' ∧ OwnSl 1039 Rep.u 22 x.2.2 w' (Value.slice p1674 m1675 c1676) x.1) (fun x => [(2, Value.pointer (some ⟨p24, 0, none⟩)), (3, Value.pointer (some ⟨p39, 0, none⟩)), (5, Value.pointer (some ⟨b114, 0, none⟩)), (6, Value.pointer (some ⟨b116, 0, none⟩)), (17, Value.pointer (some ⟨p2473, 0, none⟩)), (18, vi x.2.1), (64, Value.slice (some ⟨p1719, 0, none⟩) 5 5), (65, vi 5), (66, vi 4)]) (r1651.Pos.Counts, 0, O2524) k2502 (.cons rfl (.cons rfl (.cons rfl (.cons rfl (.cons rfl (.cons rfl (.cons rfl (.cons rfl (.cons rfl .nil))))))))) ⟨h, (Stp.up hst2525 rfl), ho2526⟩ ?_
                rintro ⟨c2488, i2491, O2492⟩ k2502 wd2493 ⟨h, hst2494, hf2490⟩
                obtain ⟨j2527, q2528, rfl, h, hn2529⟩ := rnd1 h
                unfold law09_FoldKeeps_lp10 at h
                try dsimp only at h hst2494 hf2490
                refine (show WC _ _ _ _ [(2, Value.pointer (some ⟨p24, 0, none⟩)), (3, Value.pointer (some ⟨p39, 0, none⟩)), (5, Value.pointer (some ⟨b114, 0, none⟩)), (6, Value.pointer (some ⟨b116, 0, none⟩)), (17, Value.pointer (some ⟨p2473, 0, none⟩)), (18, vi i2491), (64, Value.slice (some ⟨p1719, 0, none⟩) 5 5), (65, vi 5), (66, vi 4)] _ from ?_)
                refine WC.seq ?_
                refine WC.seq ?_
                refine WC.region ?_
                refine WL.y (Y.move rfl) rfl ?_
                refine WL.y (Y.fieldAddr fo27_2 rfl) rfl ?_
                refine WL.y (Y.fieldAddr fo25_1 rfl) rfl ?_
                have hf2530 := hb2479.st hst2494 rfl
                refine WL.y (Y.loadSc ty23 rfl rfl (hf2530.cell 3 _ rfl)) rfl ?_
                refine WL.y (Y.len ty23 rfl hf2490.src.sl) rfl ?_
                refine WL.y (Y.lss_i rfl rfl) rfl ?_
                refine WL.nil ?_
                refine At.then ?_
                rcases cnd h with ⟨hc2531, h⟩ | ⟨hc2531, h⟩
                ·refine WC.condT' rfl hc2531 ?_
                 refine WC.skip ?_
                 refine At.then ?_
                 refine WC.seq ?_
                 refine WC.block ?_
                 refine WC.draw 12 O2492 fmix (by kernel_rfl) ?_
                 intro wd2532 hst2533
                 refine WS.y (Y.fieldAddr fo27_2 rfl) rfl ?_
                 refine WS.y (Y.fieldAddr fo25_1 rfl) rfl ?_
                 have hf2534 := hf2530.st hst2533 rfl
                 refine WS.y (Y.loadSc ty23 rfl rfl (hf2534.cell 3 _ rfl)) rfl ?_
                 refine WS.y (Y.move rfl) rfl ?_
                 refine WS.y (Y.fieldAddr fo27_2 rfl) rfl ?_
                 refine WS.y (Y.fieldAddr fo25_1 rfl) rfl ?_
                 refine WS.y (Y.loadSc ty23 rfl rfl (hf2534.cell 3 _ rfl)) rfl ?_
                 refine WS.y (Y.move rfl) rfl ?_
                 obtain ⟨e2535, he2535, h⟩ := bnd h
                 have hf2544 := hf2490.st hst2533 rfl rfl rfl
                 obtain ⟨b2536, cap2543, cs2542, hv2537, hi2538, hl2539, hc2540, hok2541⟩ := OwnSl.at hf2544 he2535
                 obtain rfl := hok2541
                 replace hc2540 : CellsAt _ _ _ [vu e2535] := hc2540
                 have hca2545 := CAt.own hf2544 hv2537 hc2540
                 refine WS.y (Y.indexAddr ty23 ty22 rfl hv2537 rfl hi2538 hl2539) rfl ?_
                 refine WS.y (Y.loadSc ty22 rfl rfl hca2545.at_) rfl ?_
                 refine WS.y (Y.add_u (b := 1) rfl rfl) rfl ?_
                 obtain ⟨e2546, he2546, h⟩ := bnd h
                 obtain ⟨b2547, cap2554, cs2553, hv2548, hi2549, hl2550, hc2551, hok2552⟩ := OwnSl.at hf2544 he2546
                 obtain rfl := hok2552
                 replace hc2551 : CellsAt _ _ _ [vu e2546] := hc2551
                 have hca2555 := CAt.own hf2544 hv2548 hc2551
                 refine WS.y (Y.indexAddr ty23 ty22 rfl hv2548 rfl hi2549 hl2550) rfl ?_
                 refine WS.tail ?_
                 obtain ⟨t2556, ht2556, h⟩ := lt1 h
                 refine WL.ren 88 rfl (congrArg vu ht2556.symm) ?_
                 obtain ⟨xs2557, hxs2557, h⟩ := bnd h
                 refine WL.storeOwn (by decide) ty22 rfl rfl rfl hf2544 hv2548 hxs2557 ?_
                 intro wd2558 hst2559 ho2560
                 refine WL.nil ?_
                 refine At.inBlock ?_
                 refine At.then ?_
                 refine WC.region ?_
                 refine WL.y (Y.move rfl) rfl ?_
                 refine WL.y (Y.add_i rfl rfl) rfl ?_
                 obtain ⟨i2561, hi2561, h⟩ := lt1 h
                 refine WL.yE (Y.assign rfl) (congrArg vi hi2561.symm) rfl ?_
                 refine WL.nil ?_
                 exact At.round (xs2557, i2561, O2492) j2527 (Nat.lt_succ_self _) ⟨next1 h hn2529, (Stp.trans (Stp.up hst2494 rfl) (Stp.trans (Stp.up hst2533 rfl) (Stp.up hst2559 rfl))), ho2560⟩ (.cons rfl (.cons rfl (.cons rfl (.cons rfl (.cons rfl (.cons rfl (.cons rfl (.cons rfl (.cons rfl .nil)))))))))
                ·refine WC.condF' rfl hc2531 ?_
                 refine WC.exit ?_
                 refine At.thenX ?_
                 refine At.loopX ?_
                 obtain ⟨O2562, hst2563, ho2564⟩ := OwnSl.rlb 1040 rfl hf2490
                 exact At.hitB (σ := (List UInt64 × Own)) (c2488, O2562) ⟨brk1 h hn2529, (Stp.trans (Stp.up hst2494 rfl) (Stp.up hst2563 rfl)), ho2564⟩ (.cons rfl (.cons rfl (.cons rfl (.cons rfl (.cons rfl (.cons rfl (.cons rfl (.cons rfl .nil))))))))
               ·rintro ⟨c2495, O2498⟩ wd2499 ⟨rfl, hst2500, hf2497⟩
                replace h := flowK_go hk2503
                try dsimp only at h hst2500 hf2497
                refine (show At _ _ _ [(2, Value.pointer (some ⟨p24, 0, none⟩)), (3, Value.pointer (some ⟨p39, 0, none⟩)), (5, Value.pointer (some ⟨b114, 0, none⟩)), (6, Value.pointer (some ⟨b116, 0, none⟩)), (17, Value.pointer (some ⟨p2473, 0, none⟩)), (64, Value.slice (some ⟨p1719, 0, none⟩) 5 5), (65, vi 5), (66, vi 4)] _ from ?_)
                refine At.inBlockHit ?_
                obtain ⟨O2565, hst2566, ho2567⟩ := OwnSl.rlb 1042 rfl hf2497
                exact At.join (σ := (List UInt64 × Own)) (c2495, O2565) ⟨some1 h, (Stp.trans (Stp.up hst2500 rfl) (Stp.up hst2566 rfl)), ho2567⟩ (.cons rfl (.cons rfl (.cons rfl (.cons rfl (.cons rfl (.cons rfl (.cons rfl (.cons rfl .nil))))))))
              ·rintro ⟨c2480, O2483⟩ wd2484 ⟨rfl, hst2485, hf2482⟩
               replace h := hk2487
               try dsimp only at h hst2485 hf2482
               refine (show At _ _ _ [(2, Value.pointer (some ⟨p24, 0, none⟩)), (3, Value.pointer (some ⟨p39, 0, none⟩)), (5, Value.pointer (some ⟨b114, 0, none⟩)), (6, Value.pointer (some ⟨b116, 0, none⟩)), (17, Value.pointer (some ⟨p2473, 0, none⟩)), (64, Value.slice (some ⟨p1719, 0, none⟩) 5 5), (65, vi 5), (66, vi 4)] _ from ?_)
               refine At.then ?_
               refine WC.seq ?_
               refine WC.region ?_
               refine WL.y (Y.assign rfl) rfl ?_
               refine WL.nil ?_
               refine At.then ?_
               obtain ⟨p2574, h, hk2575⟩ := bnd h
               refine WC.join (σ := (List UInt64 × Own)) (fun x w' => x.1 = p2574 ∧ Stp [77, 1043, 1044] O2483 wd2484 x.2 w' ∧ OwnSl 1046 Rep.u 22 x.2 w' (Value.slice p1679 m1680 c1681) x.1) (fun x => [(2, Value.pointer (some ⟨p24, 0, none⟩)), (3, Value.pointer (some ⟨p39, 0, none⟩)), (5, Value.pointer (some ⟨b114, 0, none⟩)), (6, Value.pointer (some ⟨b116, 0, none⟩)), (64, Value.slice (some ⟨p1719, 0, none⟩) 5 5), (65, vi 5), (66, vi 4)]) ?_ ?_
               ·refine WC.block ?_
                obtain ⟨p2589, h, hk2591⟩ := flow1 h
                obtain ⟨k2590, h⟩ := loop_some h
                refine WC.joinB 4 (σ := (List UInt64 × Own)) (fun x w' => p2589 = .go x.1 ∧ Stp [77, 1043] O2483 wd2484 x.2 w' ∧ OwnSl 1044 Rep.u 22 x.2 w' (Value.slice p1679 m1680 c1681) x.1) (fun x => [(2, Value.pointer (some ⟨p24, 0, none⟩)), (3, Value.pointer (some ⟨p39, 0, none⟩)), (5, Value.pointer (some ⟨b114, 0, none⟩)), (6, Value.pointer (some ⟨b116, 0, none⟩)), (64, Value.slice (some ⟨p1719, 0, none⟩) 5 5), (65, vi 5), (66, vi 4)]) ?_ ?_
                ·have hf2592 := hf1678.st hst1684 rfl rfl rfl
                 have hf2593 := hf2592.st hst1722 rfl rfl rfl
                 have hf2594 := hf2593.st hst1732 rfl rfl rfl
                 have hf2595 := hf2594.st hst1734 rfl rfl rfl
                 have hf2596 := hf2595.st hst1741 rfl rfl rfl
                 have hf2597 := hf2596.st hst1824 rfl rfl rfl
                 have hf2598 := hf2597.st hst1912 rfl rfl rfl
                 have hf2599 := hf2598.st hst1914 rfl rfl rfl
                 have hf2600 := hf2599.st hst1921 rfl rfl rfl
                 have hf2601 := hf2600.st hst2007 rfl rfl rfl
                 have hf2602 := hf2601.st hst2098 rfl rfl rfl
                 have hf2603 := hf2602.st hst2100 rfl rfl rfl
                 have hf2604 := hf2603.st hst2107 rfl rfl rfl
                 have hf2605 := hf2604.st hst2194 rfl rfl rfl
                 have hf2606 := hf2605.st hst2286 rfl rfl rfl
                 have hf2607 := hf2606.st hst2288 rfl rfl rfl
                 have hf2608 := hf2607.st hst2295 rfl rfl rfl
                 have hf2609 := hf2608.st hst2383 rfl rfl rfl
                 have hf2610 := hf2609.st hst2476 rfl rfl rfl
                 have hf2611 := hf2610.st hst2478 rfl rfl rfl
                 have hf2612 := hf2611.st hst2485 rfl rfl rfl
                 obtain ⟨O2613, hst2614, ho2615⟩ := OwnSl.rlb 1043 rfl hf2612
                 refine WC.loop (σ := (List UInt64 × Int × Own)) (fun x k w' => loopN k (law09_FoldKeeps_lp11) (x.1, x.2.1) = some p2589 ∧ Stp [77, 1043] O2483 wd2484 x.2.2 w' ∧ OwnSl 1043 Rep.u 22 x.2.2 w' (Value.slice p1679 m1680 c1681) x.1) (fun x => [(2, Value.pointer (some ⟨p24, 0, none⟩)), (3, Value.pointer (some ⟨p39, 0, none⟩)), (5, Value.pointer (some ⟨b114, 0, none⟩)), (6, Value.pointer (some ⟨b116, 0, none⟩)), (17, Value.pointer (some ⟨p2473, 0, none⟩)), (19, vi x.2.1), (64, Value.slice (some ⟨p1719, 0, none⟩) 5 5), (65, vi 5), (66, vi 4)]) (r1651.Neg.Counts, 0, O2613) k2590 (.cons rfl (.cons rfl (.cons rfl (.cons rfl (.cons rfl (.cons rfl (.cons rfl (.cons rfl (.cons rfl .nil))))))))) ⟨h, (Stp.up hst2614 rfl), ho2615⟩ ?_
                 rintro ⟨c2576, i2579, O2580⟩ k2590 wd2581 ⟨h, hst2582, hf2578⟩
                 obtain ⟨j2616, q2617, rfl, h, hn2618⟩ := rnd1 h
                 unfold law09_FoldKeeps_lp11 at h
                 try dsimp only at h hst2582 hf2578
                 refine (show WC _ _ _ _ [(2, Value.pointer (some ⟨p24, 0, none⟩)), (3, Value.pointer (some ⟨p39, 0, none⟩)), (5, Value.pointer (some ⟨b114, 0, none⟩)), (6, Value.pointer (some ⟨b116, 0, none⟩)), (17, Value.pointer (some ⟨p2473, 0, none⟩)), (19, vi i2579), (64, Value.slice (some ⟨p1719, 0, none⟩) 5 5), (65, vi 5), (66, vi 4)] _ from ?_)
                 refine WC.seq ?_
                 refine WC.seq ?_
                 refine WC.region ?_
                 refine WL.y (Y.move rfl) rfl ?_
                 refine WL.y (Y.fieldAddr fo27_3 rfl) rfl ?_
                 refine WL.y (Y.fieldAddr fo25_1 rfl) rfl ?_
                 have hf2619 := hb2479.st hst2485 rfl
                 have hf2620 := hf2619.st hst2582 rfl
                 refine WL.y (Y.loadSc ty23 rfl rfl (hf2620.cell 5 _ rfl)) rfl ?_
                 refine WL.y (Y.len ty23 rfl hf2578.src.sl) rfl ?_
                 refine WL.y (Y.lss_i rfl rfl) rfl ?_
                 refine WL.nil ?_
                 refine At.then ?_
                 rcases cnd h with ⟨hc2621, h⟩ | ⟨hc2621, h⟩
                 ·refine WC.condT' rfl hc2621 ?_
                  refine WC.skip ?_
                  refine At.then ?_
                  refine WC.seq ?_
                  refine WC.block ?_
                  refine WC.draw 12 O2580 fmix (by kernel_rfl) ?_
                  intro wd2622 hst2623
                  refine WS.y (Y.fieldAddr fo27_3 rfl) rfl ?_
                  refine WS.y (Y.fieldAddr fo25_1 rfl) rfl ?_
                  have hf2624 := hf2620.st hst2623 rfl
                  refine WS.y (Y.loadSc ty23 rfl rfl (hf2624.cell 5 _ rfl)) rfl ?_
                  refine WS.y (Y.move rfl) rfl ?_
                  refine WS.y (Y.fieldAddr fo27_3 rfl) rfl ?_
                  refine WS.y (Y.fieldAddr fo25_1 rfl) rfl ?_
                  refine WS.y (Y.loadSc ty23 rfl rfl (hf2624.cell 5 _ rfl)) rfl ?_
                  refine WS.y (Y.move rfl) rfl ?_
                  obtain ⟨e2625, he2625, h⟩ := bnd h
                  have hf2634 := hf2578.st hst2623 rfl rfl rfl
                  obtain ⟨b2626, cap2633, cs2632, hv2627, hi2628, hl2629, hc2630, hok2631⟩ := OwnSl.at hf2634 he2625
                  obtain rfl := hok2631
                  replace hc2630 : CellsAt _ _ _ [vu e2625] := hc2630
                  have hca2635 := CAt.own hf2634 hv2627 hc2630
                  refine WS.y (Y.indexAddr ty23 ty22 rfl hv2627 rfl hi2628 hl2629) rfl ?_
                  refine WS.y (Y.loadSc ty22 rfl rfl hca2635.at_) rfl ?_
                  refine WS.y (Y.add_u (b := 1) rfl rfl) rfl ?_
                  obtain ⟨e2636, he2636, h⟩ := bnd h
                  obtain ⟨b2637, cap2644, cs2643, hv2638, hi2639, hl2640, hc2641, hok2642⟩ := OwnSl.at hf2634 he2636
                  obtain rfl := hok2642
                  replace hc2641 : CellsAt _ _ _ [vu e2636] := hc2641
                  have hca2645 := CAt.own hf2634 hv2638 hc2641
                  refine WS.y (Y.indexAddr ty23 ty22 rfl hv2638 rfl hi2639 hl2640) rfl ?_
                  refine WS.tail ?_
                  obtain ⟨t2646, ht2646, h⟩ := lt1 h
                  refine WL.ren 108 rfl (congrArg vu ht2646.symm) ?_
                  obtain ⟨xs2647, hxs2647, h⟩ := bnd h
                  refine WL.storeOwn (by decide) ty22 rfl rfl rfl hf2634 hv2638 hxs2647 ?_
                  intro wd2648 hst2649 ho2650
                  refine WL.nil ?_
                  refine At.inBlock ?_
                  refine At.then ?_
                  refine WC.region ?_
                  refine WL.y (Y.move rfl) rfl ?_
                  refine WL.y (Y.add_i rfl rfl) rfl ?_
                  obtain ⟨i2651, hi2651, h⟩ := lt1 h
                  refine WL.yE (Y.assign rfl) (congrArg vi hi2651.symm) rfl ?_
                  refine WL.nil ?_
                  exact At.round (xs2647, i2651, O2580) j2616 (Nat.lt_succ_self _) ⟨next1 h hn2618, (Stp.trans (Stp.up hst2582 rfl) (Stp.trans (Stp.up hst2623 rfl) (Stp.up hst2649 rfl))), ho2650⟩ (.cons rfl (.cons rfl (.cons rfl (.cons rfl (.cons rfl (.cons rfl (.cons rfl (.cons rfl (.cons rfl .nil)))))))))
                 ·refine WC.condF' rfl hc2621 ?_
                  refine WC.exit ?_
                  refine At.thenX ?_
                  refine At.loopX ?_
                  obtain ⟨O2652, hst2653, ho2654⟩ := OwnSl.rlb 1044 rfl hf2578
                  exact At.hitB (σ := (List UInt64 × Own)) (c2576, O2652) ⟨brk1 h hn2618, (Stp.trans (Stp.up hst2582 rfl) (Stp.up hst2653 rfl)), ho2654⟩ (.cons rfl (.cons rfl (.cons rfl (.cons rfl (.cons rfl (.cons rfl (.cons rfl .nil)))))))
                ·rintro ⟨c2583, O2586⟩ wd2587 ⟨rfl, hst2588, hf2585⟩
                 replace h := flowK_go hk2591
                 try dsimp only at h hst2588 hf2585
                 refine (show At _ _ _ [(2, Value.pointer (some ⟨p24, 0, none⟩)), (3, Value.pointer (some ⟨p39, 0, none⟩)), (5, Value.pointer (some ⟨b114, 0, none⟩)), (6, Value.pointer (some ⟨b116, 0, none⟩)), (64, Value.slice (some ⟨p1719, 0, none⟩) 5 5), (65, vi 5), (66, vi 4)] _ from ?_)
                 refine At.inBlockHit ?_
                 obtain ⟨O2655, hst2656, ho2657⟩ := OwnSl.rlb 1046 rfl hf2585
                 exact At.join (σ := (List UInt64 × Own)) (c2583, O2655) ⟨some1 h, (Stp.trans (Stp.up hst2588 rfl) (Stp.up hst2656 rfl)), ho2657⟩ (.cons rfl (.cons rfl (.cons rfl (.cons rfl (.cons rfl (.cons rfl (.cons rfl .nil)))))))
               ·rintro ⟨c2568, O2571⟩ wd2572 ⟨rfl, hst2573, hf2570⟩
                replace h := hk2575
                try dsimp only at h hst2573 hf2570
                refine (show At _ _ _ [(2, Value.pointer (some ⟨p24, 0, none⟩)), (3, Value.pointer (some ⟨p39, 0, none⟩)), (5, Value.pointer (some ⟨b114, 0, none⟩)), (6, Value.pointer (some ⟨b116, 0, none⟩)), (64, Value.slice (some ⟨p1719, 0, none⟩) 5 5), (65, vi 5), (66, vi 4)] _ from ?_)
                refine At.inBlock ?_
                refine At.then ?_
                refine WC.region ?_
                refine WL.yE (Y.add_i rfl rfl) (congrArg vi (by decide : w64 (4 + 1) = 5)) rfl ?_
                refine WL.y (Y.move rfl) rfl ?_
                refine WL.nil ?_
                refine At.again ?_
                refine WC.seq ?_
                refine WC.region ?_
                refine WL.yE (Y.lss_i rfl rfl) (congrArg Value.bool (by decide : decide ((5 : Int) < (5 : Int)) = false)) rfl ?_
                refine WL.nil ?_
                refine At.then ?_
                refine WC.seq ?_
                refine WC.condF rfl ?_
                refine WC.exit ?_
                refine At.thenX ?_
                refine At.thenX ?_
                refine At.inBlockHit ?_
                exact At.join (σ := Own) O2571 ⟨some1 h, (Stp.trans (Stp.up hst1732 rfl) (Stp.trans (Stp.up hst1734 rfl) (Stp.trans (Stp.up hst1741 rfl) (Stp.trans (Stp.up hst1824 rfl) (Stp.trans (Stp.up hst1912 rfl) (Stp.trans (Stp.up hst1914 rfl) (Stp.trans (Stp.up hst1921 rfl) (Stp.trans (Stp.up hst2007 rfl) (Stp.trans (Stp.up hst2098 rfl) (Stp.trans (Stp.up hst2100 rfl) (Stp.trans (Stp.up hst2107 rfl) (Stp.trans (Stp.up hst2194 rfl) (Stp.trans (Stp.up hst2286 rfl) (Stp.trans (Stp.up hst2288 rfl) (Stp.trans (Stp.up hst2295 rfl) (Stp.trans (Stp.up hst2383 rfl) (Stp.trans (Stp.up hst2476 rfl) (Stp.trans (Stp.up hst2478 rfl) (Stp.trans (Stp.up hst2485 rfl) (Stp.up hst2573 rfl))))))))))))))))))))⟩ (.cons rfl (.cons rfl (.cons rfl (.cons rfl .nil))))
     ·rintro O1723 wd1724 ⟨rfl, hst1725⟩
      replace h := hk1727
      refine (show At _ _ _ [(2, Value.pointer (some ⟨p24, 0, none⟩)), (3, Value.pointer (some ⟨p39, 0, none⟩)), (5, Value.pointer (some ⟨b114, 0, none⟩)), (6, Value.pointer (some ⟨b116, 0, none⟩))] _ from ?_)
      refine At.then ?_
      refine WC.seq ?_
      refine WC.region ?_
      have hf2658 := hf1639.st hst1650 rfl
      have hf2659 := hf2658.st hst1665 rfl
      have hf2660 := hf2659.st hst1672 rfl
      have hf2661 := hf2660.st hst1684 rfl
      have hf2662 := hf2661.st hst1722 rfl
      have hf2663 := hf2662.st hst1725 rfl
      refine WL.y (Y.loadAg ty27 rfl rfl (hf2663.cells 0 [vi a0.Scale, vu a0.Zero, vi a0.Pos.Offset, (Value.slice p15 m16 c17), vi a0.Neg.Offset, (Value.slice p19 m20 c21)] rfl) rfl) rfl ?_
      have hf2664 := hb1390.st hst1403 rfl
      have hf2665 := hf2664.st hst1470 rfl
      have hf2666 := hf2665.st hst1479 rfl
      have hf2667 := hf2666.st hst1484 rfl
      have hf2668 := hf2667.st hst1499 rfl
      have hf2669 := hf2668.st hst1517 rfl
      have hf2670 := hf2669.st hst1563 rfl
      have hf2671 := hf2670.st hst1570 rfl
      have hf2672 := hf2671.st hst1582 rfl
      have hf2673 := hf2672.st hst1616 rfl
      have hf2674 := hf2673.st hst1623 rfl
      have hf2675 := hf2674.st hst1635 rfl
      have hf2676 := hf2675.st hst1650 rfl
      have hf2677 := hf2676.st hst1665 rfl
      have hf2678 := hf2677.st hst1672 rfl
      have hf2679 := hf2678.st hst1684 rfl
      have hf2680 := hf2679.st hst1722 rfl
      have hf2681 := hf2680.st hst1725 rfl
      refine WL.y (Y.loadAg ty27 rfl rfl (hf2681.cells 0 [vi x118, vu x119, vi x120, (Value.slice p1380 m1381 c1382), vi x124, (Value.slice p1384 m1385 c1386)] rfl) rfl) rfl ?_
      have hf2682 := hf1644.mono (imm_st hst1650 rfl rfl)
      have hf2683 := hf2682.mono (imm_st hst1665 rfl rfl)
      have hf2684 := hf2683.mono (imm_st hst1672 rfl rfl)
      have hf2685 := hf2684.mono (imm_st hst1684 rfl rfl)
      have hf2686 := hf2685.mono (imm_st hst1722 rfl rfl)
      have hf2687 := hf2686.mono (imm_st hst1725 rfl rfl)
      have hf2688 := hf1647.mono (imm_st hst1650 rfl rfl)
      have hf2689 := hf2688.mono (imm_st hst1665 rfl rfl)
      have hf2690 := hf2689.mono (imm_st hst1672 rfl rfl)
      have hf2691 := hf2690.mono (imm_st hst1684 rfl rfl)
      have hf2692 := hf2691.mono (imm_st hst1722 rfl rfl)
      have hf2693 := hf2692.mono (imm_st hst1725 rfl rfl)
      have hf2694 := hf123.st hst1389 rfl rfl rfl
      have hf2695 := hf2694.st hst1403 rfl rfl rfl
      have hf2696 := hf2695.st hst1470 rfl rfl rfl
      have hf2697 := hf2696.st hst1479 rfl rfl rfl
      have hf2698 := hf2697.st hst1484 rfl rfl rfl
      have hf2699 := hf2698.st hst1499 rfl rfl rfl
      have hf2700 := hf2699.st hst1517 rfl rfl rfl
      have hf2701 := hf2700.st hst1563 rfl rfl rfl
      have hf2702 := hf2701.st hst1570 rfl rfl rfl
      have hf2703 := hf2702.st hst1582 rfl rfl rfl
      have hf2704 := hf2703.st hst1616 rfl rfl rfl
      have hf2705 := hf2704.st hst1623 rfl rfl rfl
      have hf2706 := hf2705.st hst1635 rfl rfl rfl
      have hf2707 := hf2706.st hst1650 rfl rfl rfl
      have hf2708 := hf2707.st hst1665 rfl rfl rfl
      have hf2709 := hf2708.st hst1672 rfl rfl rfl
      have hf2710 := hf2709.st hst1684 rfl rfl rfl
      have hf2711 := hf2710.st hst1722 rfl rfl rfl
      have hf2712 := hf2711.st hst1725 rfl rfl rfl
      have hf2713 := hf127.st hst1389 rfl rfl rfl
      have hf2714 := hf2713.st hst1403 rfl rfl rfl
      have hf2715 := hf2714.st hst1470 rfl rfl rfl
      have hf2716 := hf2715.st hst1479 rfl rfl rfl
      have hf2717 := hf2716.st hst1484 rfl rfl rfl
      have hf2718 := hf2717.st hst1499 rfl rfl rfl
      have hf2719 := hf2718.st hst1517 rfl rfl rfl
      have hf2720 := hf2719.st hst1563 rfl rfl rfl
      have hf2721 := hf2720.st hst1570 rfl rfl rfl
      have hf2722 := hf2721.st hst1582 rfl rfl rfl
      have hf2723 := hf2722.st hst1616 rfl rfl rfl
      have hf2724 := hf2723.st hst1623 rfl rfl rfl
      have hf2725 := hf2724.st hst1635 rfl rfl rfl
      have hf2726 := hf2725.st hst1650 rfl rfl rfl
      have hf2727 := hf2726.st hst1665 rfl rfl rfl
      have hf2728 := hf2727.st hst1672 rfl rfl rfl
      have hf2729 := hf2728.st hst1684 rfl rfl rfl
      have hf2730 := hf2729.st hst1722 rfl rfl rfl
      have hf2731 := hf2730.st hst1725 rfl rfl rfl
      obtain ⟨r2732, hp2733, h⟩ := bnd h
      refine WL.call (vals := [Value.agg (List.toArray [vi a0.Scale, vu a0.Zero, vi a0.Pos.Offset, (Value.slice p15 m16 c17), vi a0.Neg.Offset, (Value.slice p19 m20 c21)]), Value.agg (List.toArray [vi x118, vu x119, vi x120, (Value.slice p1380 m1381 c1382), vi x124, (Value.slice p1384 m1385 c1386)])]) kok22 rfl rfl (c_ref08_Same (A := fun _ => True) (a0 := a0) (a1 := (api_Hist.mk x118 x119 (api_Side.mk x120 x121) (api_Side.mk x124 x125))) (Sl.all hf2687) (Sl.all hf2693) (hf2712.src.sl) (hf2731.src.sl) hp2733) ?_
      rintro vr2736 wd2735 ⟨rfl, hm2734⟩
      obtain ⟨O2737, hold2738, hnew2739, hst2740⟩ := adoptE O1723 (fun k => 1) hm2734
      refine WL.y (Y.move rfl) rfl ?_
      obtain ⟨p2745, h, hk2746⟩ := bnd h
      refine WL.cut 4 (σ := (Bool × Own)) (fun x w' => x.1 = p2745 ∧ Stp [] O2737 wd2735 x.2 w') (fun x => [(118, Value.bool x.1)]) ?_ ?_
      ·rcases cnd h with ⟨hE2747, h⟩ | ⟨hE2747, h⟩
       ·refine WL.ren 114 rfl (congrArg Value.bool hE2747) ?_
        refine WL.ung rfl rfl ?_
        have hf2748 := hf1589.st hst1616 rfl
        have hf2749 := hf2748.st hst1623 rfl
        have hf2750 := hf2749.st hst1635 rfl
        have hf2751 := hf2750.st hst1650 rfl
        have hf2752 := hf2751.st hst1665 rfl
        have hf2753 := hf2752.st hst1672 rfl
        have hf2754 := hf2753.st hst1684 rfl
        have hf2755 := hf2754.st hst1722 rfl
        have hf2756 := hf2755.st hst1725 rfl
        have hf2757 := hf2756.st hst2740 rfl
        refine WL.y (Y.loadAg ty27 rfl rfl (hf2757.cells 0 [vi a1.Scale, vu a1.Zero, vi a1.Pos.Offset, (Value.slice p29 m30 c31), vi a1.Neg.Offset, (Value.slice p34 m35 c36)] rfl) rfl) rfl ?_
        refine WL.ung rfl rfl ?_
        have hf2758 := hb1404.st hst1470 rfl
        have hf2759 := hf2758.st hst1479 rfl
        have hf2760 := hf2759.st hst1484 rfl
        have hf2761 := hf2760.st hst1499 rfl
        have hf2762 := hf2761.st hst1517 rfl
        have hf2763 := hf2762.st hst1563 rfl
        have hf2764 := hf2763.st hst1570 rfl
        have hf2765 := hf2764.st hst1582 rfl
        have hf2766 := hf2765.st hst1616 rfl
        have hf2767 := hf2766.st hst1623 rfl
        have hf2768 := hf2767.st hst1635 rfl
        have hf2769 := hf2768.st hst1650 rfl
        have hf2770 := hf2769.st hst1665 rfl
        have hf2771 := hf2770.st hst1672 rfl
        have hf2772 := hf2771.st hst1684 rfl
        have hf2773 := hf2772.st hst1722 rfl
        have hf2774 := hf2773.st hst1725 rfl
        have hf2775 := hf2774.st hst2740 rfl
        refine WL.y (Y.loadAg ty27 rfl rfl (hf2775.cells 0 [vi x128, vu x129, vi x130, (Value.slice p1392 m1393 c1394), vi x134, (Value.slice p1397 m1398 c1399)] rfl) rfl) rfl ?_
        refine WL.ung rfl rfl ?_
        have hf2776 := hf1598.mono (imm_st hst1616 rfl rfl)
        have hf2777 := hf2776.mono (imm_st hst1623 rfl rfl)
        have hf2778 := hf2777.mono (imm_st hst1635 rfl rfl)
        have hf2779 := hf2778.mono (imm_st hst1650 rfl rfl)
        have hf2780 := hf2779.mono (imm_st hst1665 rfl rfl)
        have hf2781 := hf2780.mono (imm_st hst1672 rfl rfl)
        have hf2782 := hf2781.mono (imm_st hst1684 rfl rfl)
        have hf2783 := hf2782.mono (imm_st hst1722 rfl rfl)
        have hf2784 := hf2783.mono (imm_st hst1725 rfl rfl)
        have hf2785 := hf2784.mono (imm_st hst2740 rfl rfl)
        have hf2786 := hf1601.mono (imm_st hst1616 rfl rfl)
        have hf2787 := hf2786.mono (imm_st hst1623 rfl rfl)
        have hf2788 := hf2787.mono (imm_st hst1635 rfl rfl)
        have hf2789 := hf2788.mono (imm_st hst1650 rfl rfl)
        have hf2790 := hf2789.mono (imm_st hst1665 rfl rfl)
        have hf2791 := hf2790.mono (imm_st hst1672 rfl rfl)
        have hf2792 := hf2791.mono (imm_st hst1684 rfl rfl)
        have hf2793 := hf2792.mono (imm_st hst1722 rfl rfl)
        have hf2794 := hf2793.mono (imm_st hst1725 rfl rfl)
        have hf2795 := hf2794.mono (imm_st hst2740 rfl rfl)
        have hf2796 := hf1391.st hst1403 rfl rfl rfl
        have hf2797 := hf2796.st hst1470 rfl rfl rfl
        have hf2798 := hf2797.st hst1479 rfl rfl rfl
        have hf2799 := hf2798.st hst1484 rfl rfl rfl
        have hf2800 := hf2799.st hst1499 rfl rfl rfl
        have hf2801 := hf2800.st hst1517 rfl rfl rfl
        have hf2802 := hf2801.st hst1563 rfl rfl rfl
        have hf2803 := hf2802.st hst1570 rfl rfl rfl
        have hf2804 := hf2803.st hst1582 rfl rfl rfl
        have hf2805 := hf2804.st hst1616 rfl rfl rfl
        have hf2806 := hf2805.st hst1623 rfl rfl rfl
        have hf2807 := hf2806.st hst1635 rfl rfl rfl
        have hf2808 := hf2807.st hst1650 rfl rfl rfl
        have hf2809 := hf2808.st hst1665 rfl rfl rfl
        have hf2810 := hf2809.st hst1672 rfl rfl rfl
        have hf2811 := hf2810.st hst1684 rfl rfl rfl
        have hf2812 := hf2811.st hst1722 rfl rfl rfl
        have hf2813 := hf2812.st hst1725 rfl rfl rfl
        have hf2814 := hf2813.st hst2740 rfl rfl rfl
        have hf2815 := hf1396.st hst1403 rfl rfl rfl
        have hf2816 := hf2815.st hst1470 rfl rfl rfl
        have hf2817 := hf2816.st hst1479 rfl rfl rfl
        have hf2818 := hf2817.st hst1484 rfl rfl rfl
        have hf2819 := hf2818.st hst1499 rfl rfl rfl
        have hf2820 := hf2819.st hst1517 rfl rfl rfl
        have hf2821 := hf2820.st hst1563 rfl rfl rfl
        have hf2822 := hf2821.st hst1570 rfl rfl rfl
        have hf2823 := hf2822.st hst1582 rfl rfl rfl
        have hf2824 := hf2823.st hst1616 rfl rfl rfl
        have hf2825 := hf2824.st hst1623 rfl rfl rfl
        have hf2826 := hf2825.st hst1635 rfl rfl rfl
        have hf2827 := hf2826.st hst1650 rfl rfl rfl
        have hf2828 := hf2827.st hst1665 rfl rfl rfl
        have hf2829 := hf2828.st hst1672 rfl rfl rfl
        have hf2830 := hf2829.st hst1684 rfl rfl rfl
        have hf2831 := hf2830.st hst1722 rfl rfl rfl
        have hf2832 := hf2831.st hst1725 rfl rfl rfl
        have hf2833 := hf2832.st hst2740 rfl rfl rfl
        obtain ⟨r2834, hp2835, h⟩ := bnd h
        refine WL.call (vals := [Value.agg (List.toArray [vi a1.Scale, vu a1.Zero, vi a1.Pos.Offset, (Value.slice p29 m30 c31), vi a1.Neg.Offset, (Value.slice p34 m35 c36)]), Value.agg (List.toArray [vi x128, vu x129, vi x130, (Value.slice p1392 m1393 c1394), vi x134, (Value.slice p1397 m1398 c1399)])]) kok22 rfl rfl (c_ref08_Same (A := fun _ => True) (a0 := a1) (a1 := (api_Hist.mk x128 x129 (api_Side.mk x130 x131) (api_Side.mk x134 x135))) (Sl.all hf2785) (Sl.all hf2795) (hf2814.src.sl) (hf2833.src.sl) hp2835) ?_
        rintro vr2838 wd2837 ⟨rfl, hm2836⟩
        obtain ⟨O2839, hold2840, hnew2841, hst2842⟩ := adoptE O2737 (fun k => 1) hm2836
        refine WL.y (Y.pick (b := true) rfl rfl) rfl ?_
        exact WL.nil (At.join (σ := (Bool × Own)) (r2834, O2839) ⟨some1 h, (Stp.up hst2842 rfl)⟩ (.cons rfl .nil))
       ·refine WL.ren 114 rfl (congrArg Value.bool hE2747) ?_
        refine WL.gS rfl rfl rfl rfl ?_
        refine WL.gS rfl rfl rfl rfl ?_
        refine WL.gS rfl rfl rfl rfl ?_
        refine WL.y (Y.pick (b := false) rfl rfl) rfl ?_
        exact WL.nil (At.join (σ := (Bool × Own)) (false, O2737) ⟨some1 h, (Stp.refl _ _ _)⟩ (.cons rfl .nil))
      ·rintro ⟨x2741, O2742⟩ wd2743 ⟨rfl, hst2744⟩
       replace h := hk2746
       try dsimp only at h hst2744
       refine (show WL _ _ _ _ _ [(118, Value.bool x2741)] _ from ?_)
       refine WL.y (Y.assign rfl) rfl ?_
       refine WL.nil ?_
       refine At.then ?_
       refine WC.ret ?_
       obtain rfl := some1 h
       have hs2843 : Stp [13, 14, 15, 16, 17, 18, 19, 20, 21, 22, 23, 24, 25, 26, 27, 28, 29, 30, 31, 32, 33, 34, 35, 36, 37, 38, 39, 40, 41, 42, 43, 44, 45, 46, 47, 48, 49, 50, 51, 52, 53, 54, 55, 56, 57, 58, 59, 60, 61, 62, 63, 64, 65, 66, 67, 68, 69, 70, 71, 72, 73, 74, 76, 77, 78, 80, 81, 82, 83, 84, 1001, 1002, 1007, 1008, 1011, 1012, 1015, 1016, 1019, 1020, 1023, 1024, 1027, 1028, 1031, 1032, 1035, 1036, 1039, 1040, 1043, 1044] (Lg.O0 A) w O2742 wd2743 := (Stp.trans (Stp.up hst27 rfl) (Stp.trans (Stp.up hst42 rfl) (Stp.trans (Stp.up hst51 rfl) (Stp.trans (Stp.up hst70 rfl) (Stp.trans (Stp.up hst74 rfl) (Stp.trans (Stp.up hst98 rfl) (Stp.trans (Stp.up hst140 rfl) (Stp.trans (Stp.up hst1389 rfl) (Stp.trans (Stp.up hst1403 rfl) (Stp.trans (Stp.up hst1470 rfl) (Stp.trans (Stp.up hst1479 rfl) (Stp.trans (Stp.up hst1484 rfl) (Stp.trans (Stp.up hst1499 rfl) (Stp.trans (Stp.up hst1517 rfl) (Stp.trans (Stp.up hst1563 rfl) (Stp.trans (Stp.up hst1570 rfl) (Stp.trans (Stp.up hst1582 rfl) (Stp.trans (Stp.up hst1616 rfl) (Stp.trans (Stp.up hst1623 rfl) (Stp.trans (Stp.up hst1635 rfl) (Stp.trans (Stp.up hst1650 rfl) (Stp.trans (Stp.up hst1665 rfl) (Stp.trans (Stp.up hst1672 rfl) (Stp.trans (Stp.up hst1684 rfl) (Stp.trans (Stp.up hst1722 rfl) (Stp.trans (Stp.up hst1725 rfl) (Stp.trans (Stp.up hst2740 rfl) (Stp.up hst2744 rfl))))))))))))))))))))))))))))
       exact At.res (.inl rfl) rfl (.tmp rfl .nil) ⟨rfl, (Stp.ext hs2843 rfl rfl)⟩
end Go.Lg
