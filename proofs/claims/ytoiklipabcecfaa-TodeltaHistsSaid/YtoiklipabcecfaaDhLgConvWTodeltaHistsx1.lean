/- The walks of TodeltaHists and of what it calls, printed by gen.py. -/
import Derived.Test.YtoiklipabcecfaaDhLgConvWTodeltaHistsx0
set_option linter.unusedVariables false
namespace Go.Lg
open Go Go.Proofs
set_option maxRecDepth 100000
set_option maxHeartbeats 4000000
theorem c_todelta_begins {A : Nat → Prop} {v0_9 : Value} {v0_11 : Value} {a0 : api_State} {v1_1 : Value} {v1_13 : Value} {v1_15 : Value} {a1 : api_Point} {w : World} (hs0_9 : Sl Rep.u w A v0_9 a0.Hist.Pos.Counts) (hs0_11 : Sl Rep.u w A v0_11 a0.Hist.Neg.Counts) (hs1_1 : Sl rep_api_Pair w A v1_1 a1.Attrs) (hs1_13 : Sl Rep.u w A v1_13 a1.Hist.Pos.Counts) (hs1_15 : Sl Rep.u w A v1_15 a1.Hist.Neg.Counts) {r0 : Int} (h : todelta_begins a0 a1 = some r0) : Rets Try.prog 65 [ag [vB a0.Some, vi a0.Start, vi a0.Time, vi a0.Int_, vu a0.Re, vu a0.Im, vi a0.Hist.Scale, vu a0.Hist.Zero, vi a0.Hist.Pos.Offset, v0_9, vi a0.Hist.Neg.Offset, v0_11], ag [vs a1.Name, v1_1, vi a1.Kind, vi a1.Temp, vB a1.Mono, vi a1.Start, vi a1.Time, vi a1.Int_, vu a1.Re, vu a1.Im, vi a1.Hist.Scale, vu a1.Hist.Zero, vi a1.Hist.Pos.Offset, v1_13, vi a1.Hist.Neg.Offset, v1_15, vi a1.Flags]] w (fun v w' => v = vi r0 ∧ Ext w w') := by
 unfold todelta_begins at h
 refine Rets.enter Try.func65 z z ?_
 have t : Sl Rep.u w (imm (Lg.O0 A)) v0_9 a0.Hist.Pos.Counts := (Sl.start hs0_9)
 have C : Sl Rep.u w (imm (Lg.O0 A)) v0_11 a0.Hist.Neg.Counts := (Sl.start hs0_11)
 have D : Sl rep_api_Pair w (imm (Lg.O0 A)) v1_1 a1.Attrs := (Sl.start hs1_1)
 have E : Sl Rep.u w (imm (Lg.O0 A)) v1_13 a1.Hist.Pos.Counts := (Sl.start hs1_13)
 have F : Sl Rep.u w (imm (Lg.O0 A)) v1_15 a1.Hist.Neg.Counts := (Sl.start hs1_15)
 refine (show WC _ _ _ _ [(0, ag [vB a0.Some, vi a0.Start, vi a0.Time, vi a0.Int_, vu a0.Re, vu a0.Im, vi a0.Hist.Scale, vu a0.Hist.Zero, vi a0.Hist.Pos.Offset, v0_9, vi a0.Hist.Neg.Offset, v0_11]), (1, ag [vs a1.Name, v1_1, vi a1.Kind, vi a1.Temp, vB a1.Mono, vi a1.Start, vi a1.Time, vi a1.Int_, vu a1.Re, vu a1.Im, vi a1.Hist.Scale, vu a1.Hist.Zero, vi a1.Hist.Pos.Offset, v1_13, vi a1.Hist.Neg.Offset, v1_15, vi a1.Flags])] _ from ?_)
 refine sq (rg ?_)
 have G := h
 obtain ⟨aa, ab, ac, rfl⟩ := t.shape
 have h := G
 have H := h
 obtain ⟨ad, ae, af, rfl⟩ := C.shape
 have h := H
 refine WL.box (O := (Lg.O0 A)) 11 [vB a0.Some, vi a0.Start, vi a0.Time, vi a0.Int_, vu a0.Re, vu a0.Im, vi a0.Hist.Scale, vu a0.Hist.Zero, vi a0.Hist.Pos.Offset, (Value.slice aa ab ac), vi a0.Hist.Neg.Offset, (Value.slice ad ae af)] z z z ?_
 intro au ah ar c I
 have J := D.i c z z
 have K := h
 obtain ⟨ai, aj, ak, rfl⟩ := J.shape
 have h := K
 have L := E.i c z z
 have M := h
 obtain ⟨al, am, an, rfl⟩ := L.shape
 have h := M
 have P := F.i c z z
 have Q := h
 obtain ⟨ao, ap, aq, rfl⟩ := P.shape
 have h := Q
 refine WL.box (O := ah) 12 [vs a1.Name, (Value.slice ai aj ak), vi a1.Kind, vi a1.Temp, vB a1.Mono, vi a1.Start, vi a1.Time, vi a1.Int_, vu a1.Re, vu a1.Im, vi a1.Hist.Scale, vu a1.Hist.Zero, vi a1.Hist.Pos.Offset, (Value.slice al am an), vi a1.Hist.Neg.Offset, (Value.slice ao ap aq), vi a1.Flags] z z z ?_
 intro av p j d q
 refine wY (ya z) z (nl (th (sq (WC.block (sq (rg (wY (yf fo32_0 z) z ?_)))))))
 have l := I.st d z
 refine wY (yl ty4 z z (l.cell 0 _ z)) z (wY (Y.not z) z ?_)
 obtain ⟨aw, S, h⟩ := lt1 h
 refine WL.yE (ya z) (congrArg vB S.symm) z (nl (th ?_))
 rcases cnd h with ⟨m, h⟩ | ⟨m, h⟩
 ·refine WC.condT' z m (sq (rg (wY (ya z) z (nl (th (rt (At.inBlockR (At.thenR ?_))))))))
  obtain rfl := some1 h
  have T : Stp [] (Lg.O0 A) w p j := (tr_ (su_ c z) (su_ d z))
  exact At.res (.inl z) z (.tmp z .nil) ⟨z, (se_ T z z)⟩
 ·refine WC.condF' z m (sq (rg (wY (yf fo37_5 z) z (wY (yl ty3 z z (q.cell 5 _ z)) z (wY (yf fo32_1 z) z (wY (yl ty3 z z (l.cell 1 _ z)) z (wY (Y.leq_i z z) z ?_)))))))
  obtain ⟨ax, U, h⟩ := lt1 h
  refine WL.yE (ya z) (congrArg vB U.symm) z (nl (th ?_))
  rcases cnd h with ⟨n, h⟩ | ⟨n, h⟩
  ·refine WC.condT' z n (sq (rg (wY (ya z) z (nl (th (rt (At.inBlockR (At.thenR ?_))))))))
   obtain rfl := some1 h
   have V : Stp [] (Lg.O0 A) w p j := (tr_ (su_ c z) (su_ d z))
   exact At.res (.inl z) z (.tmp z .nil) ⟨z, (se_ V z z)⟩
  ·refine WC.condF' z n (sq (rg (wY (yf fo37_5 z) z (wY (yl ty3 z z (q.cell 5 _ z)) z (wY (yf fo32_2 z) z (wY (yl ty3 z z (l.cell 2 _ z)) z (wY (Y.gtr_i z z) z ?_)))))))
   obtain ⟨ay, W, h⟩ := lt1 h
   refine WL.yE (ya z) (congrArg vB W.symm) z (nl (th ?_))
   rcases cnd h with ⟨o, h⟩ | ⟨o, h⟩
   ·refine WC.condT' z o (sq (rg (wY (ya z) z (nl (th (rt (At.inBlockR (At.thenR ?_))))))))
    obtain rfl := some1 h
    have X : Stp [] (Lg.O0 A) w p j := (tr_ (su_ c z) (su_ d z))
    exact At.res (.inl z) z (.tmp z .nil) ⟨z, (se_ X z z)⟩
   ·refine WC.condF' z o (sk (At.inBlock (th (sq (rg (wY (ya z) z (nl (th (rt ?_)))))))))
    obtain rfl := some1 h
    have Z : Stp [] (Lg.O0 A) w p j := (tr_ (su_ c z) (su_ d z))
    exact At.res (.inl z) z (.tmp z .nil) ⟨z, (se_ Z z z)⟩
theorem c_num_Odd {a0 : UInt64} {w : World} {r0 : Bool} (h : num_Odd a0 = some r0) : Rets Try.prog 117 [vu a0] w (fun v w' => v = vB r0 ∧ Ext w w') := by
 unfold num_Odd at h
 refine Rets.enter Try.func117 z z ?_
 refine (show WC _ _ _ _ [(0, vu a0)] _ from ?_)
 refine sq (rg (wY (ya z) z (nl (th (sq (rg (wY (ym z) z (wY (Y.andNot_u (b := 9223372036854775808) z z) z (wY (Y.gtr_u (b := 9218868437227405312) z z) z ?_)))))))))
 obtain ⟨j, c, h⟩ := lt1 h
 refine WL.yE (ya z) (congrArg vB c.symm) z (nl (th (rt ?_)))
 obtain rfl := some1 h
 have d : Stp [] (Lg.O0 (fun _ => False)) w (Lg.O0 (fun _ => False)) w := (sr_ _ _ _)
 exact At.res (.inl z) z (.tmp z .nil) ⟨z, (se_ d z z)⟩
theorem c_num_Canon {a0 : UInt64} {w : World} {r0 : UInt64} (h : num_Canon a0 = some r0) : Rets Try.prog 114 [vu a0] w (fun v w' => v = vu r0 ∧ Ext w w') := by
 unfold num_Canon at h
 refine Rets.enter Try.func114 z z ?_
 refine (show WC _ _ _ _ [(0, vu a0)] _ from ?_)
 refine sq (rg (wY (ya (v := vu 0) z) z (nl (th (sq (sq (rg (wY (ym z) z ?_))))))))
 obtain ⟨D, m, h⟩ := bnd h
 refine WL.call (vals := [vu a0]) kok117 z z (c_num_Odd m) ?_
 rintro C j ⟨rfl, n⟩
 obtain ⟨l, q, t, d⟩ := adoptE (Lg.O0 (fun _ => False)) (fun k => 1) n
 refine nl (th ?_)
 rcases cnd h with ⟨c, h⟩ | ⟨c, h⟩
 ·refine WC.condT' z c (sq (rg (wY (ya (v := vu 9221120237041090561) z) z (nl (th (rt (At.thenR ?_)))))))
  obtain rfl := some1 h
  have o : Stp [] (Lg.O0 (fun _ => False)) w l j := (su_ d z)
  exact At.res (.inl z) z (.tmp z .nil) ⟨z, (se_ o z z)⟩
 ·refine WC.condF' z c (sk (th (sq (rg (wY (ym z) z (wY (ya z) z (nl (th (rt ?_)))))))))
  obtain rfl := some1 h
  have p : Stp [] (Lg.O0 (fun _ => False)) w l j := (su_ d z)
  exact At.res (.inl z) z (.tmp z .nil) ⟨z, (se_ p z z)⟩
theorem num_Canon_eq (a : UInt64) : num_Canon a = some (fCan a.toNat) := by
  have e : UInt64.ofNat a.toNat = a := UInt64.toNat_inj.1 (by rw [UInt64.toNat_ofNat']; have := UInt64.toNat_lt a; omega)
  unfold num_Canon num_Odd fCan lett
  rw [fodd_of]
  cases fOdd a.toNat
  · rw [if_neg (by simp), e]; rfl
  · rw [if_pos rfl]; rfl
theorem c_num_bits {r : Nat} {w : World} (hr : r < 18446744073709551616) : Rets Try.prog 110 [.float .f64 r] w (fun v w' => v = vu (fCan r) ∧ Ext w w') := by
  refine Rets.enter Try.func110 z z ?_
  refine (show WC _ _ _ _ [(0, .float .f64 r)] _ from ?_)
  refine sq (rg (wY (ya (v := vu 0) z) z (nl (th ?_))))
  refine sq (rg ?_)
  refine wY (ym z) z ?_
  have er : (UInt64.ofNat r).toNat = r := by rw [UInt64.toNat_ofNat']; omega
  refine wY (Y.fbits xbits_115 hr z) z (WL.call (vals := [vu (UInt64.ofNat r)]) kok114 z z (c_num_Canon (num_Canon_eq _)) ?_)
  rintro o d ⟨rfl, j⟩
  obtain ⟨n, l, m, c⟩ := adoptE (Lg.O0 (fun _ => False)) (fun k => 1) j
  refine wY (ya z) z (nl (th (rt ?_)))
  have hs : Stp [] (Lg.O0 (fun _ => False)) w n d := (su_ c z)
  rw [er]
  exact At.res (.inl z) z (.tmp z .nil) ⟨z, se_ hs z z⟩
theorem c_num_Sub {a0 : UInt64} {a1 : UInt64} {w : World} {r0 : UInt64} (h : num_Sub a0 a1 = some r0) : Rets Try.prog 89 [vu a0, vu a1] w (fun v w' => v = vu r0 ∧ Ext w w') := by
  unfold num_Sub at h
  obtain rfl := some1 h
  refine Rets.enter Try.func89 z z ?_
  refine (show WC _ _ _ _ [(0, vu a0), (1, vu a1)] _ from ?_)
  refine sq (rg (wY (ya (v := vu 0) z) z (nl (th ?_))))
  refine sq (rg ?_)
  refine wY (ym z) z (WL.call (vals := [vu a0]) kok72 z z (c_num_of) ?_)
  rintro L M ⟨rfl, n⟩
  obtain ⟨I, C, D, d⟩ := adoptE (Lg.O0 (fun _ => False)) (fun k => 1) n
  refine wY (ym z) z (WL.call (vals := [vu a1]) kok72 z z (c_num_of) ?_)
  rintro P Q ⟨rfl, o⟩
  obtain ⟨p, E, F, j⟩ := adoptE I (fun k => 1) o
  refine WL.fsub (O := p) z z z ?_
  intro J S l c
  refine WL.call (vals := [.float .f64 J]) kok110 z z (c_num_bits c.1) ?_
  rintro T q ⟨rfl, t⟩
  obtain ⟨K, G, H, m⟩ := adoptE p (fun k => 1) t
  refine wY (ya z) z (nl (th (rt ?_)))
  rw [fSub_res c]
  have hs : Stp [] (Lg.O0 (fun _ => False)) w K q := (tr_ (su_ d z) (tr_ (su_ j z) (tr_ (su_ l z) (su_ m z))))
  exact At.res (.inl z) z (.tmp z .nil) ⟨z, se_ hs z z⟩
theorem c_todelta_finite {A : Nat → Prop} {a0 : List UInt64} {v0 : Value} {w : World} (hs0 : Sl Rep.u w A v0 a0) {r0 : Bool} (h : todelta_finite a0 = some r0) : Rets Try.prog 90 [v0] w (fun v w' => v = vB r0 ∧ Ext w w') := by
 unfold todelta_finite at h
 refine Rets.enter Try.func90 z z ?_
 have o : Sl Rep.u w (imm (Lg.O0 A)) v0 a0 := (Sl.start hs0)
 refine (show WC _ _ _ _ [(0, v0)] _ from ?_)
 refine sq (rg (wY (ya z) z (nl (th (sq (sq (rg (wY (ym z) z (wY (Y.len ty26 z o) z ?_)))))))))
 refine wY (ym z) z (nl (th (WC.block ?_)))
 obtain ⟨D, h, p⟩ := flow1 h
 obtain ⟨E, h⟩ := loop_some h
 refine WC.joinB 0 (σ := Own) (fun x w' => D = .go () ∧ Stp [] (Lg.O0 A) w x w') (fun x => []) ?_ ?_
 ·refine WC.loop (σ := (Int × Own)) (fun x k w' => loopN k (todelta_finite_lp1 a0) x.1 = some D ∧ Stp [] (Lg.O0 A) w x.2 w') (fun x => [(5, v0), (6, vi (a0.length : Int)), (7, vi x.1)]) (0, (Lg.O0 A)) E (.cons z (.cons z (.cons z .nil))) ⟨h, (sr_ _ _ _)⟩ ?_
  rintro ⟨F, G⟩ E af ⟨h, c⟩
  obtain ⟨Z, aj, rfl, h, d⟩ := rnd1 h
  unfold todelta_finite_lp1 at h
  try dsimp only at h c
  refine (show WC _ _ _ _ [(5, v0), (6, vi (a0.length : Int)), (7, vi F)] _ from ?_)
  refine sq (rg (wY (Y.lss_i z z) z (nl (th (sq ?_)))))
  rcases cnd h with ⟨j, h⟩ | ⟨j, h⟩
  ·refine WC.condT' z j (sk (th (sq (WC.block (sq (rg ?_))))))
   obtain ⟨H, J, h⟩ := bnd h
   have K := o.i c z z
   obtain ⟨ak, ad, ae, ah, L, M, P, l, q, Q⟩ := Sl.at2 K J
   obtain rfl := q
   replace l : CellsAt _ _ _ [vu H] := l
   have t := CAt.imm l Q
   refine wY (Y.indexAddr ty26 ty25 z L z M P) z (wY (yl ty25 z z t.at_) z (wY (ya z) z (nl (th (sq (rg (wY (ym z) z ?_)))))))
   obtain ⟨al, S, h⟩ := bnd h
   refine WL.call (vals := [vu H]) kok40 z z (c_num_Finite S) ?_
   rintro ai T ⟨rfl, U⟩
   obtain ⟨I, aa, ab, n⟩ := adoptE G (fun k => 1) U
   refine wY (Y.not z) z (nl (th ?_))
   rcases cnd h with ⟨m, h⟩ | ⟨m, h⟩
   ·refine WC.condT' z m (sq (rg (wY (ya z) z (nl (th (rt (At.inBlockR (At.thenR (At.loopR ?_)))))))))
    have h := outr1 h d p
    refine At.joinBR (At.inBlockR (At.thenR ?_))
    obtain rfl := some1 h
    have V : Stp [] (Lg.O0 A) w I T := (tr_ (su_ c z) (su_ n z))
    exact At.res (.inl z) z (.tmp z .nil) ⟨z, (se_ V z z)⟩
   ·refine WC.condF' z m (sk (At.inBlock (th (rg (wY (Y.add_i z z) z (wY (ym z) z (nl ?_)))))))
    exact At.round (w64 (F + 1), I) Z (Nat.lt_succ_self _) ⟨next1 h d, (tr_ (su_ c z) (su_ n z))⟩ (.cons z (.cons z (.cons z .nil)))
  ·refine WC.condF' z j (WC.exit (At.thenX (At.loopX ?_)))
   exact At.hitB (σ := Own) G ⟨brk1 h d, (su_ c z)⟩ .nil
 ·rintro ac W ⟨rfl, C⟩
  replace h := flowK_go p
  refine (show At _ _ _ [] _ from ?_)
  refine At.inBlockHit (th (sq (rg (wY (ya z) z (nl (th (rt ?_)))))))
  obtain rfl := some1 h
  have X : Stp [] (Lg.O0 A) w ac W := (su_ C z)
  exact At.res (.inl z) z (.tmp z .nil) ⟨z, (se_ X z z)⟩
theorem c_num_parts {r s : Nat} {w : World} (hr : r < 18446744073709551616) (hs0 : s < 18446744073709551616) : Rets Try.prog 96 [.complex .f64 r s] w (fun v w' => v = .tuple (List.toArray [vu (fCan r), vu (fCan s)]) ∧ Ext w w') := by
  refine Rets.enter Try.func96 z z ?_
  refine (show WC _ _ _ _ [(0, .complex .f64 r s)] _ from ?_)
  refine sq (rg (wY (ya (v := vu 0) z) z (wY (ya (v := vu 0) z) z (nl (th ?_)))))
  refine sq (rg ?_)
  refine wY (ym z) z (wY (Y.creal z) z (WL.call (vals := [.float .f64 r]) kok110 z z (c_num_bits hr) ?_))
  rintro D E ⟨rfl, j⟩
  obtain ⟨t, n, o, c⟩ := adoptE (Lg.O0 (fun _ => False)) (fun k => 1) j
  refine wY (ym z) z (wY (Y.cimag z) z (WL.call (vals := [.float .f64 s]) kok110 z z (c_num_bits hs0) ?_))
  rintro F l ⟨rfl, m⟩
  obtain ⟨C, p, q, d⟩ := adoptE t (fun k => 1) m
  refine wY (ya z) z (wY (ya z) z (nl (th (rt ?_))))
  have hs : Stp [] (Lg.O0 (fun _ => False)) w C l := (tr_ (su_ c z) (su_ d z))
  exact At.res (.inl z) z (.tmp z (.tmp z .nil)) ⟨z, se_ hs z z⟩
theorem c_num_phasor {a0 a1 : UInt64} {w : World} : Rets Try.prog 97 [vu a0, vu a1] w (fun v w' => v = .complex .f64 a0.toNat a1.toNat ∧ Ext w w') := by
  refine Rets.enter Try.func97 z z ?_
  refine (show WC _ _ _ _ [(0, vu a0), (1, vu a1)] _ from ?_)
  refine sq (rg (wY (ya (v := .complex .f64 0 0) z) z (nl (th ?_))))
  refine sq (rg ?_)
  refine wY (ym z) z (WL.call (vals := [vu a0]) kok72 z z (c_num_of) ?_)
  rintro D E ⟨rfl, j⟩
  obtain ⟨t, n, o, c⟩ := adoptE (Lg.O0 (fun _ => False)) (fun k => 1) j
  refine wY (ym z) z (WL.call (vals := [vu a1]) kok72 z z (c_num_of) ?_)
  rintro F l ⟨rfl, m⟩
  obtain ⟨C, p, q, d⟩ := adoptE t (fun k => 1) m
  refine wY (Y.cplx z z) z ?_
  refine wY (ya z) z (nl (th (rt ?_)))
  have hs : Stp [] (Lg.O0 (fun _ => False)) w C l := (tr_ (su_ c z) (su_ d z))
  exact At.res (.inl z) z (.tmp z .nil) ⟨z, se_ hs z z⟩
theorem c_num_SubPhasor {a0 : UInt64} {a1 : UInt64} {a2 : UInt64} {a3 : UInt64} {w : World} {r0 : UInt64} {r1 : UInt64} (h : num_SubPhasor a0 a1 a2 a3 = some (r0, r1)) : Rets Try.prog 91 [vu a0, vu a1, vu a2, vu a3] w (fun v w' => v = tp [vu r0, vu r1] ∧ Ext w w') := by
  unfold num_SubPhasor at h
  obtain ⟨rfl, rfl⟩ := tup2 h
  refine Rets.enter Try.func91 z z ?_
  refine (show WC _ _ _ _ [(0, vu a0), (1, vu a1), (2, vu a2), (3, vu a3)] _ from ?_)
  refine sq (rg (wY (ya (v := vu 0) z) z (wY (ya (v := vu 0) z) z (nl (th ?_)))))
  refine sq (rg ?_)
  refine wY (ym z) z (wY (ym z) z (WL.call (vals := [vu a0, vu a1]) kok97 z z (c_num_phasor) ?_))
  rintro P Q ⟨rfl, o⟩
  obtain ⟨J, D, E, j⟩ := adoptE (Lg.O0 (fun _ => False)) (fun k => 1) o
  refine wY (ym z) z (wY (ym z) z (WL.call (vals := [vu a2, vu a3]) kok97 z z (c_num_phasor) ?_))
  rintro S T ⟨rfl, p⟩
  obtain ⟨q, F, G, l⟩ := adoptE J (fun k => 1) p
  refine WL.csub (O := q) z z z ?_
  intro K L U m c d
  refine WL.call (vals := [.complex .f64 K L]) kok96 z z (c_num_parts c.1 d.1) ?_
  rintro V t ⟨rfl, C⟩
  obtain ⟨M, H, I, n⟩ := adoptE q (fun k => 1) C
  refine wY (yx z z) z (wY (yx z z) z ?_)
  refine wY (ya z) z (wY (ya z) z (nl (th (rt ?_))))
  rw [fSub_res c, fSub_res d]
  have hs : Stp [] (Lg.O0 (fun _ => False)) w M t := (tr_ (su_ j z) (tr_ (su_ l z) (tr_ (su_ m z) (su_ n z))))
  exact At.res (.inl z) z (.tmp z (.tmp z .nil)) ⟨z, se_ hs z z⟩
theorem c_hist_At {A : Nat → Prop} {v0_1 : Value} {a0 : api_Side} {a1 : Int} {w : World} (hs0_1 : Sl Rep.u w A v0_1 a0.Counts) {r0 : UInt64} (h : hist_At a0 a1 = some r0) : Rets Try.prog 62 [ag [vi a0.Offset, v0_1], vi a1] w (fun v w' => v = vu r0 ∧ Ext w w') := by
 unfold hist_At at h
 refine Rets.enter Try.func62 z z ?_
 have j : Sl Rep.u w (imm (Lg.O0 A)) v0_1 a0.Counts := (Sl.start hs0_1)
 refine (show WC _ _ _ _ [(0, ag [vi a0.Offset, v0_1]), (1, vi a1)] _ from ?_)
 refine sq (rg ?_)
 have D := h
 obtain ⟨P, Q, S, rfl⟩ := j.shape
 have h := D
 refine WL.box (O := (Lg.O0 A)) 11 [vi a0.Offset, (Value.slice P Q S)] z z z ?_
 intro t C l c d
 refine wY (ya (v := vu 0) z) z (nl (th (sq (sq (rg (wY (ym z) z (wY (yf fo28_0 z) z (wY (yl ty3 z z (d.cell 0 _ z)) z (wY (Y.lss_i z z) z ?_)))))))))
 refine wY (ym z) z ?_
 refine WL.cut 12 (σ := Unit) (fun _ w' => l = w') (fun _ => [(1, vi a1), (2, pt t 0), (21, vB ((decide (a1 < a0.Offset)) || (decide (toU64 (a0.Counts.length : Int) ≤ ((toU64 a1) - (toU64 a0.Offset))))))]) ?_ ?_
 ·refine WL.part 9 z (fun m => ?_) (fun m => ?_)
  ·refine WL.gS z z z z (WL.gS z z z z (WL.gS z z z z (WL.gS z z z z (WL.gS z z z z (WL.gS z z z z (WL.gS z z z z (WL.gS z z z z (WL.gS z z z z (WL.gS z z z z ?_)))))))))
   refine WL.gS z z z z (wY (Y.pick (b := true) z z) z (WL.ren (v' := vB ((decide (a1 < a0.Offset)) || (decide (toU64 (a0.Counts.length : Int) ≤ ((toU64 a1) - (toU64 a0.Offset)))))) 21 z (congrArg vB (orT m)) ?_))
   exact nl (At.join () z (.cons z (.cons z (.cons z .nil))))
  ·refine ug z z (wY (ym z) z (ug z z (wY (Y.conv_iu ty3.u ty25.u z) z (ug z z (wY (yf fo28_0 z) z (ug z z (wY (yl ty3 z z (d.cell 0 _ z)) z (ug z z (wY (Y.conv_iu ty3.u ty25.u z) z ?_)))))))))
   refine ug z z (wY (Y.sub_u z z) z (ug z z (wY (yf fo28_1 z) z (ug z z (wY (yl ty26 z z (d.cell 1 _ z)) z (ug z z ?_))))))
   have E := j.i c z z
   refine wY (Y.len ty26 z E) z (ug z z (wY (Y.conv_iu ty3.u ty25.u z) z (ug z z (wY (Y.geq_u z z) z (wY (Y.pick (b := false) z z) z (WL.ren (v' := vB ((decide (a1 < a0.Offset)) || (decide (toU64 (a0.Counts.length : Int) ≤ ((toU64 a1) - (toU64 a0.Offset)))))) 21 z (congrArg vB (orF m)) ?_))))))
   exact nl (At.join () z (.cons z (.cons z (.cons z .nil))))
 ·rintro _ _ rfl
  refine (show WL _ _ _ _ _ [(1, vi a1), (2, pt t 0), (21, vB ((decide (a1 < a0.Offset)) || (decide (toU64 (a0.Counts.length : Int) ≤ ((toU64 a1) - (toU64 a0.Offset))))))] _ from ?_)
  refine nl (th ?_)
  rcases cnd h with ⟨n, h⟩ | ⟨n, h⟩
  ·refine WC.condT' z n (sq (rg (wY (ya (v := vu 0) z) z (nl (th (rt (At.thenR ?_)))))))
   obtain rfl := some1 h
   have F : Stp [] (Lg.O0 A) w C l := (su_ c z)
   exact At.res (.inl z) z (.tmp z .nil) ⟨z, (se_ F z z)⟩
  ·refine WC.condF' z n (sk (th (sq (rg (wY (yf fo28_1 z) z (wY (yl ty26 z z (d.cell 1 _ z)) z (wY (ym z) z (wY (yf fo28_0 z) z (wY (yl ty3 z z (d.cell 0 _ z)) z ?_)))))))))
   refine wY (Y.sub_i z z) z ?_
   obtain ⟨T, G, h⟩ := bnd h
   have H := j.i c z z
   obtain ⟨X, U, V, W, I, J, K, o, p, L⟩ := Sl.at2 H G
   obtain rfl := p
   replace o : CellsAt _ _ _ [vu T] := o
   have q := CAt.imm o L
   refine wY (Y.indexAddr ty26 ty25 z I z J K) z (wY (yl ty25 z z q.at_) z (wY (ya z) z (nl (th (rt ?_)))))
   obtain rfl := some1 h
   have M : Stp [] (Lg.O0 A) w C l := (su_ c z)
   exact At.res (.inl z) z (.tmp z .nil) ⟨z, (se_ M z z)⟩
theorem c_hist_Trim {A : Nat → Prop} {v0_1 : Value} {a0 : api_Side} {w : World} (hs0_1 : Sl Rep.u w A v0_1 a0.Counts) {r0 : api_Side} (h : hist_Trim a0 = some r0) : Rets Try.prog 116 [ag [vi a0.Offset, v0_1]] w (fun v w' => ∃ (ad : Value), v = ag [vi r0.Offset, ad] ∧ Ext w w' ∧ Sl Rep.u w' (fun k => w.heap.size ≤ k) ad r0.Counts) := by
 unfold hist_Trim at h
 refine Rets.enter Try.func116 z z ?_
 have ae : Sl Rep.u w (imm (Lg.O0 A)) v0_1 a0.Counts := (Sl.start hs0_1)
 refine (show WC _ _ _ _ [(0, ag [vi a0.Offset, v0_1])] _ from ?_)
 refine sq (rg ?_)
 have a3 := h
 obtain ⟨aS, aT, aU, rfl⟩ := ae.shape
 have h := a3
 refine WL.box (O := (Lg.O0 A)) 11 [vi a0.Offset, (Value.slice aS aT aU)] z z z ?_
 intro d bC bS H a4
 refine WL.alloc (O := bC) 12 [vi 0, Value.slice none 0 0] ty28 z z ?_
 intro j W bT D af
 refine nl (th (sq (WC.draw 4 W fmix (by kernel_rfl) ?_)))
 intro m n
 refine WS.y (yf fo28_1 z) z ?_
 have a5 := a4.st D z
 have E := a5.st n z
 refine WS.y (yl ty26 z z (E.cell 1 _ z)) z ?_
 have a6 := ae.i H z z
 have a7 := a6.i D z z
 have I := a7.i n z z
 refine WS.y (Y.len ty26 z I) z (WS.y (ya z) z (WS.tail ?_))
 obtain ⟨l, ao, h⟩ := lt1 h
 refine WL.yE (ya z) (congrArg vi ao.symm) z (nl (th (sq ?_)))
 obtain ⟨bD, h, a8⟩ := bnd h
 refine WC.join (σ := Int) (fun x w' => x = bD ∧ m = w') (fun x => [(1, pt d 0), (2, pt j 0), (3, vi x), (4, vi l)]) ?_ ?_
 ·refine WC.block ?_
  obtain ⟨aW, h, a9⟩ := flow1 h
  obtain ⟨aX, h⟩ := loop_some h
  refine WC.joinB 0 (σ := Int) (fun x w' => aW = .go x ∧ m = w') (fun x => [(1, pt d 0), (2, pt j 0), (3, vi x), (4, vi l)]) ?_ ?_
  ·refine WC.loop (σ := Int) (fun x k w' => loopN k (hist_Trim_lp1 a0 l) x = some aW ∧ m = w') (fun x => [(1, pt d 0), (2, pt j 0), (3, vi x), (4, vi l)]) 0 aX (.cons z (.cons z (.cons z (.cons z .nil)))) ⟨h, z⟩ ?_
   rintro o aX _ ⟨h, rfl⟩
   obtain ⟨bE, b1, rfl, h, ah⟩ := rnd1 h
   unfold hist_Trim_lp1 at h
   try dsimp only at h
   refine (show WC _ _ _ _ [(1, pt d 0), (2, pt j 0), (3, vi o), (4, vi l)] _ from ?_)
   refine sq (sq (rg (wY (ym z) z (wY (ym z) z (wY (Y.lss_i z z) z (wY (ym z) z ?_))))))
   obtain ⟨bF, h, ba⟩ := bnd h
   refine WL.cut 7 (σ := Bool) (fun x w' => x = bF ∧ m = w') (fun x => [(1, pt d 0), (2, pt j 0), (3, vi o), (4, vi l), (18, vB x)]) ?_ ?_
   ·rcases cnd h with ⟨M, h⟩ | ⟨M, h⟩
    ·refine WL.ren 11 z (congrArg vB M) (ug z z (wY (yf fo28_1 z) z (ug z z (wY (yl ty26 z z (E.cell 1 _ z)) z (ug z z (wY (ym z) z (ug z z ?_)))))))
     obtain ⟨aY, bb, h⟩ := bnd h
     obtain ⟨b2, bL, bM, bU, bc, bd, bf, P, ap, bg⟩ := Sl.at2 I bb
     obtain rfl := ap
     replace P : CellsAt _ _ _ [vu aY] := P
     have aq := CAt.imm P bg
     refine wY (Y.indexAddr ty26 ty25 z bc z bd bf) z (ug z z (wY (yl ty25 z z aq.at_) z (ug z z (wY (Y.eql_u (b := 0) z z) z (wY (Y.pick (b := true) z z) z ?_)))))
     exact nl (At.join (σ := Bool) (decide (aY = 0)) ⟨some1 h, z⟩ (.cons z (.cons z (.cons z (.cons z (.cons z .nil))))))
    ·refine WL.ren 11 z (congrArg vB M) (WL.gS z z z z (WL.gS z z z z (WL.gS z z z z (WL.gS z z z z (WL.gS z z z z (WL.gS z z z z (wY (Y.pick (b := false) z z) z ?_)))))))
     exact nl (At.join (σ := Bool) false ⟨some1 h, z⟩ (.cons z (.cons z (.cons z (.cons z (.cons z .nil))))))
   ·rintro bG _ ⟨rfl, rfl⟩
    replace h := ba
    try dsimp only at h
    refine (show WL _ _ _ _ _ [(1, pt d 0), (2, pt j 0), (3, vi o), (4, vi l), (18, vB bG)] _ from ?_)
    refine nl (th ?_)
    rcases cnd h with ⟨Q, h⟩ | ⟨Q, h⟩
    ·refine WC.condT' z Q (sk (th (WC.block (rg (wY (ym z) z (wY (Y.add_i z z) z ?_))))))
     obtain ⟨ai, ab, h⟩ := lt1 h
     refine WL.yE (ya z) (congrArg vi ab.symm) z (nl (At.inBlock ?_))
     exact At.round ai bE (Nat.lt_succ_self _) ⟨next1 h ah, z⟩ (.cons z (.cons z (.cons z (.cons z .nil))))
    ·refine WC.condF' z Q (WC.exit (At.thenX (At.loopX ?_)))
     exact At.hitB (σ := Int) o ⟨brk1 h ah, z⟩ (.cons z (.cons z (.cons z (.cons z .nil))))
  ·rintro K _ ⟨rfl, rfl⟩
   replace h := flowK_go a9
   try dsimp only at h
   refine (show At _ _ _ [(1, pt d 0), (2, pt j 0), (3, vi K), (4, vi l)] _ from ?_)
   refine At.inBlockHit ?_
   exact At.join (σ := Int) K ⟨some1 h, z⟩ (.cons z (.cons z (.cons z (.cons z .nil))))
 ·rintro c _ ⟨rfl, rfl⟩
  replace h := a8
  try dsimp only at h
  refine (show At _ _ _ [(1, pt d 0), (2, pt j 0), (3, vi c), (4, vi l)] _ from ?_)
  refine th (sq ?_)
  obtain ⟨bH, h, bh⟩ := bnd h
  refine WC.join (σ := Int) (fun x w' => x = bH ∧ m = w') (fun x => [(1, pt d 0), (2, pt j 0), (3, vi c), (4, vi x)]) ?_ ?_
  ·refine WC.block ?_
   obtain ⟨aZ, h, bi⟩ := flow1 h
   obtain ⟨a1, h⟩ := loop_some h
   refine WC.joinB 2 (σ := Int) (fun x w' => aZ = .go x ∧ m = w') (fun x => [(1, pt d 0), (2, pt j 0), (3, vi c), (4, vi x)]) ?_ ?_
   ·refine WC.loop (σ := Int) (fun x k w' => loopN k (hist_Trim_lp2 a0 c) x = some aZ ∧ m = w') (fun x => [(1, pt d 0), (2, pt j 0), (3, vi c), (4, vi x)]) l a1 (.cons z (.cons z (.cons z (.cons z .nil)))) ⟨h, z⟩ ?_
    rintro J a1 _ ⟨h, rfl⟩
    obtain ⟨bI, b3, rfl, h, aj⟩ := rnd1 h
    unfold hist_Trim_lp2 at h
    try dsimp only at h
    refine (show WC _ _ _ _ [(1, pt d 0), (2, pt j 0), (3, vi c), (4, vi J)] _ from ?_)
    refine sq (sq (rg (wY (ym z) z (wY (ym z) z (wY (Y.gtr_i z z) z (wY (ym z) z ?_))))))
    obtain ⟨bJ, h, bj⟩ := bnd h
    refine WL.cut 8 (σ := Bool) (fun x w' => x = bJ ∧ m = w') (fun x => [(1, pt d 0), (2, pt j 0), (3, vi c), (4, vi J), (32, vB x)]) ?_ ?_
    ·rcases cnd h with ⟨S, h⟩ | ⟨S, h⟩
     ·refine WL.ren 24 z (congrArg vB S) (ug z z (wY (yf fo28_1 z) z (ug z z (wY (yl ty26 z z (E.cell 1 _ z)) z (ug z z (wY (ym z) z (ug z z (wY (Y.sub_i z z) z (ug z z ?_)))))))))
      obtain ⟨a2, bk, h⟩ := bnd h
      obtain ⟨b4, bO, bP, bW, bl, bm, bn, T, ar, bo⟩ := Sl.at2 I bk
      obtain rfl := ar
      replace T : CellsAt _ _ _ [vu a2] := T
      have au := CAt.imm T bo
      refine wY (Y.indexAddr ty26 ty25 z bl z bm bn) z (ug z z (wY (yl ty25 z z au.at_) z (ug z z (wY (Y.eql_u (b := 0) z z) z (wY (Y.pick (b := true) z z) z ?_)))))
      exact nl (At.join (σ := Bool) (decide (a2 = 0)) ⟨some1 h, z⟩ (.cons z (.cons z (.cons z (.cons z (.cons z .nil))))))
     ·refine WL.ren 24 z (congrArg vB S) (WL.gS z z z z (WL.gS z z z z (WL.gS z z z z (WL.gS z z z z (WL.gS z z z z (WL.gS z z z z (WL.gS z z z z (wY (Y.pick (b := false) z z) z ?_))))))))
      exact nl (At.join (σ := Bool) false ⟨some1 h, z⟩ (.cons z (.cons z (.cons z (.cons z (.cons z .nil))))))
    ·rintro bK _ ⟨rfl, rfl⟩
     replace h := bj
     try dsimp only at h
     refine (show WL _ _ _ _ _ [(1, pt d 0), (2, pt j 0), (3, vi c), (4, vi J), (32, vB bK)] _ from ?_)
     refine nl (th ?_)
     rcases cnd h with ⟨U, h⟩ | ⟨U, h⟩
     ·refine WC.condT' z U (sk (th (WC.block (rg (wY (ym z) z (wY (Y.sub_i z z) z ?_))))))
      obtain ⟨bp, av, h⟩ := lt1 h
      refine WL.yE (ya z) (congrArg vi av.symm) z (nl (At.inBlock ?_))
      exact At.round bp bI (Nat.lt_succ_self _) ⟨next1 h aj, z⟩ (.cons z (.cons z (.cons z (.cons z .nil))))
     ·refine WC.condF' z U (WC.exit (At.thenX (At.loopX ?_)))
      exact At.hitB (σ := Int) J ⟨brk1 h aj, z⟩ (.cons z (.cons z (.cons z (.cons z .nil))))
   ·rintro ak _ ⟨rfl, rfl⟩
    replace h := flowK_go bi
    try dsimp only at h
    refine (show At _ _ _ [(1, pt d 0), (2, pt j 0), (3, vi c), (4, vi ak)] _ from ?_)
    refine At.inBlockHit ?_
    exact At.join (σ := Int) ak ⟨some1 h, z⟩ (.cons z (.cons z (.cons z (.cons z .nil))))
  ·rintro al _ ⟨rfl, rfl⟩
   replace h := bh
   try dsimp only at h
   refine (show At _ _ _ [(1, pt d 0), (2, pt j 0), (3, vi c), (4, vi al)] _ from ?_)
   refine th (sq (sq (rg (wY (ym z) z (wY (ym z) z (wY (Y.eql_i z z) z (nl (th ?_))))))))
   rcases cnd h with ⟨V, h⟩ | ⟨V, h⟩
   ·refine WC.condT' z V (sq (rg (wY (yb (vals := []) (cells := [vi 0, Value.slice none 0 0]) (fe_ z) (by kernel_rfl)) z ?_)))
    have bq := af.st n z
    refine WL.store (v := ag [vi 0, Value.slice none 0 0]) (cells' := [vi 0, Value.slice none 0 0]) ty28 z z bq z (le_ z) z z ?_
    intro br aw bs
    refine nl (th (rt (At.thenR ?_)))
    obtain rfl := some1 h
    have bt : Stp [12] (Lg.O0 A) w W br := (tr_ (su_ H z) (tr_ (su_ D z) (tr_ (su_ n z) (su_ aw z))))
    exact At.res (.inl z) z (.cell z (bs.runAg 0 [vi 0, Value.slice none 0 0] ty28 z z z) .nil) ⟨Value.slice none 0 0, z, (se_ bt z z), (Or.inl ⟨z, z⟩)⟩
   ·refine WC.condF' z V (sk (th (sq (WC.drawH [] [0, 1, 2, 3, 4, 5, 6, 7, 8, 9, 10] W 12 fmix z (by kernel_rfl) ?_))))
    intro bX p
    refine WD.y 0 z (by kernel_rfl) (fun _ _ _ => yf fo28_0 z) z (WD.y 1 z (by kernel_rfl) (fun bQ bY am => have ax := E.st p z; have ay := ax.st am z; yl ty3 z z (ay.cell 0 _ z)) z (WD.y 2 z (by kernel_rfl) (fun _ _ _ => ym z) z (WD.y 3 z (by kernel_rfl) (fun _ _ _ => Y.add_i z z) z (WD.y 4 z (by kernel_rfl) (fun _ _ _ => yf fo28_1 z) z (WD.y 5 z (by kernel_rfl) (fun bR bZ an => have az := E.st p z; have aA := az.st an z; yl ty26 z z (aA.cell 1 _ z)) z (WD.y 6 z (by kernel_rfl) (fun _ _ _ => ym z) z (WD.y 7 z (by kernel_rfl) (fun _ _ _ => ym z) z ?_)))))))
    obtain ⟨b0, aC, h⟩ := bnd h
    have aD := I.i p z z
    obtain ⟨bu, aE, aF⟩ := Sl.slice (ρ := [(44, (Value.slice aS aT aU)), (45, vi c), (46, vi al)]) (x := (.tmp 44)) (lo := (some (.tmp 45))) (hi := (some (.tmp 46))) ty26 ty25 rfl rfl rfl aD aC
    refine WD.y 8 z (by kernel_rfl) (fun _ _ _ => Y.sub (.cons z (.cons z (.cons z .nil))) (aE _ _)) z (WD.heavy 9 z (by kernel_rfl) ?_)
    obtain ⟨bw, aG, h⟩ := bnd h
    refine WL.call (vals := [bu]) kok76 z z (c_slices_Clone_uint64_uint64 (A := fun _ => True) (Sl.all aF) aG) ?_
    rintro X aH ⟨_, rfl, aI, bx⟩
    obtain ⟨bz, bB, ac, F⟩ := adoptE W (fun k => if ob X = some k then 13 else 1) aI
    have Z : OwnSl 13 Rep.u 25 bz aH X bw := RowF.adopt 13 Flat.u bx ac (fun k hk => if_pos hk)
    refine nl (At.dq (su_ F z) ?_)
    have aJ := h
    obtain ⟨q, t, C, rfl⟩ := Z.shape
    have h := aJ
    refine WD.y 10 z (by kernel_rfl) (fun _ _ _ => yb (vals := [(0, vi (w64 (a0.Offset + c))), (1, (Value.slice q t C))]) (cells := [vi (w64 (a0.Offset + c)), (Value.slice q t C)]) (fe_ z) (by kernel_rfl)) z (WD.phase [12] [0, 1, 2, 3, 4, 5, 6, 7, 8, 9, 10, 11] (by kernel_rfl) (by kernel_rfl) (WD.heavy 11 z (by kernel_rfl) ?_))
    have aK := af.st n z
    have aL := aK.st p z
    have aM := aL.st F z
    refine WL.store (v := ag [vi (w64 (a0.Offset + c)), (Value.slice q t C)]) (cells' := [vi (w64 (a0.Offset + c)), (Value.slice q t C)]) ty28 z z aM z (le_ z) z z ?_
    intro aN G aO
    refine nl (At.dq (su_ G z) (WD.done_ (by kernel_rfl) (th (rt ?_))))
    obtain rfl := some1 h
    have aP := Z.st G z z z
    obtain ⟨bA, L, aQ⟩ := OwnSl.giveF rfl Flat.u aP
    have aa : Stp [12, 13] (Lg.O0 A) w bA aN := (tr_ (su_ H z) (tr_ (su_ D z) (tr_ (su_ n z) (tr_ (su_ p z) (tr_ (su_ F z) (tr_ (su_ G z) (su_ L z)))))))
    have aR := aO.st L z
    exact At.res (.inl z) z (.cell z (aR.runAg 0 [vi (w64 (a0.Offset + c)), (Value.slice q t C)] ty28 z z z) .nil) ⟨(Value.slice q t C), z, (se_ aa z z), (Sl.outF aQ aa low0)⟩
theorem c_fold_left {A : Nat → Prop} {v0_1 : Value} {a0 : api_Side} {v1_1 : Value} {a1 : api_Side} {w : World} (hs0_1 : Sl Rep.u w A v0_1 a0.Counts) (hs1_1 : Sl Rep.u w A v1_1 a1.Counts) {r0 : api_Side} {r1 : Bool} (h : fold_left a0 a1 = some (r0, r1)) : Rets Try.prog 111 [ag [vi a0.Offset, v0_1], ag [vi a1.Offset, v1_1]] w (fun v w' => ∃ (aO : Value), v = Value.tuple (List.toArray [ag [vi r0.Offset, aO], vB r1]) ∧ Ext w w' ∧ Sl Rep.u w' (fun k => w.heap.size ≤ k) aO r0.Counts) := by
 unfold fold_left at h
 refine Rets.enter Try.func111 z z ?_
 have an : Sl Rep.u w (imm (Lg.O0 A)) v0_1 a0.Counts := (Sl.start hs0_1)
 have cm : Sl Rep.u w (imm (Lg.O0 A)) v1_1 a1.Counts := (Sl.start hs1_1)
 refine (show WC _ _ _ _ [(0, ag [vi a0.Offset, v0_1]), (1, ag [vi a1.Offset, v1_1])] _ from ?_)
 refine sq (rg ?_)
 have cn := h
 obtain ⟨ab, ac, ad, rfl⟩ := an.shape
 have h := cn
 refine WL.box (O := (Lg.O0 A)) 11 [vi a0.Offset, (Value.slice ab ac ad)] z z z ?_
 intro F c7 dC C aP
 have aQ := cm.i C z z
 have co := h
 obtain ⟨ae, af, ah, rfl⟩ := aQ.shape
 have h := co
 refine WL.box (O := c7) 12 [vi a1.Offset, (Value.slice ae af ah)] z z z ?_
 intro G c8 dD o cp
 refine WL.alloc (O := c8) 13 [vi 0, Value.slice none 0 0] ty28 z z ?_
 intro q aC ao l aR
 refine wY (ya z) z (nl (th (sq (sq (rg (wY (yf fo28_1 z) z ?_))))))
 have ap := cp.st l z
 refine wY (yl ty26 z z (ap.cell 1 _ z)) z ?_
 have cq := aQ.i o z z
 have aq := cq.i l z z
 refine wY (Y.len ty26 z aq) z (wY (ym z) z (nl (th ?_)))
 obtain ⟨c9, h, aS⟩ := flow1 h
 refine WC.join (σ := Own) (fun x w' => c9 = .go () ∧ Stp [] aC ao x w') (fun x => [(2, pt F 0), (3, pt G 0), (4, pt q 0)]) ?_ ?_
 ·refine WC.block ?_
  obtain ⟨ci, h, aT⟩ := flow1 h
  obtain ⟨cj, h⟩ := loop_some h
  refine WC.joinB 0 (σ := Own) (fun x w' => ci = .go () ∧ Stp [] aC ao x w') (fun x => [(2, pt F 0), (3, pt G 0), (4, pt q 0)]) ?_ ?_
  ·refine WC.loop (σ := (Int × Own)) (fun x k w' => loopN k (fold_left_lp1 a0 a1) x.1 = some ci ∧ Stp [] aC ao x.2 w') (fun x => [(2, pt F 0), (3, pt G 0), (4, pt q 0), (12, (Value.slice ae af ah)), (13, vi (a1.Counts.length : Int)), (14, vi x.1)]) (0, aC) cj (.cons z (.cons z (.cons z (.cons z (.cons z (.cons z .nil)))))) ⟨h, (sr_ _ _ _)⟩ ?_
   rintro ⟨aU, ck⟩ cj dE ⟨h, c⟩
   obtain ⟨da, dT, rfl, h, ar⟩ := rnd1 h
   unfold fold_left_lp1 at h
   try dsimp only at h c
   refine (show WC _ _ _ _ [(2, pt F 0), (3, pt G 0), (4, pt q 0), (12, (Value.slice ae af ah)), (13, vi (a1.Counts.length : Int)), (14, vi aU)] _ from ?_)
   refine sq (rg (wY (Y.lss_i z z) z (nl (th (sq ?_)))))
   rcases cnd h with ⟨au, h⟩ | ⟨au, h⟩
   ·refine WC.condT' z au (sk (th (sq (WC.block (sq (rg (wY (ym z) z ?_)))))))
    obtain ⟨db, cr, h⟩ := bnd h
    have cs := aq.i c z z
    obtain ⟨dU, di, dj, dF, ct, cu, cv, av, ba, cw⟩ := Sl.at2 cs cr
    obtain rfl := ba
    replace av : CellsAt _ _ _ [vu db] := av
    have bb := CAt.imm av cw
    refine wY (Y.indexAddr ty26 ty25 z ct z cu cv) z (wY (yl ty25 z z bb.at_) z (wY (ya z) z (wY (ya z) z (nl (th (sq (rg (wY (ym z) z ?_))))))))
    have cx := aP.st o z
    have cy := cx.st l z
    have cz := cy.st c z
    refine wY (yL ty28 z z (cz.cells 0 [vi a0.Offset, (Value.slice ab ac ad)] z) z) z (wY (yf fo28_0 z) z ?_)
    have cA := ap.st c z
    refine wY (yl ty3 z z (cA.cell 0 _ z)) z (wY (ym z) z (wY (Y.add_i z z) z ?_))
    have cC := an.i C z z
    have cD := cC.i o z z
    have cE := cD.i l z z
    have cF := cE.i c z z
    obtain ⟨dV, cG, h⟩ := bnd h
    refine WL.call (vals := [ag [vi a0.Offset, (Value.slice ab ac ad)], vi (w64 (a1.Offset + aU))]) kok62 z z (c_hist_At (A := fun _ => True) (a0 := a0) (Sl.all cF) cG) ?_
    rintro dG dH ⟨rfl, cH⟩
    obtain ⟨cl, dc, dd, M⟩ := adoptE ck (fun k => 1) cH
    refine wY (Y.gtr_u z z) z (nl (th ?_))
    rcases cnd h with ⟨aw, h⟩ | ⟨aw, h⟩
    ·refine WC.condT' z aw (sq (rg (wY (yb (vals := []) (cells := [vi 0, Value.slice none 0 0]) (fe_ z) (by kernel_rfl)) z ?_)))
     have cI := aR.st c z
     have cJ := cI.st M z
     refine WL.store (v := ag [vi 0, Value.slice none 0 0]) (cells' := [vi 0, Value.slice none 0 0]) ty28 z z cJ z (le_ z) z z ?_
     intro cK bc cL
     refine wY (ya z) z (nl (th (rt (At.inBlockR (At.thenR (At.loopR ?_))))))
     have h := outr1 h ar aT
     refine At.joinBR (At.inBlockR ?_)
     have h := outs1 h aS
     refine At.joinR (At.thenR ?_)
     obtain ⟨rfl, rfl⟩ := tup2 h
     have cM : Stp [13] (Lg.O0 A) w cl cK := (tr_ (su_ C z) (tr_ (su_ o z) (tr_ (su_ l z) (tr_ (su_ c z) (tr_ (su_ M z) (su_ bc z))))))
     exact At.res (.inl z) z (.cell z (cL.runAg 0 [vi 0, Value.slice none 0 0] ty28 z z z) (.tmp z .nil)) ⟨Value.slice none 0 0, z, (se_ cM z z), (Or.inl ⟨z, z⟩)⟩
    ·refine WC.condF' z aw (sk (At.inBlock (th (rg (wY (Y.add_i z z) z (wY (ym z) z (nl ?_)))))))
     exact At.round (w64 (aU + 1), cl) da (Nat.lt_succ_self _) ⟨next1 h ar, (tr_ (su_ c z) (su_ M z))⟩ (.cons z (.cons z (.cons z (.cons z (.cons z (.cons z .nil))))))
   ·refine WC.condF' z au (WC.exit (At.thenX (At.loopX ?_)))
    exact At.hitB (σ := Own) ck ⟨brk1 h ar, (su_ c z)⟩ (.cons z (.cons z (.cons z .nil)))
  ·rintro de dI ⟨rfl, bd⟩
   replace h := flowK_go aT
   refine (show At _ _ _ [(2, pt F 0), (3, pt G 0), (4, pt q 0)] _ from ?_)
   refine At.inBlockHit ?_
   exact At.join (σ := Own) de ⟨go2 h, (su_ bd z)⟩ (.cons z (.cons z (.cons z .nil)))
 ·rintro df dJ ⟨rfl, t⟩
  replace h := flowK_go aS
  refine (show At _ _ _ [(2, pt F 0), (3, pt G 0), (4, pt q 0)] _ from ?_)
  refine th (sq (rg (wY (yf fo28_0 z) z ?_)))
  have cN := aP.st o z
  have cO := cN.st l z
  have aW := cO.st t z
  refine wY (yl ty3 z z (aW.cell 0 _ z)) z (wY (yb (vals := [(0, vi a0.Offset)]) (cells := [vi a0.Offset, Value.slice none 0 0]) (fe_ z) (by kernel_rfl)) z (WL.alloc (O := df) 14 [vi 0, Value.slice none 0 0] ty28 z z ?_))
  intro p P dk m cP
  refine WL.store (v := ag [vi a0.Offset, Value.slice none 0 0]) (cells' := [vi a0.Offset, Value.slice none 0 0]) ty28 z z cP z (le_ z) z z ?_
  intro Q n bf
  refine nl (th (sq (sq (rg (wY (yf fo28_1 z) z ?_)))))
  have bg := aW.st m z
  have aD := bg.st n z
  refine wY (yl ty26 z z (aD.cell 1 _ z)) z ?_
  have bh := an.i C z z
  have bi := bh.i o z z
  have bj := bi.i l z z
  have bk := bj.i t z z
  have bl := bk.i m z z
  have aE := bl.i n z z
  refine wY (Y.len ty26 z aE) z (wY (ym z) z (nl (th ?_)))
  obtain ⟨cQ, h, bm⟩ := bnd h
  refine WC.join (σ := (List UInt64 × Own × Value)) (fun x w' => x.1 = cQ ∧ Stp [14, 16, 1001, 1002] P Q x.2.1 w' ∧ OwnSl 1004 Rep.u 25 x.2.1 w' x.2.2 x.1 ∧ Blk 14 x.2.1 w' p 28 [vi a0.Offset, x.2.2]) (fun x => [(4, pt q 0), (8, pt p 0)]) ?_ ?_
  ·refine WC.block ?_
   obtain ⟨aX, h, bn⟩ := flow1 h
   obtain ⟨aY, h⟩ := loop_some h
   refine WC.joinB 2 (σ := (List UInt64 × Own × Value)) (fun x w' => aX = .go x.1 ∧ Stp [14, 16, 1001] P Q x.2.1 w' ∧ OwnSl 1002 Rep.u 25 x.2.1 w' x.2.2 x.1 ∧ Blk 14 x.2.1 w' p 28 [vi a0.Offset, x.2.2]) (fun x => [(4, pt q 0), (8, pt p 0)]) ?_ ?_
   ·refine WC.loop (σ := (List UInt64 × Int × Own × Value)) (fun x k w' => loopN k (fold_left_lp2 a0 a1) (x.1, x.2.1) = some aX ∧ Stp [14, 16, 1001] P Q x.2.2.1 w' ∧ OwnSl 1001 Rep.u 25 x.2.2.1 w' x.2.2.2 x.1 ∧ Blk 14 x.2.2.1 w' p 28 [vi a0.Offset, x.2.2.2]) (fun x => [(2, pt F 0), (3, pt G 0), (4, pt q 0), (8, pt p 0), (33, (Value.slice ab ac ad)), (34, vi (a0.Counts.length : Int)), (35, vi x.2.1)]) ([], 0, P, Value.slice none 0 0) aY (.cons z (.cons z (.cons z (.cons z (.cons z (.cons z (.cons z .nil))))))) ⟨h, (sr_ _ _ _), (OwnSl.nil 1001 Rep.u 25), bf⟩ ?_
    rintro ⟨cR, ax, aZ, cS⟩ aY dl ⟨h, d, S, H⟩
    obtain ⟨cT, dK, rfl, h, aF⟩ := rnd1 h
    unfold fold_left_lp2 at h
    try dsimp only at h d S H
    refine (show WC _ _ _ _ [(2, pt F 0), (3, pt G 0), (4, pt q 0), (8, pt p 0), (33, (Value.slice ab ac ad)), (34, vi (a0.Counts.length : Int)), (35, vi ax)] _ from ?_)
    refine sq (rg (wY (Y.lss_i z z) z (nl (th (sq ?_)))))
    rcases cnd h with ⟨T, h⟩ | ⟨T, h⟩
    ·refine WC.condT' z T (sk (th (sq (WC.block (sq (rg (wY (ym z) z ?_)))))))
     obtain ⟨I, bo, h⟩ := bnd h
     have bp := aE.i d z z
     obtain ⟨dL, dg, dh, dm, bq, br, bs, U, a2, bt⟩ := Sl.at2 bp bo
     obtain rfl := a2
     replace U : CellsAt _ _ _ [vu I] := U
     have a3 := CAt.imm U bt
     refine wY (Y.indexAddr ty26 ty25 z bq z br bs) z (wY (yl ty25 z z a3.at_) z (wY (ya z) z (wY (ya z) z (nl (th (WC.drawH [1001] [0, 1, 2, 3, 4, 5, 6, 7, 8, 9, 10, 11, 12] aZ 14 fmix z (by kernel_rfl) ?_))))))
     intro dn j
     refine WD.y 0 z (by kernel_rfl) (fun _ _ _ => yf fo28_1 z) z (WD.y 1 z (by kernel_rfl) (fun dp dM a4 => have bu := H.st j z; have bw := bu.st a4 z; yl ty26 z z (bw.cell 1 _ z)) z (WD.y 2 z (by kernel_rfl) (fun _ _ _ => ym z) z (WD.y 3 z (by kernel_rfl) (fun dr dN a5 => have bx := ap.st t z; have bz := bx.st m z; have bA := bz.st n z; have bB := bA.st d z; have bC := bB.st j z; have bD := bC.st a5 z; yL ty28 z z (bD.cells 0 [vi a1.Offset, (Value.slice ae af ah)] z) z) z (WD.y 4 z (by kernel_rfl) (fun _ _ _ => yf fo28_0 z) z (WD.y 5 z (by kernel_rfl) (fun ds dO a6 => have bE := aD.st d z; have bF := bE.st j z; have bG := bF.st a6 z; yl ty3 z z (bG.cell 0 _ z)) z (WD.y 6 z (by kernel_rfl) (fun _ _ _ => ym z) z (WD.y 7 z (by kernel_rfl) (fun _ _ _ => Y.add_i z z) z (WD.heavy 8 z (by kernel_rfl) ?_))))))))
     have bH := aq.i t z z
     have bI := bH.i m z z
     have bJ := bI.i n z z
     have bK := bJ.i d z z
     have bL := bK.i j z z
     obtain ⟨V, bM, h⟩ := bnd h
     refine WL.call (vals := [ag [vi a1.Offset, (Value.slice ae af ah)], vi (w64 (a0.Offset + ax))]) kok62 z z (c_hist_At (A := fun _ => True) (a0 := a1) (Sl.all bL) bM) ?_
     rintro dt du ⟨rfl, bO⟩
     obtain ⟨cU, c4, c5, D⟩ := adoptE aZ (fun k => 1) bO
     refine nl (At.dq (su_ D z) (WD.y 9 z (by kernel_rfl) (fun _ _ _ => Y.sub_u z z) z (WD.heavy 10 z (by kernel_rfl) (WL.buildSlice (O := cU) (R := Rep.u) (vals := [(0, vu (I - V))]) 15 [vu (I - V)] (xs := [(I - V)]) (by decide) ty26 ty25 (by decide) (by decide) (fe_ z) (by kernel_rfl) z ⟨[vu (I - V)], [], z, z, z⟩ z ?_))))
     intro dP dQ dw E bP
     refine nl (At.dq (su_ E z) (WD.heavy 11 z (by kernel_rfl) ?_))
     obtain ⟨bQ, a7, h⟩ := bnd h
     have bR := S.st j z z z
     have bS := bR.st D z z z
     have bT := bS.st E z z z
     refine WL.append (by decide) ty26 ty25 z (by decide) z z bT bP.src a7 z ?_
     intro dR cV dx J aG
     refine nl (At.dq (su_ J z) (WD.y 12 z (by kernel_rfl) (fun _ _ _ => yf fo28_1 z) z (WD.phase [14] [0, 1, 2, 3, 4, 5, 6, 7, 8, 9, 10, 11, 12, 13] (by kernel_rfl) (by kernel_rfl) (WD.heavy 13 z (by kernel_rfl) ?_))))
     have bU := h
     obtain ⟨ay, az, aA, rfl⟩ := aG.shape
     have h := bU
     have bW := H.st j z
     have bX := bW.st D z
     have bY := bX.st E z
     have bZ := bY.st J z
     refine WL.store (v := (Value.slice ay az aA)) (cells' := [vi a0.Offset, (Value.slice ay az aA)]) ty26 z z bZ z (le_ z) z z ?_
     intro dy K b0
     refine nl (At.dq (su_ K z) (WD.done_ (by kernel_rfl) (At.inBlock (th (rg (wY (Y.add_i z z) z (wY (ym z) z (nl ?_))))))))
     have b1 := aG.st K z z z
     exact At.round (bQ, w64 (ax + 1), cV, (Value.slice ay az aA)) cT (Nat.lt_succ_self _) ⟨next1 h aF, (tr_ (su_ d z) (tr_ (su_ j z) (tr_ (su_ D z) (tr_ (su_ E z) (tr_ (su_ J z) (su_ K z)))))), b1, b0⟩ (.cons z (.cons z (.cons z (.cons z (.cons z (.cons z (.cons z .nil)))))))
    ·refine WC.condF' z T (WC.exit (At.thenX (At.loopX ?_)))
     obtain ⟨cW, ai, b2⟩ := OwnSl.rlb 1002 rfl S
     have b3 := H.st ai z
     exact At.hitB (σ := (List UInt64 × Own × Value)) (cR, cW, cS) ⟨brk1 h aF, (tr_ (su_ d z) (su_ ai z)), b2, b3⟩ (.cons z (.cons z .nil))
   ·rintro ⟨cX, dS, cY⟩ dz ⟨rfl, aj, aH, aI⟩
    replace h := flowK_go bn
    try dsimp only at h aj aH aI
    refine (show At _ _ _ [(4, pt q 0), (8, pt p 0)] _ from ?_)
    refine At.inBlockHit ?_
    obtain ⟨cZ, ak, b4⟩ := OwnSl.rlb 1004 rfl aH
    have b5 := aI.st ak z
    exact At.join (σ := (List UInt64 × Own × Value)) (cX, cZ, cY) ⟨some1 h, (tr_ (su_ aj z) (su_ ak z)), b4, b5⟩ (.cons z (.cons z .nil))
  ·rintro ⟨c0, c1, a8⟩ dA ⟨rfl, L, aJ, aK⟩
   replace h := bm
   try dsimp only at h L aJ aK
   refine (show At _ _ _ [(4, pt q 0), (8, pt p 0)] _ from ?_)
   refine th (sq (rg (wY (yL ty28 z z (aK.cells 0 [vi a0.Offset, a8] z) z) z ?_)))
   obtain ⟨W, b6, h⟩ := bnd h
   refine WL.call (vals := [ag [vi a0.Offset, a8]]) kok116 z z (c_hist_Trim (A := fun _ => True) (a0 := (api_Side.mk a0.Offset c0)) (aJ.src.sl) b6) ?_
   rintro dB b7 ⟨c2, rfl, b8, c3⟩
   obtain ⟨a9, c6, aN, al⟩ := adoptE c1 (fun k => 1) b8
   have aL : Sl Rep.u b7 (frs a9) c2 W.Counts := Sl.adoptF c3 (fun k hk => ⟨hk, z⟩) aN
   have b9 := h
   obtain ⟨X, Z, aa, rfl⟩ := aL.shape
   have h := b9
   have ca := aR.st t z
   have cb := ca.st m z
   have cc := cb.st n z
   have cd := cc.st L z
   have ce := cd.st al z
   refine WL.store (v := ag [vi W.Offset, (Value.slice X Z aa)]) (cells' := [vi W.Offset, (Value.slice X Z aa)]) ty28 z z ce z (le_ z) z z ?_
   intro cf am cg
   refine wY (ya z) z (nl (th (rt ?_)))
   obtain ⟨rfl, rfl⟩ := tup2 h
   have aM : Stp [13, 14, 16, 1001, 1002] (Lg.O0 A) w a9 cf := (tr_ (su_ C z) (tr_ (su_ o z) (tr_ (su_ l z) (tr_ (su_ t z) (tr_ (su_ m z) (tr_ (su_ n z) (tr_ (su_ L z) (tr_ (su_ al z) (su_ am z)))))))))
   have ch := aL.f am z
   exact At.res (.inl z) z (.cell z (cg.runAg 0 [vi W.Offset, (Value.slice X Z aa)] ty28 z z z) (.tmp z .nil)) ⟨(Value.slice X Z aa), z, (se_ aM z z), (Sl.outF ch aM low0)⟩
theorem c_fold_Sub {A : Nat → Prop} {v0_3 : Value} {v0_5 : Value} {a0 : api_Hist} {v1_3 : Value} {v1_5 : Value} {a1 : api_Hist} {w : World} (hs0_3 : Sl Rep.u w A v0_3 a0.Pos.Counts) (hs0_5 : Sl Rep.u w A v0_5 a0.Neg.Counts) (hs1_3 : Sl Rep.u w A v1_3 a1.Pos.Counts) (hs1_5 : Sl Rep.u w A v1_5 a1.Neg.Counts) {r0 : api_Hist} {r1 : Int} (h : fold_Sub a0 a1 = some (r0, r1)) : Rets Try.prog 92 [ag [vi a0.Scale, vu a0.Zero, vi a0.Pos.Offset, v0_3, vi a0.Neg.Offset, v0_5], ag [vi a1.Scale, vu a1.Zero, vi a1.Pos.Offset, v1_3, vi a1.Neg.Offset, v1_5]] w (fun v w' => ∃ (aP : Value) (aQ : Value), v = Value.tuple (List.toArray [ag [vi r0.Scale, vu r0.Zero, vi r0.Pos.Offset, aP, vi r0.Neg.Offset, aQ], vi r1]) ∧ Ext w w' ∧ Sl Rep.u w' (fun k => w.heap.size ≤ k) aP r0.Pos.Counts ∧ Sl Rep.u w' (fun k => w.heap.size ≤ k) aQ r0.Neg.Counts) := by
 unfold fold_Sub at h
 refine Rets.enter Try.func92 z z ?_
 have aR : Sl Rep.u w (imm (Lg.O0 A)) v0_3 a0.Pos.Counts := (Sl.start hs0_3)
 have aS : Sl Rep.u w (imm (Lg.O0 A)) v0_5 a0.Neg.Counts := (Sl.start hs0_5)
 have cP : Sl Rep.u w (imm (Lg.O0 A)) v1_3 a1.Pos.Counts := (Sl.start hs1_3)
 have cQ : Sl Rep.u w (imm (Lg.O0 A)) v1_5 a1.Neg.Counts := (Sl.start hs1_5)
 refine (show WC _ _ _ _ [(0, ag [vi a0.Scale, vu a0.Zero, vi a0.Pos.Offset, v0_3, vi a0.Neg.Offset, v0_5]), (1, ag [vi a1.Scale, vu a1.Zero, vi a1.Pos.Offset, v1_3, vi a1.Neg.Offset, v1_5])] _ from ?_)
 refine sq (rg ?_)
 have cR := h
 obtain ⟨aT, aU, aW, rfl⟩ := aR.shape
 have h := cR
 have cS := h
 obtain ⟨aX, aY, aZ, rfl⟩ := aS.shape
 have h := cS
 refine WL.box (O := (Lg.O0 A)) 11 [vi a0.Scale, vu a0.Zero, vi a0.Pos.Offset, (Value.slice aT aU aW), vi a0.Neg.Offset, (Value.slice aX aY aZ)] z z z ?_
 intro dU dt dO G cT
 have a2 := cP.i G z z
 have cU := h
 obtain ⟨a3, a4, a5, rfl⟩ := a2.shape
 have h := cU
 have a6 := cQ.i G z z
 have cV := h
 obtain ⟨a7, a8, a9, rfl⟩ := a6.shape
 have h := cV
 refine WL.box (O := dt) 12 [vi a1.Scale, vu a1.Zero, vi a1.Pos.Offset, (Value.slice a3 a4 a5), vi a1.Neg.Offset, (Value.slice a7 a8 a9)] z z z ?_
 intro dV du dP F cW
 refine WL.alloc (O := du) 13 [vi 0, vu 0, vi 0, Value.slice none 0 0, vi 0, Value.slice none 0 0] ty30 z z ?_
 intro av dw dQ E au
 refine wY (ya z) z (nl (th (sq (rg ?_))))
 have cX := cT.st F z
 have cY := cX.st E z
 refine wY (yL ty30 z z (cY.cells 0 [vi a0.Scale, vu a0.Zero, vi a0.Pos.Offset, (Value.slice aT aU aW), vi a0.Neg.Offset, (Value.slice aX aY aZ)] z) z) z ?_
 have cZ := cW.st E z
 refine wY (yL ty30 z z (cZ.cells 0 [vi a1.Scale, vu a1.Zero, vi a1.Pos.Offset, (Value.slice a3 a4 a5), vi a1.Neg.Offset, (Value.slice a7 a8 a9)] z) z) z ?_
 have c0 := aR.i G z z
 have c1 := c0.i F z z
 have c2 := c1.i E z z
 have c3 := aS.i G z z
 have c4 := c3.i F z z
 have c5 := c4.i E z z
 have c6 := a2.i F z z
 have c7 := c6.i E z z
 have c8 := a6.i F z z
 have c9 := c8.i E z z
 obtain ⟨⟨c, d, dW⟩, da, h⟩ := bnd h
 refine WL.call (vals := [ag [vi a0.Scale, vu a0.Zero, vi a0.Pos.Offset, (Value.slice aT aU aW), vi a0.Neg.Offset, (Value.slice aX aY aZ)], ag [vi a1.Scale, vu a1.Zero, vi a1.Pos.Offset, (Value.slice a3 a4 a5), vi a1.Neg.Offset, (Value.slice a7 a8 a9)]]) kok52 z z (c_fold_Level (A := fun _ => True) (a0 := a0) (a1 := a1) (Sl.all c2) (Sl.all c5) (Sl.all c7) (Sl.all c9) da) ?_
 rintro dR X ⟨dx, dy, dz, dA, rfl, db, dB, dC, dD, dE⟩
 obtain ⟨ar, dF, U, T⟩ := adoptE dw (fun k => 1) db
 have dc : Sl Rep.u X (frs ar) dx c.Pos.Counts := Sl.adoptF dB (fun k hk => ⟨hk, z⟩) U
 have dd : Sl Rep.u X (frs ar) dy c.Neg.Counts := Sl.adoptF dC (fun k hk => ⟨hk, z⟩) U
 have de : Sl Rep.u X (frs ar) dz d.Pos.Counts := Sl.adoptF dD (fun k hk => ⟨hk, z⟩) U
 have df : Sl Rep.u X (frs ar) dA d.Neg.Counts := Sl.adoptF dE (fun k hk => ⟨hk, z⟩) U
 refine wY (ym z) z (wY (yx z z) z (wY (yx z z) z (wY (yx z z) z (WL.alloc (O := ar) 14 [vi 0, vu 0, vi 0, Value.slice none 0 0, vi 0, Value.slice none 0 0] ty30 z z ?_))))
 intro aw dG dS t dg
 refine WL.alloc (O := dG) 15 [vi 0, vu 0, vi 0, Value.slice none 0 0, vi 0, Value.slice none 0 0] ty30 z z ?_
 intro ax cO dT m dh
 have di := dc.f t z
 have ba := di.f m z
 have dj := h
 obtain ⟨ay, az, aA, rfl⟩ := ba.shape
 have h := dj
 have bh := dd.f t z
 have aC := bh.f m z
 have bi := h
 obtain ⟨Z, aa, ab, rfl⟩ := aC.shape
 have h := bi
 have bj := dg.st m z
 refine WL.store (v := ag [vi c.Scale, vu c.Zero, vi c.Pos.Offset, (Value.slice ay az aA), vi c.Neg.Offset, (Value.slice Z aa ab)]) (cells' := [vi c.Scale, vu c.Zero, vi c.Pos.Offset, (Value.slice ay az aA), vi c.Neg.Offset, (Value.slice Z aa ab)]) ty30 z z bj z (le_ z) z z ?_
 intro dH j bk
 have bl := de.f t z
 have bm := bl.f m z
 have aD := bm.f j z
 have bn := h
 obtain ⟨ac, ad, ae, rfl⟩ := aD.shape
 have h := bn
 have bo := df.f t z
 have bp := bo.f m z
 have aE := bp.f j z
 have bq := h
 obtain ⟨af, ah, ai, rfl⟩ := aE.shape
 have h := bq
 have br := dh.st j z
 refine WL.store (v := ag [vi d.Scale, vu d.Zero, vi d.Pos.Offset, (Value.slice ac ad ae), vi d.Neg.Offset, (Value.slice af ah ai)]) (cells' := [vi d.Scale, vu d.Zero, vi d.Pos.Offset, (Value.slice ac ad ae), vi d.Neg.Offset, (Value.slice af ah ai)]) ty30 z z br z (le_ z) z z ?_
 intro dI l aF
 refine wY (ya z) z (nl (th (sq (sq (rg (wY (ym z) z (wY (Y.neq_i z z) z (nl (th ?_)))))))))
 rcases cnd h with ⟨aj, h⟩ | ⟨aj, h⟩
 ·refine WC.condT' z aj (sq (rg (wY (yb (vals := []) (cells := [vi 0, vu 0, vi 0, Value.slice none 0 0, vi 0, Value.slice none 0 0]) (fe_ z) (by kernel_rfl)) z (wY (ym z) z ?_))))
  have bs := au.st T z
  have bt := bs.st t z
  have bu := bt.st m z
  have bw := bu.st j z
  have bx := bw.st l z
  refine WL.store (v := ag [vi 0, vu 0, vi 0, Value.slice none 0 0, vi 0, Value.slice none 0 0]) (cells' := [vi 0, vu 0, vi 0, Value.slice none 0 0, vi 0, Value.slice none 0 0]) ty30 z z bx z (le_ z) z z ?_
  intro bz bb bA
  refine wY (ya z) z (nl (th (rt (At.thenR ?_))))
  obtain ⟨rfl, rfl⟩ := tup2 h
  have bB : Stp [13, 14, 15] (Lg.O0 A) w cO bz := (tr_ (su_ G z) (tr_ (su_ F z) (tr_ (su_ E z) (tr_ (su_ T z) (tr_ (su_ t z) (tr_ (su_ m z) (tr_ (su_ j z) (tr_ (su_ l z) (su_ bb z)))))))))
  exact At.res (.inl z) z (.cell z (bA.runAg 0 [vi 0, vu 0, vi 0, Value.slice none 0 0, vi 0, Value.slice none 0 0] ty30 z z z) (.tmp z .nil)) ⟨Value.slice none 0 0, Value.slice none 0 0, z, (se_ bB z z), (Or.inl ⟨z, z⟩), (Or.inl ⟨z, z⟩)⟩
 ·refine WC.condF' z aj (sk (th (sq (rg (wY (yf fo30_2 z) z ?_)))))
  have aG := bk.st l z
  refine wY (yL ty28 z z (aG.cells 2 [vi c.Pos.Offset, (Value.slice ay az aA)] z) z) z (wY (yf fo30_2 z) z (wY (yL ty28 z z (aF.cells 2 [vi d.Pos.Offset, (Value.slice ac ad ae)] z) z) z ?_))
  have bC := ba.f j z
  have bD := bC.f l z
  have bE := aD.f l z
  obtain ⟨⟨H, S⟩, bF, h⟩ := bnd h
  refine WL.call (vals := [ag [vi c.Pos.Offset, (Value.slice ay az aA)], ag [vi d.Pos.Offset, (Value.slice ac ad ae)]]) kok111 z z (c_fold_left (A := fun _ => True) (a0 := c.Pos) (a1 := d.Pos) (Sl.all bD) (Sl.all bE) bF) ?_
  rintro dJ bG ⟨dk, rfl, bH, dl⟩
  obtain ⟨bc, dr, aN, C⟩ := adoptE cO (fun k => 1) bH
  have bI : Sl Rep.u bG (frs bc) dk H.Counts := Sl.adoptF dl (fun k hk => ⟨hk, z⟩) aN
  refine wY (ym z) z (wY (yx z z) z (wY (yx z z) z (WL.alloc (O := bc) 16 [vi 0, Value.slice none 0 0] ty28 z z ?_)))
  intro ak dm dK n bJ
  have aH := bI.f n z
  have bK := h
  obtain ⟨I, J, K, rfl⟩ := aH.shape
  have h := bK
  refine WL.store (v := ag [vi H.Offset, (Value.slice I J K)]) (cells' := [vi H.Offset, (Value.slice I J K)]) ty28 z z bJ z (le_ z) z z ?_
  intro dL o bL
  refine wY (ya z) z (nl (th (sq (rg (wY (yf fo30_3 z) z ?_)))))
  have bM := aG.st C z
  have bO := bM.st n z
  have aI := bO.st o z
  refine wY (yL ty28 z z (aI.cells 4 [vi c.Neg.Offset, (Value.slice Z aa ab)] z) z) z (wY (yf fo30_3 z) z ?_)
  have bP := aF.st C z
  have bQ := bP.st n z
  have aJ := bQ.st o z
  refine wY (yL ty28 z z (aJ.cells 4 [vi d.Neg.Offset, (Value.slice af ah ai)] z) z) z ?_
  have bR := aC.f j z
  have bS := bR.f l z
  have bT := bS.f C z
  have bU := bT.f n z
  have bW := bU.f o z
  have bX := aE.f l z
  have bY := bX.f C z
  have bZ := bY.f n z
  have b0 := bZ.f o z
  obtain ⟨⟨L, V⟩, b1, h⟩ := bnd h
  refine WL.call (vals := [ag [vi c.Neg.Offset, (Value.slice Z aa ab)], ag [vi d.Neg.Offset, (Value.slice af ah ai)]]) kok111 z z (c_fold_left (A := fun _ => True) (a0 := c.Neg) (a1 := d.Neg) (Sl.all bW) (Sl.all b0) b1) ?_
  rintro dM b2 ⟨dn, rfl, b3, dp⟩
  obtain ⟨bd, ds, aO, D⟩ := adoptE dm (fun k => 1) b3
  have b4 : Sl Rep.u b2 (frs bd) dn L.Counts := Sl.adoptF dp (fun k hk => ⟨hk, z⟩) aO
  refine wY (ym z) z (wY (yx z z) z (wY (yx z z) z (WL.alloc (O := bd) 17 [vi 0, Value.slice none 0 0] ty28 z z ?_)))
  intro al bf dN p b5
  have aK := b4.f p z
  have b6 := h
  obtain ⟨M, P, Q, rfl⟩ := aK.shape
  have h := b6
  refine WL.store (v := ag [vi L.Offset, (Value.slice M P Q)]) (cells' := [vi L.Offset, (Value.slice M P Q)]) ty28 z z b5 z (le_ z) z z ?_
  intro aL q b7
  refine wY (ya z) z (nl (th (sq (sq (rg (wY (yf fo30_1 z) z ?_))))))
  have b8 := aJ.st D z
  have b9 := b8.st p z
  have aM := b9.st q z
  refine wY (yl ty25 z z (aM.cell 1 _ z)) z (wY (yf fo30_1 z) z ?_)
  have ca := aI.st D z
  have cb := ca.st p z
  have am := cb.st q z
  refine wY (yl ty25 z z (am.cell 1 _ z)) z (wY (Y.gtr_u z z) z (wY (ym z) z ?_))
  refine WL.cut 3 (σ := Unit) (fun _ w' => aL = w') (fun _ => [(4, pt av 0), (6, pt aw 0), (7, pt ax 0), (9, pt ak 0), (11, pt al 0), (12, vB V), (48, vB ((decide (c.Zero < d.Zero)) || (!S)))]) ?_ ?_
  ·refine WL.part 45 z (fun an => ?_) (fun an => ?_)
   ·refine WL.gS z z z z (WL.gS z z z z (wY (Y.pick (b := true) z z) z (WL.ren (v' := vB ((decide (c.Zero < d.Zero)) || (!S))) 48 z (congrArg vB (orT an)) ?_)))
    exact nl (At.join () z (.cons z (.cons z (.cons z (.cons z (.cons z (.cons z (.cons z .nil))))))))
   ·refine ug z z (wY (ym z) z (ug z z (wY (Y.not z) z (wY (Y.pick (b := false) z z) z (WL.ren (v' := vB ((decide (c.Zero < d.Zero)) || (!S))) 48 z (congrArg vB (orF an)) ?_)))))
    exact nl (At.join () z (.cons z (.cons z (.cons z (.cons z (.cons z (.cons z (.cons z .nil))))))))
  ·rintro _ _ rfl
   refine (show WL _ _ _ _ _ [(4, pt av 0), (6, pt aw 0), (7, pt ax 0), (9, pt ak 0), (11, pt al 0), (12, vB V), (48, vB ((decide (c.Zero < d.Zero)) || (!S)))] _ from ?_)
   refine wY (ym z) z ?_
   refine WL.cut 3 (σ := Unit) (fun _ w' => aL = w') (fun _ => [(4, pt av 0), (6, pt aw 0), (7, pt ax 0), (9, pt ak 0), (11, pt al 0), (52, vB (((decide (c.Zero < d.Zero)) || (!S)) || (!V)))]) ?_ ?_
   ·refine WL.part 49 z (fun ao => ?_) (fun ao => ?_)
    ·refine WL.gS z z z z (WL.gS z z z z (wY (Y.pick (b := true) z z) z (WL.ren (v' := vB (((decide (c.Zero < d.Zero)) || (!S)) || (!V))) 52 z (congrArg vB (orT ao)) ?_)))
     exact nl (At.join () z (.cons z (.cons z (.cons z (.cons z (.cons z (.cons z .nil)))))))
    ·refine ug z z (wY (ym z) z (ug z z (wY (Y.not z) z (wY (Y.pick (b := false) z z) z (WL.ren (v' := vB (((decide (c.Zero < d.Zero)) || (!S)) || (!V))) 52 z (congrArg vB (orF ao)) ?_)))))
     exact nl (At.join () z (.cons z (.cons z (.cons z (.cons z (.cons z (.cons z .nil)))))))
   ·rintro _ _ rfl
    refine (show WL _ _ _ _ _ [(4, pt av 0), (6, pt aw 0), (7, pt ax 0), (9, pt ak 0), (11, pt al 0), (52, vB (((decide (c.Zero < d.Zero)) || (!S)) || (!V)))] _ from ?_)
    refine nl (th ?_)
    rcases cnd h with ⟨ap, h⟩ | ⟨ap, h⟩
    ·refine WC.condT' z ap (sq (rg (wY (yb (vals := []) (cells := [vi 0, vu 0, vi 0, Value.slice none 0 0, vi 0, Value.slice none 0 0]) (fe_ z) (by kernel_rfl)) z ?_)))
     have cc := au.st T z
     have cd := cc.st t z
     have ce := cd.st m z
     have cf := ce.st j z
     have cg := cf.st l z
     have ch := cg.st C z
     have ci := ch.st n z
     have cj := ci.st o z
     have ck := cj.st D z
     have cl := ck.st p z
     have cm := cl.st q z
     refine WL.store (v := ag [vi 0, vu 0, vi 0, Value.slice none 0 0, vi 0, Value.slice none 0 0]) (cells' := [vi 0, vu 0, vi 0, Value.slice none 0 0, vi 0, Value.slice none 0 0]) ty30 z z cm z (le_ z) z z ?_
     intro cn bg co
     refine wY (ya z) z (nl (th (rt (At.thenR ?_))))
     obtain ⟨rfl, rfl⟩ := tup2 h
     have cp : Stp [13, 14, 15, 16, 17] (Lg.O0 A) w bf cn := (tr_ (su_ G z) (tr_ (su_ F z) (tr_ (su_ E z) (tr_ (su_ T z) (tr_ (su_ t z) (tr_ (su_ m z) (tr_ (su_ j z) (tr_ (su_ l z) (tr_ (su_ C z) (tr_ (su_ n z) (tr_ (su_ o z) (tr_ (su_ D z) (tr_ (su_ p z) (tr_ (su_ q z) (su_ bg z)))))))))))))))
     exact At.res (.inl z) z (.cell z (co.runAg 0 [vi 0, vu 0, vi 0, Value.slice none 0 0, vi 0, Value.slice none 0 0] ty30 z z z) (.tmp z .nil)) ⟨Value.slice none 0 0, Value.slice none 0 0, z, (se_ cp z z), (Or.inl ⟨z, z⟩), (Or.inl ⟨z, z⟩)⟩
    ·refine WC.condF' z ap (sk (th (sq (rg (wY (yf fo30_0 z) z (wY (yl ty3 z z (am.cell 0 _ z)) z (wY (yf fo30_1 z) z (wY (yl ty25 z z (am.cell 1 _ z)) z (wY (yf fo30_1 z) z ?_)))))))))
     refine wY (yl ty25 z z (aM.cell 1 _ z)) z (wY (Y.sub_u z z) z ?_)
     have cq := bL.st D z
     have cr := cq.st p z
     have cs := cr.st q z
     refine wY (yL ty28 z z (cs.cells 0 [vi H.Offset, (Value.slice I J K)] z) z) z (wY (yL ty28 z z (b7.cells 0 [vi L.Offset, (Value.slice M P Q)] z) z) z (wY (yb (vals := [(0, vi c.Scale), (1, vu (c.Zero - d.Zero)), (2, ag [vi H.Offset, (Value.slice I J K)]), (3, ag [vi L.Offset, (Value.slice M P Q)])]) (cells := [vi c.Scale, vu (c.Zero - d.Zero), vi H.Offset, (Value.slice I J K), vi L.Offset, (Value.slice M P Q)]) (fe_ z) (by kernel_rfl)) z ?_))
     have ct := au.st T z
     have cu := ct.st t z
     have cv := cu.st m z
     have cw := cv.st j z
     have cx := cw.st l z
     have cy := cx.st C z
     have cz := cy.st n z
     have cA := cz.st o z
     have cC := cA.st D z
     have cD := cC.st p z
     have cE := cD.st q z
     refine WL.store (v := ag [vi c.Scale, vu (c.Zero - d.Zero), vi H.Offset, (Value.slice I J K), vi L.Offset, (Value.slice M P Q)]) (cells' := [vi c.Scale, vu (c.Zero - d.Zero), vi H.Offset, (Value.slice I J K), vi L.Offset, (Value.slice M P Q)]) ty30 z z cE z (le_ z) z z ?_
     intro cF W cG
     refine wY (ya z) z (nl (th (rt ?_)))
     obtain ⟨rfl, rfl⟩ := tup2 h
     have aq : Stp [13, 14, 15, 16, 17] (Lg.O0 A) w bf cF := (tr_ (su_ G z) (tr_ (su_ F z) (tr_ (su_ E z) (tr_ (su_ T z) (tr_ (su_ t z) (tr_ (su_ m z) (tr_ (su_ j z) (tr_ (su_ l z) (tr_ (su_ C z) (tr_ (su_ n z) (tr_ (su_ o z) (tr_ (su_ D z) (tr_ (su_ p z) (tr_ (su_ q z) (su_ W z)))))))))))))))
     have cH := aH.f o z
     have cI := cH.f D z
     have cJ := cI.f p z
     have cK := cJ.f q z
     have cL := cK.f W z
     have cM := aK.f q z
     have cN := cM.f W z
     exact At.res (.inl z) z (.cell z (cG.runAg 0 [vi c.Scale, vu (c.Zero - d.Zero), vi H.Offset, (Value.slice I J K), vi L.Offset, (Value.slice M P Q)] ty30 z z z) (.tmp z .nil)) ⟨(Value.slice I J K), (Value.slice M P Q), z, (se_ aq z z), (Sl.outF cL aq low0), (Sl.outF cN aq low0)⟩
theorem c_todelta_less {A : Nat → Prop} {v0_1 : Value} {v0_13 : Value} {v0_15 : Value} {a0 : api_Point} {v1_6 : Value} {v1_8 : Value} {a1 : todelta_value} {w : World} (hs0_1 : Sl rep_api_Pair w A v0_1 a0.Attrs) (hs0_13 : Sl Rep.u w A v0_13 a0.Hist.Pos.Counts) (hs0_15 : Sl Rep.u w A v0_15 a0.Hist.Neg.Counts) (hs1_6 : Sl Rep.u w A v1_6 a1.h.Pos.Counts) (hs1_8 : Sl Rep.u w A v1_8 a1.h.Neg.Counts) {r0 : todelta_value} {r1 : Int} (h : todelta_less a0 a1 = some (r0, r1)) : Rets Try.prog 66 [ag [vs a0.Name, v0_1, vi a0.Kind, vi a0.Temp, vB a0.Mono, vi a0.Start, vi a0.Time, vi a0.Int_, vu a0.Re, vu a0.Im, vi a0.Hist.Scale, vu a0.Hist.Zero, vi a0.Hist.Pos.Offset, v0_13, vi a0.Hist.Neg.Offset, v0_15, vi a0.Flags], ag [vi a1.i, vu a1.re, vu a1.im, vi a1.h.Scale, vu a1.h.Zero, vi a1.h.Pos.Offset, v1_6, vi a1.h.Neg.Offset, v1_8]] w (fun v w' => ∃ (aJ : Value) (aK : Value), v = Value.tuple (List.toArray [ag [vi r0.i, vu r0.re, vu r0.im, vi r0.h.Scale, vu r0.h.Zero, vi r0.h.Pos.Offset, aJ, vi r0.h.Neg.Offset, aK], vi r1]) ∧ Ext w w' ∧ Sl Rep.u w' (fun k => w.heap.size ≤ k) aJ r0.h.Pos.Counts ∧ Sl Rep.u w' (fun k => w.heap.size ≤ k) aK r0.h.Neg.Counts) := by
 unfold todelta_less at h
 refine Rets.enter Try.func66 z z ?_
 have c4 : Sl rep_api_Pair w (imm (Lg.O0 A)) v0_1 a0.Attrs := (Sl.start hs0_1)
 have aL : Sl Rep.u w (imm (Lg.O0 A)) v0_13 a0.Hist.Pos.Counts := (Sl.start hs0_13)
 have aM : Sl Rep.u w (imm (Lg.O0 A)) v0_15 a0.Hist.Neg.Counts := (Sl.start hs0_15)
 have c5 : Sl Rep.u w (imm (Lg.O0 A)) v1_6 a1.h.Pos.Counts := (Sl.start hs1_6)
 have c6 : Sl Rep.u w (imm (Lg.O0 A)) v1_8 a1.h.Neg.Counts := (Sl.start hs1_8)
 refine (show WC _ _ _ _ [(0, ag [vs a0.Name, v0_1, vi a0.Kind, vi a0.Temp, vB a0.Mono, vi a0.Start, vi a0.Time, vi a0.Int_, vu a0.Re, vu a0.Im, vi a0.Hist.Scale, vu a0.Hist.Zero, vi a0.Hist.Pos.Offset, v0_13, vi a0.Hist.Neg.Offset, v0_15, vi a0.Flags]), (1, ag [vi a1.i, vu a1.re, vu a1.im, vi a1.h.Scale, vu a1.h.Zero, vi a1.h.Pos.Offset, v1_6, vi a1.h.Neg.Offset, v1_8])] _ from ?_)
 refine sq (rg ?_)
 have c7 := h
 obtain ⟨ea, eb, ec, rfl⟩ := c4.shape
 have h := c7
 have c8 := h
 obtain ⟨aN, aO, aP, rfl⟩ := aL.shape
 have h := c8
 have c9 := h
 obtain ⟨aQ, aR, aS, rfl⟩ := aM.shape
 have h := c9
 refine WL.box (O := (Lg.O0 A)) 11 [vs a0.Name, (Value.slice ea eb ec), vi a0.Kind, vi a0.Temp, vB a0.Mono, vi a0.Start, vi a0.Time, vi a0.Int_, vu a0.Re, vu a0.Im, vi a0.Hist.Scale, vu a0.Hist.Zero, vi a0.Hist.Pos.Offset, (Value.slice aN aO aP), vi a0.Hist.Neg.Offset, (Value.slice aQ aR aS), vi a0.Flags] z z z ?_
 intro aC ed eF l da
 have aT := c5.i l z z
 have db := h
 obtain ⟨aU, aW, aX, rfl⟩ := aT.shape
 have h := db
 have aY := c6.i l z z
 have dc := h
 obtain ⟨aZ, a2, a3, rfl⟩ := aY.shape
 have h := dc
 refine WL.box (O := ed) 12 [vi a1.i, vu a1.re, vu a1.im, vi a1.h.Scale, vu a1.h.Zero, vi a1.h.Pos.Offset, (Value.slice aU aW aX), vi a1.h.Neg.Offset, (Value.slice aZ a2 a3)] z z z ?_
 intro aD ee eG j ac
 refine WL.alloc (O := ee) 13 [vi 0, vu 0, vu 0, vi 0, vu 0, vi 0, Value.slice none 0 0, vi 0, Value.slice none 0 0] ty102 z z ?_
 intro W aa dd d t
 refine wY (ya z) z (nl (th (sq (sq (rg (wY (yf fo37_2 z) z ?_))))))
 have de := da.st j z
 have p := de.st d z
 refine wY (yl ty3 z z (p.cell 2 _ z)) z (nl (th (WC.block (sq (rg (wY (Y.eql_i z z) z ?_))))))
 obtain ⟨eQ, df, h⟩ := lt1 h
 refine WL.yE (ya z) (congrArg vB df.symm) z (nl (th ?_))
 rcases cnd h with ⟨an, h⟩ | ⟨an, h⟩
 ·refine WC.condT' z an (sq (rg (wY (yf fo37_7 z) z (wY (yl ty3 z z (p.cell 7 _ z)) z (wY (yf fo102_0 z) z ?_)))))
  have ao := ac.st d z
  refine wY (yl ty3 z z (ao.cell 0 _ z)) z (wY (Y.sub_i z z) z ?_)
  obtain ⟨X, dg, h⟩ := lt1 h
  refine WL.yE (ya z) (congrArg vi dg.symm) z (nl (th (sq (sq (rg (wY (yf fo37_4 z) z (wY (yl ty4 z z (p.cell 4 _ z)) z (wY (ym z) z ?_))))))))
  refine WL.cut 6 (σ := Unit) (fun _ w' => dd = w') (fun _ => [(2, pt aC 0), (3, pt aD 0), (4, pt W 0), (6, vi X), (29, vB (a0.Mono && (decide (a0.Int_ < a1.i))))]) ?_ ?_
  ·refine WL.part 23 z (fun ap => ?_) (fun ap => ?_)
   ·refine ug z z (wY (yf fo37_7 z) z (ug z z (wY (yl ty3 z z (p.cell 7 _ z)) z (ug z z (wY (yf fo102_0 z) z (ug z z (wY (yl ty3 z z (ao.cell 0 _ z)) z (ug z z (wY (Y.lss_i z z) z ?_)))))))))
    refine wY (Y.pick (b := true) z z) z (WL.ren (v' := vB (a0.Mono && (decide (a0.Int_ < a1.i)))) 29 z (congrArg vB (andT ap)) ?_)
    exact nl (At.join () z (.cons z (.cons z (.cons z (.cons z (.cons z .nil))))))
   ·refine WL.gS z z z z (WL.gS z z z z (WL.gS z z z z (WL.gS z z z z (WL.gS z z z z (wY (Y.pick (b := false) z z) z (WL.ren (v' := vB (a0.Mono && (decide (a0.Int_ < a1.i)))) 29 z (congrArg vB (andF ap)) ?_))))))
    exact nl (At.join () z (.cons z (.cons z (.cons z (.cons z (.cons z .nil))))))
  ·rintro _ _ rfl
   refine (show WL _ _ _ _ _ [(2, pt aC 0), (3, pt aD 0), (4, pt W 0), (6, vi X), (29, vB (a0.Mono && (decide (a0.Int_ < a1.i))))] _ from ?_)
   refine nl (th ?_)
   rcases cnd h with ⟨aq, h⟩ | ⟨aq, h⟩
   ·refine WC.condT' z aq (sq (rg (wY (yb (vals := []) (cells := [vi 0, vu 0, vu 0, vi 0, vu 0, vi 0, Value.slice none 0 0, vi 0, Value.slice none 0 0]) (fe_ z) (by kernel_rfl)) z (WL.store (v := ag [vi 0, vu 0, vu 0, vi 0, vu 0, vi 0, Value.slice none 0 0, vi 0, Value.slice none 0 0]) (cells' := [vi 0, vu 0, vu 0, vi 0, vu 0, vi 0, Value.slice none 0 0, vi 0, Value.slice none 0 0]) ty102 z z t z (le_ z) z z ?_))))
    intro dh bk di
    refine wY (ya z) z (nl (th (rt (At.thenR (At.inBlockR (At.thenR ?_))))))
    obtain ⟨rfl, rfl⟩ := tup2 h
    have dj : Stp [13] (Lg.O0 A) w aa dh := (tr_ (su_ l z) (tr_ (su_ j z) (tr_ (su_ d z) (su_ bk z))))
    exact At.res (.inl z) z (.cell z (di.runAg 0 [vi 0, vu 0, vu 0, vi 0, vu 0, vi 0, Value.slice none 0 0, vi 0, Value.slice none 0 0] ty102 z z z) (.tmp z .nil)) ⟨Value.slice none 0 0, Value.slice none 0 0, z, (se_ dj z z), (Or.inl ⟨z, z⟩), (Or.inl ⟨z, z⟩)⟩
   ·refine WC.condF' z aq (sk (th (sq (sq (rg (wY (ym z) z (wY (yf fo37_7 z) z (wY (yl ty3 z z (p.cell 7 _ z)) z (wY (Y.lss_i z z) z ?_)))))))))
    refine wY (yf fo102_0 z) z (wY (yl ty3 z z (ao.cell 0 _ z)) z (wY (Y.gtr_i z z) z (wY (Y.neqB z z ty4.u) z (nl (th ?_)))))
    rcases cnd h with ⟨ar, h⟩ | ⟨ar, h⟩
    ·refine WC.condT' z ar (sq (rg (wY (yb (vals := []) (cells := [vi 0, vu 0, vu 0, vi 0, vu 0, vi 0, Value.slice none 0 0, vi 0, Value.slice none 0 0]) (fe_ z) (by kernel_rfl)) z (WL.store (v := ag [vi 0, vu 0, vu 0, vi 0, vu 0, vi 0, Value.slice none 0 0, vi 0, Value.slice none 0 0]) (cells' := [vi 0, vu 0, vu 0, vi 0, vu 0, vi 0, Value.slice none 0 0, vi 0, Value.slice none 0 0]) ty102 z z t z (le_ z) z z ?_))))
     intro dk bl dl
     refine wY (ya z) z (nl (th (rt (At.thenR (At.inBlockR (At.thenR ?_))))))
     obtain ⟨rfl, rfl⟩ := tup2 h
     have dm : Stp [13] (Lg.O0 A) w aa dk := (tr_ (su_ l z) (tr_ (su_ j z) (tr_ (su_ d z) (su_ bl z))))
     exact At.res (.inl z) z (.cell z (dl.runAg 0 [vi 0, vu 0, vu 0, vi 0, vu 0, vi 0, Value.slice none 0 0, vi 0, Value.slice none 0 0] ty102 z z z) (.tmp z .nil)) ⟨Value.slice none 0 0, Value.slice none 0 0, z, (se_ dm z z), (Or.inl ⟨z, z⟩), (Or.inl ⟨z, z⟩)⟩
    ·refine WC.condF' z ar (sk (th (sq (rg (wY (ym z) z (wY (yb (vals := [(0, vi X)]) (cells := [vi X, vu 0, vu 0, vi 0, vu 0, vi 0, Value.slice none 0 0, vi 0, Value.slice none 0 0]) (fe_ z) (by kernel_rfl)) z (WL.store (v := ag [vi X, vu 0, vu 0, vi 0, vu 0, vi 0, Value.slice none 0 0, vi 0, Value.slice none 0 0]) (cells' := [vi X, vu 0, vu 0, vi 0, vu 0, vi 0, Value.slice none 0 0, vi 0, Value.slice none 0 0]) ty102 z z t z (le_ z) z z ?_)))))))
     intro dn bm dp
     refine wY (ya z) z (nl (th (rt (At.inBlockR (At.thenR ?_)))))
     obtain ⟨rfl, rfl⟩ := tup2 h
     have dr : Stp [13] (Lg.O0 A) w aa dn := (tr_ (su_ l z) (tr_ (su_ j z) (tr_ (su_ d z) (su_ bm z))))
     exact At.res (.inl z) z (.cell z (dp.runAg 0 [vi X, vu 0, vu 0, vi 0, vu 0, vi 0, Value.slice none 0 0, vi 0, Value.slice none 0 0] ty102 z z z) (.tmp z .nil)) ⟨Value.slice none 0 0, Value.slice none 0 0, z, (se_ dr z z), (Or.inl ⟨z, z⟩), (Or.inl ⟨z, z⟩)⟩
 ·refine WC.condF' z an (sq (rg (wY (Y.eql_i z z) z ?_)))
  obtain ⟨eR, ds, h⟩ := lt1 h
  refine WL.yE (ya z) (congrArg vB ds.symm) z (nl (th ?_))
  rcases cnd h with ⟨au, h⟩ | ⟨au, h⟩
  ·refine WC.condT' z au (sq (rg (wY (yf fo37_8 z) z (wY (yl ty25 z z (p.cell 8 _ z)) z (wY (yf fo102_1 z) z ?_)))))
   have av := ac.st d z
   refine wY (yl ty25 z z (av.cell 1 _ z)) z ?_
   obtain ⟨C, dt, h⟩ := bnd h
   refine WL.call (vals := [vu a0.Re, vu a1.re]) kok89 z z (c_num_Sub dt) ?_
   rintro eH du ⟨rfl, dw⟩
   obtain ⟨a4, ef, eg, n⟩ := adoptE aa (fun k => 1) dw
   refine wY (ya z) z (nl (th (sq (sq (rg (wY (yf fo37_4 z) z ?_))))))
   have aw := p.st n z
   refine wY (yl ty4 z z (aw.cell 4 _ z)) z (wY (ym z) z ?_)
   obtain ⟨eh, h, dx⟩ := bnd h
   refine WL.cut 6 (σ := (Bool × Own)) (fun x w' => x.1 = eh ∧ Stp [] a4 du x.2 w') (fun x => [(2, pt aC 0), (3, pt aD 0), (4, pt W 0), (7, vu C), (57, vB x.1)]) ?_ ?_
   ·rcases cnd h with ⟨ax, h⟩ | ⟨ax, h⟩
    ·refine WL.ren 51 z (congrArg vB ax) (ug z z (wY (yf fo37_8 z) z (ug z z (wY (yl ty25 z z (aw.cell 8 _ z)) z (ug z z (wY (yf fo102_1 z) z (ug z z ?_)))))))
     have dy := av.st n z
     refine wY (yl ty25 z z (dy.cell 1 _ z)) z (ug z z ?_)
     obtain ⟨ei, dz, h⟩ := bnd h
     refine WL.call (vals := [vu a0.Re, vu a1.re]) kok41 z z (c_num_Less dz) ?_
     rintro eI eJ ⟨rfl, dA⟩
     obtain ⟨dB, dX, dY, a5⟩ := adoptE a4 (fun k => 1) dA
     refine wY (Y.pick (b := true) z z) z ?_
     exact nl (At.join (σ := (Bool × Own)) (ei, dB) ⟨some1 h, (su_ a5 z)⟩ (.cons z (.cons z (.cons z (.cons z (.cons z .nil))))))
    ·refine WL.ren 51 z (congrArg vB ax) (WL.gS z z z z (WL.gS z z z z (WL.gS z z z z (WL.gS z z z z (WL.gS z z z z (wY (Y.pick (b := false) z z) z ?_))))))
     exact nl (At.join (σ := (Bool × Own)) (false, a4) ⟨some1 h, (sr_ _ _ _)⟩ (.cons z (.cons z (.cons z (.cons z (.cons z .nil))))))
   ·rintro ⟨ej, c3⟩ eK ⟨rfl, o⟩
    replace h := dx
    try dsimp only at h o
    refine (show WL _ _ _ _ _ [(2, pt aC 0), (3, pt aD 0), (4, pt W 0), (7, vu C), (57, vB ej)] _ from ?_)
    refine nl (th ?_)
    rcases cnd h with ⟨ad, h⟩ | ⟨ad, h⟩
    ·refine WC.condT' z ad (sq (rg (wY (yb (vals := []) (cells := [vi 0, vu 0, vu 0, vi 0, vu 0, vi 0, Value.slice none 0 0, vi 0, Value.slice none 0 0]) (fe_ z) (by kernel_rfl)) z ?_)))
     have bn := t.st n z
     have bo := bn.st o z
     refine WL.store (v := ag [vi 0, vu 0, vu 0, vi 0, vu 0, vi 0, Value.slice none 0 0, vi 0, Value.slice none 0 0]) (cells' := [vi 0, vu 0, vu 0, vi 0, vu 0, vi 0, Value.slice none 0 0, vi 0, Value.slice none 0 0]) ty102 z z bo z (le_ z) z z ?_
     intro bp a6 bq
     refine wY (ya z) z (nl (th (rt (At.thenR (At.inBlockR (At.thenR ?_))))))
     obtain ⟨rfl, rfl⟩ := tup2 h
     have br : Stp [13] (Lg.O0 A) w c3 bp := (tr_ (su_ l z) (tr_ (su_ j z) (tr_ (su_ d z) (tr_ (su_ n z) (tr_ (su_ o z) (su_ a6 z))))))
     exact At.res (.inl z) z (.cell z (bq.runAg 0 [vi 0, vu 0, vu 0, vi 0, vu 0, vi 0, Value.slice none 0 0, vi 0, Value.slice none 0 0] ty102 z z z) (.tmp z .nil)) ⟨Value.slice none 0 0, Value.slice none 0 0, z, (se_ br z z), (Or.inl ⟨z, z⟩), (Or.inl ⟨z, z⟩)⟩
    ·refine WC.condF' z ad (sk (th (sq (sq (rg (wY (ym z) z (WL.buildSlice (O := c3) (R := Rep.u) (vals := [(0, vu C)]) 14 [vu C] (xs := [C]) (by decide) ty26 ty25 (by decide) (by decide) (fe_ z) (by kernel_rfl) z ⟨[vu C], [], z, z, z⟩ z ?_)))))))
     intro dC dD ek D bs
     obtain ⟨eL, bt, h⟩ := bnd h
     refine WL.call (vals := [dC]) kok90 z z (c_todelta_finite (A := fun _ => True) (bs.src.sl) bt) ?_
     rintro em bu ⟨rfl, bw⟩
     obtain ⟨ay, dZ, d0, E⟩ := adoptE dD (fun k => 1) bw
     refine wY (Y.not z) z (wY (ym z) z ?_)
     obtain ⟨dE, h, bx⟩ := bnd h
     refine WL.cut 7 (σ := (Bool × Own)) (fun x w' => x.1 = dE ∧ Stp [] ay bu x.2 w') (fun x => [(4, pt W 0), (7, vu C), (70, vB x.1)]) ?_ ?_
     ·rcases cnd h with ⟨ae, h⟩ | ⟨ae, h⟩
      ·refine WL.ren 63 z (congrArg vB ae) (ug z z (wY (yf fo37_8 z) z (ug z z ?_)))
       have bz := aw.st o z
       have bA := bz.st D z
       have bB := bA.st E z
       refine wY (yl ty25 z z (bB.cell 8 _ z)) z (ug z z (wY (yf fo102_1 z) z (ug z z ?_)))
       have bC := av.st n z
       have bD := bC.st o z
       have bE := bD.st D z
       have bF := bE.st E z
       refine wY (yl ty25 z z (bF.cell 1 _ z)) z (ug z z (WL.buildSlice (O := ay) (R := Rep.u) (vals := [(0, vu a0.Re), (1, vu a1.re)]) 15 [vu a0.Re, vu a1.re] (xs := [a0.Re, a1.re]) (by decide) ty26 ty25 (by decide) (by decide) (fe_ z) (by kernel_rfl) z ⟨[vu a0.Re], [vu a1.re], z, z, ⟨[vu a1.re], [], z, z, z⟩⟩ z ?_))
       intro dF dG en a7 bG
       refine ug z z ?_
       obtain ⟨dH, bH, h⟩ := bnd h
       refine WL.call (vals := [dF]) kok90 z z (c_todelta_finite (A := fun _ => True) (bG.src.sl) bH) ?_
       rintro eo ep ⟨rfl, bI⟩
       obtain ⟨dI, d1, d2, a8⟩ := adoptE dG (fun k => 1) bI
       refine wY (Y.pick (b := true) z z) z ?_
       exact nl (At.join (σ := (Bool × Own)) (dH, dI) ⟨some1 h, (tr_ (su_ a7 z) (su_ a8 z))⟩ (.cons z (.cons z (.cons z .nil))))
      ·refine WL.ren 63 z (congrArg vB ae) (WL.gS z z z z (WL.gS z z z z (WL.gS z z z z (WL.gS z z z z (WL.gS z z z z (WL.gS z z z z (wY (Y.pick (b := false) z z) z ?_)))))))
       exact nl (At.join (σ := (Bool × Own)) (false, ay) ⟨some1 h, (sr_ _ _ _)⟩ (.cons z (.cons z (.cons z .nil))))
     ·rintro ⟨dJ, a9⟩ es ⟨rfl, T⟩
      replace h := bx
      try dsimp only at h T
      refine (show WL _ _ _ _ _ [(4, pt W 0), (7, vu C), (70, vB dJ)] _ from ?_)
      refine nl (th ?_)
      rcases cnd h with ⟨af, h⟩ | ⟨af, h⟩
      ·refine WC.condT' z af (sq (rg (wY (yb (vals := []) (cells := [vi 0, vu 0, vu 0, vi 0, vu 0, vi 0, Value.slice none 0 0, vi 0, Value.slice none 0 0]) (fe_ z) (by kernel_rfl)) z ?_)))
       have bJ := t.st n z
       have bK := bJ.st o z
       have bL := bK.st D z
       have bM := bL.st E z
       have bO := bM.st T z
       refine WL.store (v := ag [vi 0, vu 0, vu 0, vi 0, vu 0, vi 0, Value.slice none 0 0, vi 0, Value.slice none 0 0]) (cells' := [vi 0, vu 0, vu 0, vi 0, vu 0, vi 0, Value.slice none 0 0, vi 0, Value.slice none 0 0]) ty102 z z bO z (le_ z) z z ?_
       intro bP ba bQ
       refine wY (ya z) z (nl (th (rt (At.thenR (At.inBlockR (At.thenR ?_))))))
       obtain ⟨rfl, rfl⟩ := tup2 h
       have bR : Stp [13] (Lg.O0 A) w a9 bP := (tr_ (su_ l z) (tr_ (su_ j z) (tr_ (su_ d z) (tr_ (su_ n z) (tr_ (su_ o z) (tr_ (su_ D z) (tr_ (su_ E z) (tr_ (su_ T z) (su_ ba z)))))))))
       exact At.res (.inl z) z (.cell z (bQ.runAg 0 [vi 0, vu 0, vu 0, vi 0, vu 0, vi 0, Value.slice none 0 0, vi 0, Value.slice none 0 0] ty102 z z z) (.tmp z .nil)) ⟨Value.slice none 0 0, Value.slice none 0 0, z, (se_ bR z z), (Or.inl ⟨z, z⟩), (Or.inl ⟨z, z⟩)⟩
      ·refine WC.condF' z af (sk (th (sq (rg (wY (ym z) z (wY (yb (vals := [(1, vu C)]) (cells := [vi 0, vu C, vu 0, vi 0, vu 0, vi 0, Value.slice none 0 0, vi 0, Value.slice none 0 0]) (fe_ z) (by kernel_rfl)) z ?_))))))
       have bS := t.st n z
       have bT := bS.st o z
       have bU := bT.st D z
       have bW := bU.st E z
       have bX := bW.st T z
       refine WL.store (v := ag [vi 0, vu C, vu 0, vi 0, vu 0, vi 0, Value.slice none 0 0, vi 0, Value.slice none 0 0]) (cells' := [vi 0, vu C, vu 0, vi 0, vu 0, vi 0, Value.slice none 0 0, vi 0, Value.slice none 0 0]) ty102 z z bX z (le_ z) z z ?_
       intro bY bb bZ
       refine wY (ya z) z (nl (th (rt (At.inBlockR (At.thenR ?_)))))
       obtain ⟨rfl, rfl⟩ := tup2 h
       have b0 : Stp [13] (Lg.O0 A) w a9 bY := (tr_ (su_ l z) (tr_ (su_ j z) (tr_ (su_ d z) (tr_ (su_ n z) (tr_ (su_ o z) (tr_ (su_ D z) (tr_ (su_ E z) (tr_ (su_ T z) (su_ bb z)))))))))
       exact At.res (.inl z) z (.cell z (bZ.runAg 0 [vi 0, vu C, vu 0, vi 0, vu 0, vi 0, Value.slice none 0 0, vi 0, Value.slice none 0 0] ty102 z z z) (.tmp z .nil)) ⟨Value.slice none 0 0, Value.slice none 0 0, z, (se_ b0 z z), (Or.inl ⟨z, z⟩), (Or.inl ⟨z, z⟩)⟩
  ·refine WC.condF' z au (sq (rg (wY (Y.eql_i z z) z ?_)))
   obtain ⟨eM, b1, h⟩ := lt1 h
   refine WL.yE (ya z) (congrArg vB b1.symm) z (nl (th ?_))
   rcases cnd h with ⟨ah, h⟩ | ⟨ah, h⟩
   ·refine WC.condT' z ah (sq (rg (wY (yf fo37_8 z) z (wY (yl ty25 z z (p.cell 8 _ z)) z (wY (yf fo37_9 z) z (wY (yl ty25 z z (p.cell 9 _ z)) z (wY (yf fo102_1 z) z ?_)))))))
    have ai := ac.st d z
    refine wY (yl ty25 z z (ai.cell 1 _ z)) z (wY (yf fo102_2 z) z (wY (yl ty25 z z (ai.cell 2 _ z)) z ?_))
    obtain ⟨⟨q, m⟩, b2, h⟩ := bnd h
    refine WL.call (vals := [vu a0.Re, vu a0.Im, vu a1.re, vu a1.im]) kok91 z z (c_num_SubPhasor b2) ?_
    rintro et eu ⟨rfl, b3⟩
    obtain ⟨dK, d3, d4, F⟩ := adoptE aa (fun k => 1) b3
    refine wY (ym z) z (wY (yx z z) z (wY (yx z z) z (wY (ya z) z (wY (ya z) z (nl (th (sq (sq (rg ?_)))))))))
    refine wY (ym z) z (wY (ym z) z (WL.buildSlice (O := dK) (R := Rep.u) (vals := [(0, vu q), (1, vu m)]) 16 [vu q, vu m] (xs := [q, m]) (by decide) ty26 ty25 (by decide) (by decide) (fe_ z) (by kernel_rfl) z ⟨[vu q], [vu m], z, z, ⟨[vu m], [], z, z, z⟩⟩ z ?_))
    intro dL dM ew G b4
    obtain ⟨eN, b5, h⟩ := bnd h
    refine WL.call (vals := [dL]) kok90 z z (c_todelta_finite (A := fun _ => True) (b4.src.sl) b5) ?_
    rintro ex b6 ⟨rfl, b7⟩
    obtain ⟨az, d5, d6, H⟩ := adoptE dM (fun k => 1) b7
    refine wY (Y.not z) z (wY (ym z) z ?_)
    obtain ⟨dN, h, b8⟩ := bnd h
    refine WL.cut 11 (σ := (Bool × Own)) (fun x w' => x.1 = dN ∧ Stp [] az b6 x.2 w') (fun x => [(4, pt W 0), (8, vu q), (9, vu m), (104, vB x.1)]) ?_ ?_
    ·rcases cnd h with ⟨aj, h⟩ | ⟨aj, h⟩
     ·refine WL.ren 93 z (congrArg vB aj) (ug z z (wY (yf fo37_8 z) z (ug z z ?_)))
      have b9 := p.st F z
      have ca := b9.st G z
      have aE := ca.st H z
      refine wY (yl ty25 z z (aE.cell 8 _ z)) z (ug z z (wY (yf fo37_9 z) z (ug z z (wY (yl ty25 z z (aE.cell 9 _ z)) z (ug z z (wY (yf fo102_1 z) z (ug z z ?_)))))))
      have cb := ai.st F z
      have cc := cb.st G z
      have aF := cc.st H z
      refine wY (yl ty25 z z (aF.cell 1 _ z)) z (ug z z (wY (yf fo102_2 z) z (ug z z (wY (yl ty25 z z (aF.cell 2 _ z)) z (ug z z (WL.buildSlice (O := az) (R := Rep.u) (vals := [(0, vu a0.Re), (1, vu a0.Im), (2, vu a1.re), (3, vu a1.im)]) 17 [vu a0.Re, vu a0.Im, vu a1.re, vu a1.im] (xs := [a0.Re, a0.Im, a1.re, a1.im]) (by decide) ty26 ty25 (by decide) (by decide) (fe_ z) (by kernel_rfl) z ⟨[vu a0.Re], [vu a0.Im, vu a1.re, vu a1.im], z, z, ⟨[vu a0.Im], [vu a1.re, vu a1.im], z, z, ⟨[vu a1.re], [vu a1.im], z, z, ⟨[vu a1.im], [], z, z, z⟩⟩⟩⟩ z ?_))))))
      intro dO dP ey bc cd
      refine ug z z ?_
      obtain ⟨dQ, ce, h⟩ := bnd h
      refine WL.call (vals := [dO]) kok90 z z (c_todelta_finite (A := fun _ => True) (cd.src.sl) ce) ?_
      rintro ez eA ⟨rfl, cf⟩
      obtain ⟨dR, d7, d8, bd⟩ := adoptE dP (fun k => 1) cf
      refine wY (Y.pick (b := true) z z) z ?_
      exact nl (At.join (σ := (Bool × Own)) (dQ, dR) ⟨some1 h, (tr_ (su_ bc z) (su_ bd z))⟩ (.cons z (.cons z (.cons z (.cons z .nil)))))
     ·refine WL.ren 93 z (congrArg vB aj) (WL.gS z z z z (WL.gS z z z z (WL.gS z z z z (WL.gS z z z z (WL.gS z z z z (WL.gS z z z z (WL.gS z z z z (WL.gS z z z z (WL.gS z z z z ?_)))))))))
      refine WL.gS z z z z (wY (Y.pick (b := false) z z) z ?_)
      exact nl (At.join (σ := (Bool × Own)) (false, az) ⟨some1 h, (sr_ _ _ _)⟩ (.cons z (.cons z (.cons z (.cons z .nil)))))
    ·rintro ⟨dS, bf⟩ eB ⟨rfl, U⟩
     replace h := b8
     try dsimp only at h U
     refine (show WL _ _ _ _ _ [(4, pt W 0), (8, vu q), (9, vu m), (104, vB dS)] _ from ?_)
     refine nl (th ?_)
     rcases cnd h with ⟨ak, h⟩ | ⟨ak, h⟩
     ·refine WC.condT' z ak (sq (rg (wY (yb (vals := []) (cells := [vi 0, vu 0, vu 0, vi 0, vu 0, vi 0, Value.slice none 0 0, vi 0, Value.slice none 0 0]) (fe_ z) (by kernel_rfl)) z ?_)))
      have cg := t.st F z
      have ch := cg.st G z
      have ci := ch.st H z
      have cj := ci.st U z
      refine WL.store (v := ag [vi 0, vu 0, vu 0, vi 0, vu 0, vi 0, Value.slice none 0 0, vi 0, Value.slice none 0 0]) (cells' := [vi 0, vu 0, vu 0, vi 0, vu 0, vi 0, Value.slice none 0 0, vi 0, Value.slice none 0 0]) ty102 z z cj z (le_ z) z z ?_
      intro ck bg cl
      refine wY (ya z) z (nl (th (rt (At.thenR (At.inBlockR (At.thenR ?_))))))
      obtain ⟨rfl, rfl⟩ := tup2 h
      have cm : Stp [13] (Lg.O0 A) w bf ck := (tr_ (su_ l z) (tr_ (su_ j z) (tr_ (su_ d z) (tr_ (su_ F z) (tr_ (su_ G z) (tr_ (su_ H z) (tr_ (su_ U z) (su_ bg z))))))))
      exact At.res (.inl z) z (.cell z (cl.runAg 0 [vi 0, vu 0, vu 0, vi 0, vu 0, vi 0, Value.slice none 0 0, vi 0, Value.slice none 0 0] ty102 z z z) (.tmp z .nil)) ⟨Value.slice none 0 0, Value.slice none 0 0, z, (se_ cm z z), (Or.inl ⟨z, z⟩), (Or.inl ⟨z, z⟩)⟩
     ·refine WC.condF' z ak (sk (th (sq (rg (wY (ym z) z (wY (ym z) z (wY (yb (vals := [(1, vu q), (2, vu m)]) (cells := [vi 0, vu q, vu m, vi 0, vu 0, vi 0, Value.slice none 0 0, vi 0, Value.slice none 0 0]) (fe_ z) (by kernel_rfl)) z ?_)))))))
      have cn := t.st F z
      have co := cn.st G z
      have cp := co.st H z
      have cq := cp.st U z
      refine WL.store (v := ag [vi 0, vu q, vu m, vi 0, vu 0, vi 0, Value.slice none 0 0, vi 0, Value.slice none 0 0]) (cells' := [vi 0, vu q, vu m, vi 0, vu 0, vi 0, Value.slice none 0 0, vi 0, Value.slice none 0 0]) ty102 z z cq z (le_ z) z z ?_
      intro cr bh cs
      refine wY (ya z) z (nl (th (rt (At.inBlockR (At.thenR ?_)))))
      obtain ⟨rfl, rfl⟩ := tup2 h
      have ct : Stp [13] (Lg.O0 A) w bf cr := (tr_ (su_ l z) (tr_ (su_ j z) (tr_ (su_ d z) (tr_ (su_ F z) (tr_ (su_ G z) (tr_ (su_ H z) (tr_ (su_ U z) (su_ bh z))))))))
      exact At.res (.inl z) z (.cell z (cs.runAg 0 [vi 0, vu q, vu m, vi 0, vu 0, vi 0, Value.slice none 0 0, vi 0, Value.slice none 0 0] ty102 z z z) (.tmp z .nil)) ⟨Value.slice none 0 0, Value.slice none 0 0, z, (se_ ct z z), (Or.inl ⟨z, z⟩), (Or.inl ⟨z, z⟩)⟩
   ·refine WC.condF' z ah (sk (At.inBlock (th (sq (rg (wY (yf fo37_10 z) z (wY (yL ty30 z z (p.cells 10 [vi a0.Hist.Scale, vu a0.Hist.Zero, vi a0.Hist.Pos.Offset, (Value.slice aN aO aP), vi a0.Hist.Neg.Offset, (Value.slice aQ aR aS)] z) z) z (wY (yf fo102_3 z) z ?_))))))))
    have cu := ac.st d z
    refine wY (yL ty30 z z (cu.cells 3 [vi a1.h.Scale, vu a1.h.Zero, vi a1.h.Pos.Offset, (Value.slice aU aW aX), vi a1.h.Neg.Offset, (Value.slice aZ a2 a3)] z) z) z ?_
    have cv := aL.i l z z
    have cw := cv.i j z z
    have cx := cw.i d z z
    have cy := aM.i l z z
    have cz := cy.i j z z
    have cA := cz.i d z z
    have cC := aT.i j z z
    have cD := cC.i d z z
    have cE := aY.i j z z
    have cF := cE.i d z z
    obtain ⟨⟨c, eO⟩, cG, h⟩ := bnd h
    refine WL.call (vals := [ag [vi a0.Hist.Scale, vu a0.Hist.Zero, vi a0.Hist.Pos.Offset, (Value.slice aN aO aP), vi a0.Hist.Neg.Offset, (Value.slice aQ aR aS)], ag [vi a1.h.Scale, vu a1.h.Zero, vi a1.h.Pos.Offset, (Value.slice aU aW aX), vi a1.h.Neg.Offset, (Value.slice aZ a2 a3)]]) kok92 z z (c_fold_Sub (A := fun _ => True) (a0 := a0.Hist) (a1 := a1.h) (Sl.all cx) (Sl.all cA) (Sl.all cD) (Sl.all cF) cG) ?_
    rintro eC aG ⟨dT, dU, rfl, cH, dV, dW⟩
    obtain ⟨aA, d9, ab, V⟩ := adoptE aa (fun k => 1) cH
    have cI : Sl Rep.u aG (frs aA) dT c.Pos.Counts := Sl.adoptF dV (fun k hk => ⟨hk, z⟩) ab
    have cJ : Sl Rep.u aG (frs aA) dU c.Neg.Counts := Sl.adoptF dW (fun k hk => ⟨hk, z⟩) ab
    refine wY (ym z) z (wY (yx z z) z (wY (yx z z) z (WL.alloc (O := aA) 18 [vi 0, vu 0, vi 0, Value.slice none 0 0, vi 0, Value.slice none 0 0] ty30 z z ?_)))
    intro eP bi eD I cK
    have aH := cI.f I z
    have cL := h
    obtain ⟨K, L, M, rfl⟩ := aH.shape
    have h := cL
    have aI := cJ.f I z
    have cM := h
    obtain ⟨P, Q, S, rfl⟩ := aI.shape
    have h := cM
    refine WL.store (v := ag [vi c.Scale, vu c.Zero, vi c.Pos.Offset, (Value.slice K L M), vi c.Neg.Offset, (Value.slice P Q S)]) (cells' := [vi c.Scale, vu c.Zero, vi c.Pos.Offset, (Value.slice K L M), vi c.Neg.Offset, (Value.slice P Q S)]) ty30 z z cK z (le_ z) z z ?_
    intro eE J cN
    refine wY (ya z) z (nl (th (sq (sq (rg (wY (ym z) z (wY (Y.neq_i z z) z (nl (th ?_)))))))))
    rcases cnd h with ⟨al, h⟩ | ⟨al, h⟩
    ·refine WC.condT' z al (sq (rg (wY (yb (vals := []) (cells := [vi 0, vu 0, vu 0, vi 0, vu 0, vi 0, Value.slice none 0 0, vi 0, Value.slice none 0 0]) (fe_ z) (by kernel_rfl)) z ?_)))
     have cO := t.st V z
     have cP := cO.st I z
     have cQ := cP.st J z
     refine WL.store (v := ag [vi 0, vu 0, vu 0, vi 0, vu 0, vi 0, Value.slice none 0 0, vi 0, Value.slice none 0 0]) (cells' := [vi 0, vu 0, vu 0, vi 0, vu 0, vi 0, Value.slice none 0 0, vi 0, Value.slice none 0 0]) ty102 z z cQ z (le_ z) z z ?_
     intro cR bj cS
     refine wY (ya z) z (nl (th (rt (At.thenR ?_))))
     obtain ⟨rfl, rfl⟩ := tup2 h
     have cT : Stp [13, 18] (Lg.O0 A) w bi cR := (tr_ (su_ l z) (tr_ (su_ j z) (tr_ (su_ d z) (tr_ (su_ V z) (tr_ (su_ I z) (tr_ (su_ J z) (su_ bj z)))))))
     exact At.res (.inl z) z (.cell z (cS.runAg 0 [vi 0, vu 0, vu 0, vi 0, vu 0, vi 0, Value.slice none 0 0, vi 0, Value.slice none 0 0] ty102 z z z) (.tmp z .nil)) ⟨Value.slice none 0 0, Value.slice none 0 0, z, (se_ cT z z), (Or.inl ⟨z, z⟩), (Or.inl ⟨z, z⟩)⟩
    ·refine WC.condF' z al (sk (th (sq (rg (wY (yL ty30 z z (cN.cells 0 [vi c.Scale, vu c.Zero, vi c.Pos.Offset, (Value.slice K L M), vi c.Neg.Offset, (Value.slice P Q S)] z) z) z (wY (yb (vals := [(3, ag [vi c.Scale, vu c.Zero, vi c.Pos.Offset, (Value.slice K L M), vi c.Neg.Offset, (Value.slice P Q S)])]) (cells := [vi 0, vu 0, vu 0, vi c.Scale, vu c.Zero, vi c.Pos.Offset, (Value.slice K L M), vi c.Neg.Offset, (Value.slice P Q S)]) (fe_ z) (by kernel_rfl)) z ?_))))))
     have cU := t.st V z
     have cV := cU.st I z
     have cW := cV.st J z
     refine WL.store (v := ag [vi 0, vu 0, vu 0, vi c.Scale, vu c.Zero, vi c.Pos.Offset, (Value.slice K L M), vi c.Neg.Offset, (Value.slice P Q S)]) (cells' := [vi 0, vu 0, vu 0, vi c.Scale, vu c.Zero, vi c.Pos.Offset, (Value.slice K L M), vi c.Neg.Offset, (Value.slice P Q S)]) ty102 z z cW z (le_ z) z z ?_
     intro cX Z cY
     refine wY (ya z) z (nl (th (rt ?_)))
     obtain ⟨rfl, rfl⟩ := tup2 h
     have am : Stp [13, 18] (Lg.O0 A) w bi cX := (tr_ (su_ l z) (tr_ (su_ j z) (tr_ (su_ d z) (tr_ (su_ V z) (tr_ (su_ I z) (tr_ (su_ J z) (su_ Z z)))))))
     have cZ := aH.f J z
     have c0 := cZ.f Z z
     have c1 := aI.f J z
     have c2 := c1.f Z z
     exact At.res (.inl z) z (.cell z (cY.runAg 0 [vi 0, vu 0, vu 0, vi c.Scale, vu c.Zero, vi c.Pos.Offset, (Value.slice K L M), vi c.Neg.Offset, (Value.slice P Q S)] ty102 z z z) (.tmp z .nil)) ⟨(Value.slice K L M), (Value.slice P Q S), z, (se_ am z z), (Sl.outF c0 am low0), (Sl.outF c2 am low0)⟩
theorem c_todelta_Next {A : Nat → Prop} {v0_9 : Value} {v0_11 : Value} {a0 : api_State} {v1_1 : Value} {v1_13 : Value} {v1_15 : Value} {a1 : api_Point} {a2 : Int} {w : World} (hs0_9 : Sl Rep.u w A v0_9 a0.Hist.Pos.Counts) (hs0_11 : Sl Rep.u w A v0_11 a0.Hist.Neg.Counts) (hs1_1 : Sl rep_api_Pair w A v1_1 a1.Attrs) (hs1_13 : Sl Rep.u w A v1_13 a1.Hist.Pos.Counts) (hs1_15 : Sl Rep.u w A v1_15 a1.Hist.Neg.Counts) {r0 : api_State} {r1 : api_Point} {r2 : Int} (h : todelta_Next a0 a1 a2 = some (r0, r1, r2)) : Rets Try.prog 33 [ag [vB a0.Some, vi a0.Start, vi a0.Time, vi a0.Int_, vu a0.Re, vu a0.Im, vi a0.Hist.Scale, vu a0.Hist.Zero, vi a0.Hist.Pos.Offset, v0_9, vi a0.Hist.Neg.Offset, v0_11], ag [vs a1.Name, v1_1, vi a1.Kind, vi a1.Temp, vB a1.Mono, vi a1.Start, vi a1.Time, vi a1.Int_, vu a1.Re, vu a1.Im, vi a1.Hist.Scale, vu a1.Hist.Zero, vi a1.Hist.Pos.Offset, v1_13, vi a1.Hist.Neg.Offset, v1_15, vi a1.Flags], vi a2] w (fun v w' => ∃ (d3 : Value) (dk : Value) (d4 : Value) (dl : Value) (dm : Value), v = Value.tuple (List.toArray [ag [vB r0.Some, vi r0.Start, vi r0.Time, vi r0.Int_, vu r0.Re, vu r0.Im, vi r0.Hist.Scale, vu r0.Hist.Zero, vi r0.Hist.Pos.Offset, d3, vi r0.Hist.Neg.Offset, dk], ag [vs r1.Name, d4, vi r1.Kind, vi r1.Temp, vB r1.Mono, vi r1.Start, vi r1.Time, vi r1.Int_, vu r1.Re, vu r1.Im, vi r1.Hist.Scale, vu r1.Hist.Zero, vi r1.Hist.Pos.Offset, dl, vi r1.Hist.Neg.Offset, dm, vi r1.Flags], vi r2]) ∧ Ext w w' ∧ Sl Rep.u w' (fun k => w.heap.size ≤ k) d3 r0.Hist.Pos.Counts ∧ Sl Rep.u w' (fun k => w.heap.size ≤ k) dk r0.Hist.Neg.Counts ∧ Sl rep_api_Pair w' (fun k => w.heap.size ≤ k) d4 r1.Attrs ∧ Sl Rep.u w' (fun k => w.heap.size ≤ k) dl r1.Hist.Pos.Counts ∧ Sl Rep.u w' (fun k => w.heap.size ≤ k) dm r1.Hist.Neg.Counts) := by
 unfold todelta_Next at h
 refine Rets.enter Try.func33 z z ?_
 have cI : Sl Rep.u w (imm (Lg.O0 A)) v0_9 a0.Hist.Pos.Counts := (Sl.start hs0_9)
 have cJ : Sl Rep.u w (imm (Lg.O0 A)) v0_11 a0.Hist.Neg.Counts := (Sl.start hs0_11)
 have ph : Sl rep_api_Pair w (imm (Lg.O0 A)) v1_1 a1.Attrs := (Sl.start hs1_1)
 have pi : Sl Rep.u w (imm (Lg.O0 A)) v1_13 a1.Hist.Pos.Counts := (Sl.start hs1_13)
 have pj : Sl Rep.u w (imm (Lg.O0 A)) v1_15 a1.Hist.Neg.Counts := (Sl.start hs1_15)
 refine (show WC _ _ _ _ [(0, ag [vB a0.Some, vi a0.Start, vi a0.Time, vi a0.Int_, vu a0.Re, vu a0.Im, vi a0.Hist.Scale, vu a0.Hist.Zero, vi a0.Hist.Pos.Offset, v0_9, vi a0.Hist.Neg.Offset, v0_11]), (1, ag [vs a1.Name, v1_1, vi a1.Kind, vi a1.Temp, vB a1.Mono, vi a1.Start, vi a1.Time, vi a1.Int_, vu a1.Re, vu a1.Im, vi a1.Hist.Scale, vu a1.Hist.Zero, vi a1.Hist.Pos.Offset, v1_13, vi a1.Hist.Neg.Offset, v1_15, vi a1.Flags]), (2, vi a2)] _ from ?_)
 refine sq (rg ?_)
 have pk := h
 obtain ⟨aT, aU, aW, rfl⟩ := cI.shape
 have h := pk
 have pl := h
 obtain ⟨aX, aY, aZ, rfl⟩ := cJ.shape
 have h := pl
 refine WL.box (O := (Lg.O0 A)) 11 [vB a0.Some, vi a0.Start, vi a0.Time, vi a0.Int_, vu a0.Re, vu a0.Im, vi a0.Hist.Scale, vu a0.Hist.Zero, vi a0.Hist.Pos.Offset, (Value.slice aT aU aW), vi a0.Hist.Neg.Offset, (Value.slice aX aY aZ)] z z z ?_
 intro b0 qG rK av d5
 have d6 := ph.i av z z
 have pm := h
 obtain ⟨aC, aD, aE, rfl⟩ := d6.shape
 have h := pm
 have d7 := pi.i av z z
 have pn := h
 obtain ⟨bf, bg, bh, rfl⟩ := d7.shape
 have h := pn
 have d8 := pj.i av z z
 have po := h
 obtain ⟨bi, bj, bk, rfl⟩ := d8.shape
 have h := po
 refine WL.box (O := qG) 12 [vs a1.Name, (Value.slice aC aD aE), vi a1.Kind, vi a1.Temp, vB a1.Mono, vi a1.Start, vi a1.Time, vi a1.Int_, vu a1.Re, vu a1.Im, vi a1.Hist.Scale, vu a1.Hist.Zero, vi a1.Hist.Pos.Offset, (Value.slice bf bg bh), vi a1.Hist.Neg.Offset, (Value.slice bi bj bk), vi a1.Flags] z z z ?_
 intro bR qH rL af pp
 refine WL.alloc (O := qH) 13 [vB false, vi 0, vi 0, vi 0, vu 0, vu 0, vi 0, vu 0, vi 0, Value.slice none 0 0, vi 0, Value.slice none 0 0] ty32 z z ?_
 intro bw qI rM Z cK
 refine WL.alloc (O := qI) 14 [vs [], Value.slice none 0 0, vi 0, vi 0, vB false, vi 0, vi 0, vi 0, vu 0, vu 0, vi 0, vu 0, vi 0, Value.slice none 0 0, vi 0, Value.slice none 0 0, vi 0] ty37 z z ?_
 intro bx qJ rN W cL
 refine wY (ya z) z (nl (th (sq (rg ?_))))
 have pq := pp.st Z z
 have cM := pq.st W z
 refine wY (yL ty37 z z (cM.cells 0 [vs a1.Name, (Value.slice aC aD aE), vi a1.Kind, vi a1.Temp, vB a1.Mono, vi a1.Start, vi a1.Time, vi a1.Int_, vu a1.Re, vu a1.Im, vi a1.Hist.Scale, vu a1.Hist.Zero, vi a1.Hist.Pos.Offset, (Value.slice bf bg bh), vi a1.Hist.Neg.Offset, (Value.slice bi bj bk), vi a1.Flags] z) z) z ?_
 have pr := d6.i af z z
 have ps := pr.i Z z z
 have cN := ps.i W z z
 have pu := d7.i af z z
 have pw := pu.i Z z z
 have bs := pw.i W z z
 have px := d8.i af z z
 have py := px.i Z z z
 have bt := py.i W z z
 obtain ⟨pf, pz, h⟩ := bnd h
 refine WL.call (vals := [ag [vs a1.Name, (Value.slice aC aD aE), vi a1.Kind, vi a1.Temp, vB a1.Mono, vi a1.Start, vi a1.Time, vi a1.Int_, vu a1.Re, vu a1.Im, vi a1.Hist.Scale, vu a1.Hist.Zero, vi a1.Hist.Pos.Offset, (Value.slice bf bg bh), vi a1.Hist.Neg.Offset, (Value.slice bi bj bk), vi a1.Flags]]) kok14 z z (c_point_Check (A := fun _ => True) (a0 := a1) (Sl.all cN) (Sl.all bs) (Sl.all bt) pz) ?_
 rintro rO pA ⟨rfl, pB⟩
 obtain ⟨b1, qK, qL, D⟩ := adoptE qJ (fun k => 1) pB
 refine wY (ya z) z (nl (th (sq ?_)))
 obtain ⟨qM, h, pC⟩ := bnd h
 refine WC.join (σ := (Int × UInt64 × Int × List UInt64 × Int × List UInt64 × Int × Own × Value × Value)) (fun x w' => (x.1, x.2.1, x.2.2.1, x.2.2.2.1, x.2.2.2.2.1, x.2.2.2.2.2.1, x.2.2.2.2.2.2.1) = qM ∧ Stp [12] b1 pA x.2.2.2.2.2.2.2.1 w' ∧ Sl Rep.u w' (imm x.2.2.2.2.2.2.2.1) x.2.2.2.2.2.2.2.2.1 x.2.2.2.1 ∧ Sl Rep.u w' (imm x.2.2.2.2.2.2.2.1) x.2.2.2.2.2.2.2.2.2 x.2.2.2.2.2.1 ∧ Blk 12 x.2.2.2.2.2.2.2.1 w' bR 37 [vs a1.Name, (Value.slice aC aD aE), vi a1.Kind, vi a1.Temp, vB a1.Mono, vi a1.Start, vi a1.Time, vi a1.Int_, vu a1.Re, vu a1.Im, vi x.1, vu x.2.1, vi x.2.2.1, x.2.2.2.2.2.2.2.2.1, vi x.2.2.2.2.1, x.2.2.2.2.2.2.2.2.2, vi a1.Flags]) (fun x => [(3, pt b0 0), (4, pt bR 0), (6, pt bw 0), (7, pt bx 0), (9, vi x.2.2.2.2.2.2.1)]) ?_ ?_
 ·refine WC.block (sq (rg (wY (ym z) z (wY (Y.neq_i z z) z ?_))))
  obtain ⟨sf, pD, h⟩ := lt1 h
  refine WL.yE (ya z) (congrArg vB pD.symm) z (nl (th ?_))
  rcases cnd h with ⟨cO, h⟩ | ⟨cO, h⟩
  ·refine WC.condT' z cO (sk (At.inBlock ?_))
   have pE := bs.i D z z
   have pF := bt.i D z z
   have ga := cM.st D z
   exact At.join (σ := (Int × UInt64 × Int × List UInt64 × Int × List UInt64 × Int × Own × Value × Value)) (a1.Hist.Scale, a1.Hist.Zero, a1.Hist.Pos.Offset, a1.Hist.Pos.Counts, a1.Hist.Neg.Offset, a1.Hist.Neg.Counts, pf, b1, (Value.slice bf bg bh), (Value.slice bi bj bk)) ⟨some1 h, (sr_ _ _ _), pE, pF, ga⟩ (.cons z (.cons z (.cons z (.cons z (.cons z .nil)))))
  ·refine WC.condF' z cO (sq (rg (wY (yf fo37_3 z) z ?_)))
   have az := cM.st D z
   refine wY (yl ty3 z z (az.cell 3 _ z)) z (wY (Y.neq_i z z) z ?_)
   obtain ⟨rP, gb, h⟩ := lt1 h
   refine WL.yE (ya z) (congrArg vB gb.symm) z (nl (th ?_))
   rcases cnd h with ⟨b6, h⟩ | ⟨b6, h⟩
   ·refine WC.condT' z b6 (rg (wY (ya z) z (nl (At.inBlock ?_))))
    have gc := bs.i D z z
    have gd := bt.i D z z
    exact At.join (σ := (Int × UInt64 × Int × List UInt64 × Int × List UInt64 × Int × Own × Value × Value)) (a1.Hist.Scale, a1.Hist.Zero, a1.Hist.Pos.Offset, a1.Hist.Pos.Counts, a1.Hist.Neg.Offset, a1.Hist.Neg.Counts, 14, b1, (Value.slice bf bg bh), (Value.slice bi bj bk)) ⟨some1 h, (sr_ _ _ _), gc, gd, az⟩ (.cons z (.cons z (.cons z (.cons z (.cons z .nil)))))
   ·refine WC.condF' z b6 (sq (rg (wY (yf fo37_11 z) z (wY (yl ty3 z z (az.cell 16 _ z)) z (wY (Y.neq_i z z) z ?_)))))
    obtain ⟨rQ, ge, h⟩ := lt1 h
    refine WL.yE (ya z) (congrArg vB ge.symm) z (nl (th ?_))
    rcases cnd h with ⟨b7, h⟩ | ⟨b7, h⟩
    ·refine WC.condT' z b7 (rg (wY (ya z) z (nl (At.inBlock ?_))))
     have gf := bs.i D z z
     have gg := bt.i D z z
     exact At.join (σ := (Int × UInt64 × Int × List UInt64 × Int × List UInt64 × Int × Own × Value × Value)) (a1.Hist.Scale, a1.Hist.Zero, a1.Hist.Pos.Offset, a1.Hist.Pos.Counts, a1.Hist.Neg.Offset, a1.Hist.Neg.Counts, 3, b1, (Value.slice bf bg bh), (Value.slice bi bj bk)) ⟨some1 h, (sr_ _ _ _), gf, gg, az⟩ (.cons z (.cons z (.cons z (.cons z (.cons z .nil)))))
    ·refine WC.condF' z b7 (sq (rg (wY (yf fo37_2 z) z (wY (yl ty3 z z (az.cell 2 _ z)) z (wY (Y.eql_i z z) z ?_)))))
     obtain ⟨rR, gh, h⟩ := lt1 h
     refine WL.yE (ya z) (congrArg vB gh.symm) z (nl (th ?_))
     rcases cnd h with ⟨b8, h⟩ | ⟨b8, h⟩
     ·refine WC.condT' z b8 (rg (wY (yf fo37_10 z) z (wY (yL ty30 z z (az.cells 10 [vi a1.Hist.Scale, vu a1.Hist.Zero, vi a1.Hist.Pos.Offset, (Value.slice bf bg bh), vi a1.Hist.Neg.Offset, (Value.slice bi bj bk)] z) z) z (wY (ym z) z ?_))))
      have gi := bs.i D z z
      have gj := bt.i D z z
      obtain ⟨⟨aa, pG⟩, gk, h⟩ := bnd h
      refine WL.call (vals := [ag [vi a1.Hist.Scale, vu a1.Hist.Zero, vi a1.Hist.Pos.Offset, (Value.slice bf bg bh), vi a1.Hist.Neg.Offset, (Value.slice bi bj bk)], vi a2]) kok43 z z (c_hist_Fit (A := fun _ => True) (a0 := a1.Hist) (Sl.all gi) (Sl.all gj) gk) ?_
      rintro qR dn ⟨pH, pI, rfl, gl, pJ, pK⟩
      obtain ⟨cP, qw, b2, cz⟩ := adoptE b1 (fun k => 1) gl
      have dp : Sl Rep.u dn (frs cP) pH aa.Pos.Counts := Sl.adoptF pJ (fun k hk => ⟨hk, z⟩) b2
      have dr : Sl Rep.u dn (frs cP) pI aa.Neg.Counts := Sl.adoptF pK (fun k hk => ⟨hk, z⟩) b2
      refine wY (ym z) z (wY (yx z z) z (wY (yx z z) z (wY (yf fo37_10 z) z ?_)))
      have gm := h
      obtain ⟨cQ, cR, cS, rfl⟩ := dp.shape
      have h := gm
      have gn := h
      obtain ⟨cT, cU, cV, rfl⟩ := dr.shape
      have h := gn
      have gp := az.st cz z
      refine WL.store (v := ag [vi aa.Scale, vu aa.Zero, vi aa.Pos.Offset, (Value.slice cQ cR cS), vi aa.Neg.Offset, (Value.slice cT cU cV)]) (cells' := [vs a1.Name, (Value.slice aC aD aE), vi a1.Kind, vi a1.Temp, vB a1.Mono, vi a1.Start, vi a1.Time, vi a1.Int_, vu a1.Re, vu a1.Im, vi aa.Scale, vu aa.Zero, vi aa.Pos.Offset, (Value.slice cQ cR cS), vi aa.Neg.Offset, (Value.slice cT cU cV), vi a1.Flags]) ty30 z z gp z (le_ z) z z ?_
      intro qS bS gq
      refine wY (ya z) z (nl (At.inBlock ?_))
      have gr := dp.f bS z
      have gs := dr.f bS z
      exact At.join (σ := (Int × UInt64 × Int × List UInt64 × Int × List UInt64 × Int × Own × Value × Value)) (aa.Scale, aa.Zero, aa.Pos.Offset, aa.Pos.Counts, aa.Neg.Offset, aa.Neg.Counts, pG, cP, (Value.slice cQ cR cS), (Value.slice cT cU cV)) ⟨some1 h, (tr_ (su_ cz z) (su_ bS z)), (Sl.mono gr frs_imm), (Sl.mono gs frs_imm), gq⟩ (.cons z (.cons z (.cons z (.cons z (.cons z .nil)))))
     ·refine WC.condF' z b8 (sk (At.inBlock ?_))
      have gt := bs.i D z z
      have gu := bt.i D z z
      exact At.join (σ := (Int × UInt64 × Int × List UInt64 × Int × List UInt64 × Int × Own × Value × Value)) (a1.Hist.Scale, a1.Hist.Zero, a1.Hist.Pos.Offset, a1.Hist.Pos.Counts, a1.Hist.Neg.Offset, a1.Hist.Neg.Counts, pf, b1, (Value.slice bf bg bh), (Value.slice bi bj bk)) ⟨some1 h, (sr_ _ _ _), gt, gu, az⟩ (.cons z (.cons z (.cons z (.cons z (.cons z .nil)))))
 ·rintro ⟨an, ao, ap, bT, aq, bU, pg, d9, aF, aG⟩ pL ⟨rfl, S, cW, cX, cY⟩
  replace h := pC
  try dsimp only at h S cW cX cY
  refine (show At _ _ _ [(3, pt b0 0), (4, pt bR 0), (6, pt bw 0), (7, pt bx 0), (9, vi pg)] _ from ?_)
  refine th (sq ?_)
  obtain ⟨pM, h, gw⟩ := bnd h
  refine WC.join (σ := (Int × Own)) (fun x w' => x.1 = pM ∧ Stp [] d9 pL x.2 w') (fun x => [(3, pt b0 0), (4, pt bR 0), (6, pt bw 0), (7, pt bx 0), (9, vi x.1)]) ?_ ?_
  ·refine sq (rg (wY (ym z) z (wY (Y.eql_i z z) z (nl (th ?_)))))
   rcases cnd h with ⟨b9, h⟩ | ⟨b9, h⟩
   ·refine WC.condT' z b9 (rg ?_)
    have gz := d5.st af z
    have gB := gz.st Z z
    have gC := gB.st W z
    have gE := gC.st D z
    have gG := gE.st S z
    refine wY (yL ty32 z z (gG.cells 0 [vB a0.Some, vi a0.Start, vi a0.Time, vi a0.Int_, vu a0.Re, vu a0.Im, vi a0.Hist.Scale, vu a0.Hist.Zero, vi a0.Hist.Pos.Offset, (Value.slice aT aU aW), vi a0.Hist.Neg.Offset, (Value.slice aX aY aZ)] z) z) z (wY (yL ty37 z z (cY.cells 0 [vs a1.Name, (Value.slice aC aD aE), vi a1.Kind, vi a1.Temp, vB a1.Mono, vi a1.Start, vi a1.Time, vi a1.Int_, vu a1.Re, vu a1.Im, vi an, vu ao, vi ap, aF, vi aq, aG, vi a1.Flags] z) z) z ?_)
    have gH := cI.i av z z
    have gI := gH.i af z z
    have gJ := gI.i Z z z
    have gK := gJ.i W z z
    have gL := gK.i D z z
    have gM := gL.i S z z
    have gO := cJ.i av z z
    have gP := gO.i af z z
    have gQ := gP.i Z z z
    have gR := gQ.i W z z
    have gU := gR.i D z z
    have gV := gU.i S z z
    have gW := cN.i D z z
    have gX := gW.i S z z
    obtain ⟨pN, gY, h⟩ := bnd h
    refine WL.call (vals := [ag [vB a0.Some, vi a0.Start, vi a0.Time, vi a0.Int_, vu a0.Re, vu a0.Im, vi a0.Hist.Scale, vu a0.Hist.Zero, vi a0.Hist.Pos.Offset, (Value.slice aT aU aW), vi a0.Hist.Neg.Offset, (Value.slice aX aY aZ)], ag [vs a1.Name, (Value.slice aC aD aE), vi a1.Kind, vi a1.Temp, vB a1.Mono, vi a1.Start, vi a1.Time, vi a1.Int_, vu a1.Re, vu a1.Im, vi an, vu ao, vi ap, aF, vi aq, aG, vi a1.Flags]]) kok63 z z (c_todelta_check (A := fun _ => True) (a0 := a0) (a1 := (api_Point.mk a1.Name a1.Attrs a1.Kind a1.Temp a1.Mono a1.Start a1.Time a1.Int_ a1.Re a1.Im (api_Hist.mk an ao (api_Side.mk ap bT) (api_Side.mk aq bU)) a1.Flags)) (Sl.all gM) (Sl.all gV) (Sl.all gX) (Sl.all cW) (Sl.all cX) gY) ?_
    rintro qT qU ⟨rfl, gZ⟩
    obtain ⟨pO, qx, qy, ea⟩ := adoptE d9 (fun k => 1) gZ
    refine wY (ya z) z (nl ?_)
    exact At.join (σ := (Int × Own)) (pN, pO) ⟨some1 h, (su_ ea z)⟩ (.cons z (.cons z (.cons z (.cons z (.cons z .nil)))))
   ·refine WC.condF' z b9 (sk ?_)
    exact At.join (σ := (Int × Own)) (pg, d9) ⟨some1 h, (sr_ _ _ _)⟩ (.cons z (.cons z (.cons z (.cons z (.cons z .nil)))))
  ·rintro ⟨pP, eb⟩ qV ⟨rfl, K⟩
   replace h := gw
   try dsimp only at h K
   refine (show At _ _ _ [(3, pt b0 0), (4, pt bR 0), (6, pt bw 0), (7, pt bx 0), (9, vi pP)] _ from ?_)
   refine th (sq (sq (rg (wY (ym z) z (wY (Y.neq_i z z) z (nl (th ?_)))))))
   rcases cnd h with ⟨ca, h⟩ | ⟨ca, h⟩
   ·refine WC.condT' z ca (sq (rg (wY (yb (vals := []) (cells := [vB false, vi 0, vi 0, vi 0, vu 0, vu 0, vi 0, vu 0, vi 0, Value.slice none 0 0, vi 0, Value.slice none 0 0]) (fe_ z) (by kernel_rfl)) z (wY (yb (vals := []) (cells := [vs [], Value.slice none 0 0, vi 0, vi 0, vB false, vi 0, vi 0, vi 0, vu 0, vu 0, vi 0, vu 0, vi 0, Value.slice none 0 0, vi 0, Value.slice none 0 0, vi 0]) (fe_ z) (by kernel_rfl)) z (wY (ym z) z ?_)))))
    have g0 := cK.st W z
    have g1 := g0.st D z
    have g2 := g1.st S z
    have g3 := g2.st K z
    refine WL.store (v := ag [vB false, vi 0, vi 0, vi 0, vu 0, vu 0, vi 0, vu 0, vi 0, Value.slice none 0 0, vi 0, Value.slice none 0 0]) (cells' := [vB false, vi 0, vi 0, vi 0, vu 0, vu 0, vi 0, vu 0, vi 0, Value.slice none 0 0, vi 0, Value.slice none 0 0]) ty32 z z g3 z (le_ z) z z ?_
    intro qW cA g4
    have g5 := cL.st D z
    have g6 := g5.st S z
    have g7 := g6.st K z
    have g8 := g7.st cA z
    refine WL.store (v := Value.agg (List.toArray [vs [], Value.slice none 0 0, vi 0, vi 0, vB false, vi 0, vi 0, vi 0, vu 0, vu 0, vi 0, vu 0, vi 0, Value.slice none 0 0, vi 0, Value.slice none 0 0, vi 0])) (cells' := [vs [], Value.slice none 0 0, vi 0, vi 0, vB false, vi 0, vi 0, vi 0, vu 0, vu 0, vi 0, vu 0, vi 0, Value.slice none 0 0, vi 0, Value.slice none 0 0, vi 0]) ty37 z z g8 z (le_ z) z z ?_
    intro g9 cC ha
    refine wY (ya z) z (nl (th (rt (At.thenR ?_))))
    obtain ⟨rfl, rfl, rfl⟩ := tup3 h
    have hc : Stp [12, 13, 14] (Lg.O0 A) w eb g9 := (tr_ (su_ av z) (tr_ (su_ af z) (tr_ (su_ Z z) (tr_ (su_ W z) (tr_ (su_ D z) (tr_ (su_ S z) (tr_ (su_ K z) (tr_ (su_ cA z) (su_ cC z)))))))))
    have hd := g4.st cC z
    exact At.res (.inl z) z (.cell z (hd.runAg 0 [vB false, vi 0, vi 0, vi 0, vu 0, vu 0, vi 0, vu 0, vi 0, Value.slice none 0 0, vi 0, Value.slice none 0 0] ty32 z z z) (.cell z (ha.runAg 0 [vs [], Value.slice none 0 0, vi 0, vi 0, vB false, vi 0, vi 0, vi 0, vu 0, vu 0, vi 0, vu 0, vi 0, Value.slice none 0 0, vi 0, Value.slice none 0 0, vi 0] ty37 z z z) (.tmp z .nil))) ⟨Value.slice none 0 0, Value.slice none 0 0, Value.slice none 0 0, Value.slice none 0 0, Value.slice none 0 0, z, (se_ hc z z), (Or.inl ⟨z, z⟩), (Or.inl ⟨z, z⟩), (Or.inl ⟨z, z⟩), (Or.inl ⟨z, z⟩), (Or.inl ⟨z, z⟩)⟩
   ·refine WC.condF' z ca (sk (th (sq (rg ?_))))
    have aA := cY.st K z
    refine wY (yL ty37 z z (aA.cells 0 [vs a1.Name, (Value.slice aC aD aE), vi a1.Kind, vi a1.Temp, vB a1.Mono, vi a1.Start, vi a1.Time, vi a1.Int_, vu a1.Re, vu a1.Im, vi an, vu ao, vi ap, aF, vi aq, aG, vi a1.Flags] z) z) z ?_
    have he := cN.i D z z
    have hf := he.i S z z
    have ds := hf.i K z z
    have bz := cW.i K z z
    have bA := cX.i K z z
    obtain ⟨c, hg, h⟩ := bnd h
    refine WL.call (vals := [ag [vs a1.Name, (Value.slice aC aD aE), vi a1.Kind, vi a1.Temp, vB a1.Mono, vi a1.Start, vi a1.Time, vi a1.Int_, vu a1.Re, vu a1.Im, vi an, vu ao, vi ap, aF, vi aq, aG, vi a1.Flags]]) kok64 z z (c_point_Clone (A := fun _ => True) (a0 := (api_Point.mk a1.Name a1.Attrs a1.Kind a1.Temp a1.Mono a1.Start a1.Time a1.Int_ a1.Re a1.Im (api_Hist.mk an ao (api_Side.mk ap bT) (api_Side.mk aq bU)) a1.Flags)) (Sl.all ds) (Sl.all bz) (Sl.all bA) hg) ?_
    rintro qX cb ⟨pQ, pR, pS, rfl, hh, pT, pU, pV⟩
    obtain ⟨cc, qz, bu, F⟩ := adoptE eb (fun k => 1) hh
    have hj : Sl rep_api_Pair cb (frs cc) pQ c.Attrs := Sl.adoptF pT (fun k hk => ⟨hk, z⟩) bu
    have hl : Sl Rep.u cb (frs cc) pR c.Hist.Pos.Counts := Sl.adoptF pU (fun k hk => ⟨hk, z⟩) bu
    have hm : Sl Rep.u cb (frs cc) pS c.Hist.Neg.Counts := Sl.adoptF pV (fun k hk => ⟨hk, z⟩) bu
    refine WL.alloc (O := cc) 15 [vs [], Value.slice none 0 0, vi 0, vi 0, vB false, vi 0, vi 0, vi 0, vu 0, vu 0, vi 0, vu 0, vi 0, Value.slice none 0 0, vi 0, Value.slice none 0 0, vi 0] ty37 z z ?_
    intro bW cd qY C hn
    have ce := hj.f C z
    have ho := h
    obtain ⟨T, U, V, rfl⟩ := ce.shape
    have h := ho
    have cf := hl.f C z
    have hp := h
    obtain ⟨ah, ai, aj, rfl⟩ := cf.shape
    have h := hp
    have cg := hm.f C z
    have hq := h
    obtain ⟨ak, al, am, rfl⟩ := cg.shape
    have h := hq
    refine WL.store (v := ag [vs c.Name, (Value.slice T U V), vi c.Kind, vi c.Temp, vB c.Mono, vi c.Start, vi c.Time, vi c.Int_, vu c.Re, vu c.Im, vi c.Hist.Scale, vu c.Hist.Zero, vi c.Hist.Pos.Offset, (Value.slice ah ai aj), vi c.Hist.Neg.Offset, (Value.slice ak al am), vi c.Flags]) (cells' := [vs c.Name, (Value.slice T U V), vi c.Kind, vi c.Temp, vB c.Mono, vi c.Start, vi c.Time, vi c.Int_, vu c.Re, vu c.Im, vi c.Hist.Scale, vu c.Hist.Zero, vi c.Hist.Pos.Offset, (Value.slice ah ai aj), vi c.Hist.Neg.Offset, (Value.slice ak al am), vi c.Flags]) ty37 z z hn z (le_ z) z z ?_
    intro qZ m ht
    refine nl (th (sq (rg (wY (yf fo37_3 z) z (WL.store (v := vi 2) (cells' := [vs c.Name, (Value.slice T U V), vi c.Kind, vi 2, vB c.Mono, vi c.Start, vi c.Time, vi c.Int_, vu c.Re, vu c.Im, vi c.Hist.Scale, vu c.Hist.Zero, vi c.Hist.Pos.Offset, (Value.slice ah ai aj), vi c.Hist.Neg.Offset, (Value.slice ak al am), vi c.Flags]) ty3 z z ht z (le_ z) z z ?_)))))
    intro q0 n hu
    refine nl (th (sq (WC.drawH [16, 17] [0, 1, 2, 3, 4, 5, 6, 7, 8, 9, 10, 11, 12, 13, 14] cd 16 fmix z (by kernel_rfl) ?_)))
    intro hv j
    refine WD.y 0 z (by kernel_rfl) (fun _ _ _ => yf fo37_5 z) z (WD.y 1 z (by kernel_rfl) (fun q1 rT ec => have hw := aA.st F z; have hx := hw.st C z; have hy := hx.st m z; have hz := hy.st n z; have hA := hz.st j z; have hC := hA.st ec z; yl ty3 z z (hC.cell 5 _ z)) z (WD.y 2 z (by kernel_rfl) (fun _ _ _ => yf fo37_6 z) z (WD.y 3 z (by kernel_rfl) (fun q2 rU ed => have hD := aA.st F z; have hE := hD.st C z; have hF := hE.st m z; have hG := hF.st n z; have hH := hG.st j z; have hI := hH.st ed z; yl ty3 z z (hI.cell 6 _ z)) z (WD.y 4 z (by kernel_rfl) (fun _ _ _ => yf fo37_7 z) z (WD.y 5 z (by kernel_rfl) (fun q3 rV ee => have hJ := aA.st F z; have hK := hJ.st C z; have hL := hK.st m z; have hM := hL.st n z; have hN := hM.st j z; have hO := hN.st ee z; yl ty3 z z (hO.cell 7 _ z)) z (WD.y 6 z (by kernel_rfl) (fun _ _ _ => yf fo37_8 z) z (WD.y 7 z (by kernel_rfl) (fun q4 rW ef => have hP := aA.st F z; have hQ := hP.st C z; have hR := hQ.st m z; have hS := hR.st n z; have hT := hS.st j z; have hU := hT.st ef z; yl ty25 z z (hU.cell 8 _ z)) z (WD.y 8 z (by kernel_rfl) (fun _ _ _ => yf fo37_9 z) z (WD.y 9 z (by kernel_rfl) (fun q5 rX eg => have hV := aA.st F z; have hW := hV.st C z; have hX := hW.st m z; have hY := hX.st n z; have hZ := hY.st j z; have h0 := hZ.st eg z; yl ty25 z z (h0.cell 9 _ z)) z ?_)))))))))
    refine WD.y 10 z (by kernel_rfl) (fun _ _ _ => yf fo37_10 z) z (WD.y 11 z (by kernel_rfl) (fun q6 rY eh => have h1 := aA.st F z; have h2 := h1.st C z; have h3 := h2.st m z; have h4 := h3.st n z; have h5 := h4.st j z; have h6 := h5.st eh z; yL ty30 z z (h6.cells 10 [vi an, vu ao, vi ap, aF, vi aq, aG] z) z) z ?_)
    obtain ⟨pW, h, h7⟩ := bnd h
    refine WD.join (σ := (Int × UInt64 × Int × List UInt64 × Int × List UInt64 × Own × Nat × Value × Value)) (f' := 1) [14, 13, 12, 11, 10, 9, 8, 7, 6, 5, 4, 3, 2, 1, 0] (fun x O' w' => (x.1, x.2.1, x.2.2.1, x.2.2.2.1, x.2.2.2.2.1, x.2.2.2.2.2.1) = pW ∧ Stp [16, 17] cd hv x.2.2.2.2.2.2.1 w' ∧ Blk 1001 x.2.2.2.2.2.2.1 w' x.2.2.2.2.2.2.2.1 32 [vB false, vi 0, vi 0, vi 0, vu 0, vu 0, vi 0, vu 0, vi 0, Value.slice none 0 0, vi 0, Value.slice none 0 0] ∧ Sl Rep.u w' (frs x.2.2.2.2.2.2.1) x.2.2.2.2.2.2.2.2.1 x.2.2.2.1 ∧ Sl Rep.u w' (frs x.2.2.2.2.2.2.1) x.2.2.2.2.2.2.2.2.2 x.2.2.2.2.2.1 ∧ x.2.2.2.2.2.2.1 = O') (fun x => [(3, pt b0 0), (4, pt bR 0), (6, pt bw 0), (7, pt bx 0), (10, pt bW 0), (11, Value.pointer (some ⟨x.2.2.2.2.2.2.2.1, 0, none⟩)), (65, ag [vB true, vi a1.Start, vi a1.Time, vi a1.Int_, vu a1.Re, vu a1.Im, vi x.1, vu x.2.1, vi x.2.2.1, x.2.2.2.2.2.2.2.2.1, vi x.2.2.2.2.1, x.2.2.2.2.2.2.2.2.2])]) (fun dt => ?_) ?_
    ·refine WD.heavy2 12 14 z z (by kernel_rfl) ?_ ?_
     ·have h8 := bz.i F z z
      have h9 := h8.i C z z
      have ia := h9.i m z z
      have ib := ia.i n z z
      have ic := ib.i j z z
      have ie := bA.i F z z
      have ig := ie.i C z z
      have ih := ig.i m z z
      have ii := ih.i n z z
      have ij := ii.i j z z
      obtain ⟨ab, ik, h⟩ := bnd h
      refine WL.call (vals := [ag [vi an, vu ao, vi ap, aF, vi aq, aG]]) kok46 z z (c_hist_Clone (A := fun _ => True) (a0 := (api_Hist.mk an ao (api_Side.mk ap bT) (api_Side.mk aq bU))) (Sl.all ic) (Sl.all ij) ik) ?_
      rintro q7 du ⟨pX, pY, rfl, il, pZ, p0⟩
      obtain ⟨cZ, qA, b3, cD⟩ := adoptE cd (fun k => 1) il
      have dw : Sl Rep.u du (frs cZ) pX ab.Pos.Counts := Sl.adoptF pZ (fun k hk => ⟨hk, z⟩) b3
      have dx : Sl Rep.u du (frs cZ) pY ab.Neg.Counts := Sl.adoptF p0 (fun k hk => ⟨hk, z⟩) b3
      refine nl (At.dq (su_ cD z) ?_)
      have io := h
      obtain ⟨c0, c1, c2, rfl⟩ := dw.shape
      have h := io
      have ip := h
      obtain ⟨c3, c4, c5, rfl⟩ := dx.shape
      have h := ip
      refine WD.y 13 z (by kernel_rfl) (fun _ _ _ => yb (vals := [(0, vB true), (1, vi a1.Start), (2, vi a1.Time), (3, vi a1.Int_), (4, vu a1.Re), (5, vu a1.Im), (6, ag [vi ab.Scale, vu ab.Zero, vi ab.Pos.Offset, (Value.slice c0 c1 c2), vi ab.Neg.Offset, (Value.slice c3 c4 c5)])]) (cells := [vB true, vi a1.Start, vi a1.Time, vi a1.Int_, vu a1.Re, vu a1.Im, vi ab.Scale, vu ab.Zero, vi ab.Pos.Offset, (Value.slice c0 c1 c2), vi ab.Neg.Offset, (Value.slice c3 c4 c5)]) (fe_ z) (by kernel_rfl)) z (WD.heavy 14 z (by kernel_rfl) (WL.alloc (O := cZ) 16 [vB false, vi 0, vi 0, vi 0, vu 0, vu 0, vi 0, vu 0, vi 0, Value.slice none 0 0, vi 0, Value.slice none 0 0] ty32 z z ?_))
      intro p1 rZ q8 bl iq
      refine nl (At.dq (su_ bl z) ?_)
      obtain ⟨p3, bm, ir⟩ := Blk.rlb 1001 rfl iq
      have it := dw.f bl z
      have iu := it.f bm z
      have iv := dx.f bl z
      have iw := iv.f bm z
      refine WD.own (su_ bm z) (WD.perm _ [14, 13, 12, 11, 10, 9, 8, 7, 6, 5, 4, 3, 2, 1, 0] (by kernel_rfl) ?_)
      exact dt (ab.Scale, ab.Zero, ab.Pos.Offset, ab.Pos.Counts, ab.Neg.Offset, ab.Neg.Counts, p3, p1, (Value.slice c0 c1 c2), (Value.slice c3 c4 c5)) _ _ _ ⟨some1 h, (tr_ (su_ cD z) (tr_ (su_ bl z) (su_ bm z))), ir, iu, iw, z⟩ (.cons z (.cons z (.cons z (.cons z (.cons z (.cons z (.cons z .nil)))))))
     ·try simp only [Option.bind_assoc] at h
      try simp only [Option.bind_some] at h
      refine WL.alloc (O := cd) 17 [vB false, vi 0, vi 0, vi 0, vu 0, vu 0, vi 0, vu 0, vi 0, Value.slice none 0 0, vi 0, Value.slice none 0 0] ty32 z z ?_
      intro p4 p5 q9 bn ix
      refine nl (At.dq (su_ bn z) (WD.heavy 12 z (by kernel_rfl) ?_))
      have iy := bz.i F z z
      have iz := iy.i C z z
      have iA := iz.i m z z
      have iB := iA.i n z z
      have iC := iB.i j z z
      have iD := iC.i bn z z
      have iE := bA.i F z z
      have iF := iE.i C z z
      have iG := iF.i m z z
      have iH := iG.i n z z
      have iI := iH.i j z z
      have iJ := iI.i bn z z
      obtain ⟨ac, iK, h⟩ := bnd h
      refine WL.call (vals := [ag [vi an, vu ao, vi ap, aF, vi aq, aG]]) kok46 z z (c_hist_Clone (A := fun _ => True) (a0 := (api_Hist.mk an ao (api_Side.mk ap bT) (api_Side.mk aq bU))) (Sl.all iD) (Sl.all iJ) iK) ?_
      rintro ra dy ⟨p6, p8, rfl, iL, p9, qa⟩
      obtain ⟨ei, qB, b4, bX⟩ := adoptE p5 (fun k => 1) iL
      have dz : Sl Rep.u dy (frs ei) p6 ac.Pos.Counts := Sl.adoptF p9 (fun k hk => ⟨hk, z⟩) b4
      have dA : Sl Rep.u dy (frs ei) p8 ac.Neg.Counts := Sl.adoptF qa (fun k hk => ⟨hk, z⟩) b4
      refine nl (At.dq (su_ bX z) ?_)
      have iM := h
      obtain ⟨c6, c7, c8, rfl⟩ := dz.shape
      have h := iM
      have iN := h
      obtain ⟨c9, da, db, rfl⟩ := dA.shape
      have h := iN
      refine WD.y 13 z (by kernel_rfl) (fun _ _ _ => yb (vals := [(0, vB true), (1, vi a1.Start), (2, vi a1.Time), (3, vi a1.Int_), (4, vu a1.Re), (5, vu a1.Im), (6, ag [vi ac.Scale, vu ac.Zero, vi ac.Pos.Offset, (Value.slice c6 c7 c8), vi ac.Neg.Offset, (Value.slice c9 da db)])]) (cells := [vB true, vi a1.Start, vi a1.Time, vi a1.Int_, vu a1.Re, vu a1.Im, vi ac.Scale, vu ac.Zero, vi ac.Pos.Offset, (Value.slice c6 c7 c8), vi ac.Neg.Offset, (Value.slice c9 da db)]) (fe_ z) (by kernel_rfl)) z ?_
      have iO := ix.st bX z
      obtain ⟨qb, bo, iP⟩ := Blk.rlb 1001 rfl iO
      have iQ := dz.f bo z
      have iR := dA.f bo z
      refine WD.own (su_ bo z) (WD.perm _ [14, 13, 12, 11, 10, 9, 8, 7, 6, 5, 4, 3, 2, 1, 0] (by kernel_rfl) ?_)
      exact dt (ac.Scale, ac.Zero, ac.Pos.Offset, ac.Pos.Counts, ac.Neg.Offset, ac.Neg.Counts, qb, p4, (Value.slice c6 c7 c8), (Value.slice c9 da db)) _ _ _ ⟨some1 h, (tr_ (su_ bn z) (tr_ (su_ bX z) (su_ bo z))), iP, iQ, iR, z⟩ (.cons z (.cons z (.cons z (.cons z (.cons z (.cons z (.cons z .nil)))))))
    ·rintro ⟨aJ, aK, aL, ej, aM, ek, qc, ch, qd, qe⟩ _ rb ⟨rfl, H, dB, bp, bq, rfl⟩
     replace h := h7
     try dsimp only at h H dB bp bq
     refine (show WD _ _ _ _ _ _ _ _ [(3, pt b0 0), (4, pt bR 0), (6, pt bw 0), (7, pt bx 0), (10, pt bW 0), (11, pt ch 0), (65, ag [vB true, vi a1.Start, vi a1.Time, vi a1.Int_, vu a1.Re, vu a1.Im, vi aJ, vu aK, vi aL, qd, vi aM, qe])] _ _ from ?_)
     refine WD.phase [1001] [0, 1, 2, 3, 4, 5, 6, 7, 8, 9, 10, 11, 12, 13, 14, 15] (by kernel_rfl) (by kernel_rfl) (WD.heavy 15 z (by kernel_rfl) ?_)
     have iS := h
     obtain ⟨aN, aO, aP, rfl⟩ := bp.shape
     have h := iS
     have iT := h
     obtain ⟨aQ, aR, aS, rfl⟩ := bq.shape
     have h := iT
     refine WL.store (v := ag [vB true, vi a1.Start, vi a1.Time, vi a1.Int_, vu a1.Re, vu a1.Im, vi aJ, vu aK, vi aL, (Value.slice aN aO aP), vi aM, (Value.slice aQ aR aS)]) (cells' := [vB true, vi a1.Start, vi a1.Time, vi a1.Int_, vu a1.Re, vu a1.Im, vi aJ, vu aK, vi aL, (Value.slice aN aO aP), vi aM, (Value.slice aQ aR aS)]) ty32 z z dB z (le_ z) z z ?_
     intro rc p bB
     refine nl (At.dq (su_ p z) (WD.done_ (by kernel_rfl) (th (sq (sq (rg ?_))))))
     have iU := d5.st af z
     have iV := iU.st Z z
     have iW := iV.st W z
     have iX := iW.st D z
     have iY := iX.st S z
     have iZ := iY.st K z
     have i0 := iZ.st F z
     have i1 := i0.st C z
     have i2 := i1.st m z
     have i3 := i2.st n z
     have i4 := i3.st j z
     have i5 := i4.st H z
     have dC := i5.st p z
     refine wY (yL ty32 z z (dC.cells 0 [vB a0.Some, vi a0.Start, vi a0.Time, vi a0.Int_, vu a0.Re, vu a0.Im, vi a0.Hist.Scale, vu a0.Hist.Zero, vi a0.Hist.Pos.Offset, (Value.slice aT aU aW), vi a0.Hist.Neg.Offset, (Value.slice aX aY aZ)] z) z) z ?_
     have i6 := aA.st F z
     have i7 := i6.st C z
     have i8 := i7.st m z
     have i9 := i8.st n z
     have ja := i9.st j z
     have jb := ja.st H z
     have dD := jb.st p z
     refine wY (yL ty37 z z (dD.cells 0 [vs a1.Name, (Value.slice aC aD aE), vi a1.Kind, vi a1.Temp, vB a1.Mono, vi a1.Start, vi a1.Time, vi a1.Int_, vu a1.Re, vu a1.Im, vi an, vu ao, vi ap, aF, vi aq, aG, vi a1.Flags] z) z) z ?_
     have jc := cI.i av z z
     have jd := jc.i af z z
     have je := jd.i Z z z
     have jf := je.i W z z
     have jg := jf.i D z z
     have jh := jg.i S z z
     have ji := jh.i K z z
     have jj := ji.i F z z
     have jk := jj.i C z z
     have jl := jk.i m z z
     have jm := jl.i n z z
     have jn := jm.i j z z
     have jo := jn.i H z z
     have dE := jo.i p z z
     have jp := cJ.i av z z
     have jq := jp.i af z z
     have jr := jq.i Z z z
     have js := jr.i W z z
     have jt := js.i D z z
     have ju := jt.i S z z
     have jv := ju.i K z z
     have jw := jv.i F z z
     have jx := jw.i C z z
     have jy := jx.i m z z
     have jz := jy.i n z z
     have jA := jz.i j z z
     have jB := jA.i H z z
     have dF := jB.i p z z
     have jC := ds.i F z z
     have jD := jC.i C z z
     have jE := jD.i m z z
     have jF := jE.i n z z
     have jG := jF.i j z z
     have jH := jG.i H z z
     have dG := jH.i p z z
     have jI := bz.i F z z
     have jJ := jI.i C z z
     have jK := jJ.i m z z
     have jL := jK.i n z z
     have jM := jL.i j z z
     have jN := jM.i H z z
     have dH := jN.i p z z
     have jO := bA.i F z z
     have jP := jO.i C z z
     have jQ := jP.i m z z
     have jR := jQ.i n z z
     have jS := jR.i j z z
     have jT := jS.i H z z
     have dI := jT.i p z z
     obtain ⟨a7, jU, h⟩ := bnd h
     refine WL.call (vals := [ag [vB a0.Some, vi a0.Start, vi a0.Time, vi a0.Int_, vu a0.Re, vu a0.Im, vi a0.Hist.Scale, vu a0.Hist.Zero, vi a0.Hist.Pos.Offset, (Value.slice aT aU aW), vi a0.Hist.Neg.Offset, (Value.slice aX aY aZ)], ag [vs a1.Name, (Value.slice aC aD aE), vi a1.Kind, vi a1.Temp, vB a1.Mono, vi a1.Start, vi a1.Time, vi a1.Int_, vu a1.Re, vu a1.Im, vi an, vu ao, vi ap, aF, vi aq, aG, vi a1.Flags]]) kok65 z z (c_todelta_begins (A := fun _ => True) (a0 := a0) (a1 := (api_Point.mk a1.Name a1.Attrs a1.Kind a1.Temp a1.Mono a1.Start a1.Time a1.Int_ a1.Re a1.Im (api_Hist.mk an ao (api_Side.mk ap bT) (api_Side.mk aq bU)) a1.Flags)) (Sl.all dE) (Sl.all dF) (Sl.all dG) (Sl.all dH) (Sl.all dI) jU) ?_
     rintro rd rf ⟨rfl, jV⟩
     obtain ⟨dc, qC, qD, l⟩ := adoptE qc (fun k => 1) jV
     refine wY (yf fo37_11 z) z ?_
     have jW := hu.st j z
     have jX := jW.st H z
     have jY := jX.st p z
     have jZ := jY.st l z
     refine WL.store (v := vi a7) (cells' := [vs c.Name, (Value.slice T U V), vi c.Kind, vi 2, vB c.Mono, vi c.Start, vi c.Time, vi c.Int_, vu c.Re, vu c.Im, vi c.Hist.Scale, vu c.Hist.Zero, vi c.Hist.Pos.Offset, (Value.slice ah ai aj), vi c.Hist.Neg.Offset, (Value.slice ak al am), vi a7]) ty3 z z jZ z (le_ z) z z ?_
     intro rh o ci
     refine nl (th (sq (rg (wY (yf fo37_11 z) z (wY (yl ty3 z z (ci.cell 16 _ z)) z (wY (Y.neq_i z z) z (nl (th ?_))))))))
     rcases cnd h with ⟨cj, h⟩ | ⟨cj, h⟩
     ·refine WC.condT' z cj (sq (WC.drawH [13] [0, 1, 2] dc 5 fmix z (by kernel_rfl) ?_))
      intro ri ae
      refine WD.y 0 z (by kernel_rfl) (fun rj r3 em => have j0 := bB.st l z; have j1 := j0.st o z; have j2 := j1.st ae z; have j3 := j2.st em z; yL ty32 z z (j3.cells 0 [vB true, vi a1.Start, vi a1.Time, vi a1.Int_, vu a1.Re, vu a1.Im, vi aJ, vu aK, vi aL, (Value.slice aN aO aP), vi aM, (Value.slice aQ aR aS)] z) z) z (WD.y 1 z (by kernel_rfl) (fun rk r4 en => have j4 := ci.st ae z; have j5 := j4.st en z; yL ty37 z z (j5.cells 0 [vs c.Name, (Value.slice T U V), vi c.Kind, vi 2, vB c.Mono, vi c.Start, vi c.Time, vi c.Int_, vu c.Re, vu c.Im, vi c.Hist.Scale, vu c.Hist.Zero, vi c.Hist.Pos.Offset, (Value.slice ah ai aj), vi c.Hist.Neg.Offset, (Value.slice ak al am), vi a7] z) z) z (WD.heavy 2 z (by kernel_rfl) ?_))
      have j6 := cK.st W z
      have j7 := j6.st D z
      have j8 := j7.st S z
      have j9 := j8.st K z
      have ka := j9.st F z
      have kb := ka.st C z
      have kc := kb.st m z
      have kd := kc.st n z
      have ke := kd.st j z
      have kf := ke.st H z
      have kg := kf.st p z
      have kh := kg.st l z
      have ki := kh.st o z
      have kj := ki.st ae z
      refine WL.store (v := ag [vB true, vi a1.Start, vi a1.Time, vi a1.Int_, vu a1.Re, vu a1.Im, vi aJ, vu aK, vi aL, (Value.slice aN aO aP), vi aM, (Value.slice aQ aR aS)]) (cells' := [vB true, vi a1.Start, vi a1.Time, vi a1.Int_, vu a1.Re, vu a1.Im, vi aJ, vu aK, vi aL, (Value.slice aN aO aP), vi aM, (Value.slice aQ aR aS)]) ty32 z z kj z (le_ z) z z ?_
      intro rl aw kk
      refine nl (At.dq (su_ aw z) (WD.phase [14] [0, 1, 2, 3, 4] (by kernel_rfl) (by kernel_rfl) (WD.heavy 3 z (by kernel_rfl) ?_)))
      have km := cL.st D z
      have kn := km.st S z
      have ko := kn.st K z
      have kp := ko.st F z
      have kq := kp.st C z
      have kr := kq.st m z
      have ks := kr.st n z
      have kt := ks.st j z
      have ku := kt.st H z
      have kv := ku.st p z
      have kw := kv.st l z
      have kx := kw.st o z
      have ky := kx.st ae z
      have kz := ky.st aw z
      refine WL.store (v := ag [vs c.Name, (Value.slice T U V), vi c.Kind, vi 2, vB c.Mono, vi c.Start, vi c.Time, vi c.Int_, vu c.Re, vu c.Im, vi c.Hist.Scale, vu c.Hist.Zero, vi c.Hist.Pos.Offset, (Value.slice ah ai aj), vi c.Hist.Neg.Offset, (Value.slice ak al am), vi a7]) (cells' := [vs c.Name, (Value.slice T U V), vi c.Kind, vi 2, vB c.Mono, vi c.Start, vi c.Time, vi c.Int_, vu c.Re, vu c.Im, vi c.Hist.Scale, vu c.Hist.Zero, vi c.Hist.Pos.Offset, (Value.slice ah ai aj), vi c.Hist.Neg.Offset, (Value.slice ak al am), vi a7]) ty37 z z kz z (le_ z) z z ?_
      intro kA ax kB
      refine nl (At.dq (su_ ax z) (WD.y 4 z (by kernel_rfl) (fun _ _ _ => ya z) z (WD.done_ (by kernel_rfl) (th (rt (At.thenR ?_))))))
      obtain ⟨rfl, rfl, rfl⟩ := tup3 h
      have a5 : Stp [12, 13, 14, 15, 16, 17, 1001] (Lg.O0 A) w dc kA := (tr_ (su_ av z) (tr_ (su_ af z) (tr_ (su_ Z z) (tr_ (su_ W z) (tr_ (su_ D z) (tr_ (su_ S z) (tr_ (su_ K z) (tr_ (su_ F z) (tr_ (su_ C z) (tr_ (su_ m z) (tr_ (su_ n z) (tr_ (su_ j z) (tr_ (su_ H z) (tr_ (su_ p z) (tr_ (su_ l z) (tr_ (su_ o z) (tr_ (su_ ae z) (tr_ (su_ aw z) (su_ ax z)))))))))))))))))))
      have kC := bp.f p z
      have kD := kC.f l z
      have kE := kD.f o z
      have kF := kE.f ae z
      have kG := kF.f aw z
      have kH := kG.f ax z
      have kI := bq.f p z
      have kJ := kI.f l z
      have kK := kJ.f o z
      have kL := kK.f ae z
      have kM := kL.f aw z
      have kN := kM.f ax z
      have kO := ce.f m z
      have kP := kO.f n z
      have kQ := kP.f j z
      have kR := kQ.f H z
      have kS := kR.f p z
      have kT := kS.f l z
      have kU := kT.f o z
      have kV := kU.f ae z
      have kW := kV.f aw z
      have kX := kW.f ax z
      have kY := cf.f m z
      have kZ := kY.f n z
      have k0 := kZ.f j z
      have k1 := k0.f H z
      have k2 := k1.f p z
      have k3 := k2.f l z
      have k4 := k3.f o z
      have k5 := k4.f ae z
      have k6 := k5.f aw z
      have k7 := k6.f ax z
      have k8 := cg.f m z
      have k9 := k8.f n z
      have la := k9.f j z
      have lb := la.f H z
      have lc := lb.f p z
      have ld := lc.f l z
      have lf := ld.f o z
      have lg := lf.f ae z
      have lh := lg.f aw z
      have li := lh.f ax z
      have lj := kk.st ax z
      exact At.res (.inl z) z (.cell z (lj.runAg 0 [vB true, vi a1.Start, vi a1.Time, vi a1.Int_, vu a1.Re, vu a1.Im, vi aJ, vu aK, vi aL, (Value.slice aN aO aP), vi aM, (Value.slice aQ aR aS)] ty32 z z z) (.cell z (kB.runAg 0 [vs c.Name, (Value.slice T U V), vi c.Kind, vi 2, vB c.Mono, vi c.Start, vi c.Time, vi c.Int_, vu c.Re, vu c.Im, vi c.Hist.Scale, vu c.Hist.Zero, vi c.Hist.Pos.Offset, (Value.slice ah ai aj), vi c.Hist.Neg.Offset, (Value.slice ak al am), vi a7] ty37 z z z) (.tmp z .nil))) ⟨(Value.slice aN aO aP), (Value.slice aQ aR aS), (Value.slice T U V), (Value.slice ah ai aj), (Value.slice ak al am), z, (se_ a5 z z), (Sl.outF kH a5 low0), (Sl.outF kN a5 low0), (Sl.outF kX a5 low0), (Sl.outF k7 a5 low0), (Sl.outF li a5 low0)⟩
     ·refine WC.condF' z cj (sk (th (sq (rg ?_))))
      have ll := dD.st l z
      have dJ := ll.st o z
      refine wY (yL ty37 z z (dJ.cells 0 [vs a1.Name, (Value.slice aC aD aE), vi a1.Kind, vi a1.Temp, vB a1.Mono, vi a1.Start, vi a1.Time, vi a1.Int_, vu a1.Re, vu a1.Im, vi an, vu ao, vi ap, aF, vi aq, aG, vi a1.Flags] z) z) z (wY (yf fo32_3 z) z ?_)
      have lm := dC.st l z
      have br := lm.st o z
      refine wY (yl ty3 z z (br.cell 3 _ z)) z (wY (yf fo32_4 z) z (wY (yl ty25 z z (br.cell 4 _ z)) z (wY (yf fo32_5 z) z (wY (yl ty25 z z (br.cell 5 _ z)) z (wY (yf fo32_6 z) z (wY (yL ty30 z z (br.cells 6 [vi a0.Hist.Scale, vu a0.Hist.Zero, vi a0.Hist.Pos.Offset, (Value.slice aT aU aW), vi a0.Hist.Neg.Offset, (Value.slice aX aY aZ)] z) z) z (wY (yb (vals := [(0, vi a0.Int_), (1, vu a0.Re), (2, vu a0.Im), (3, ag [vi a0.Hist.Scale, vu a0.Hist.Zero, vi a0.Hist.Pos.Offset, (Value.slice aT aU aW), vi a0.Hist.Neg.Offset, (Value.slice aX aY aZ)])]) (cells := [vi a0.Int_, vu a0.Re, vu a0.Im, vi a0.Hist.Scale, vu a0.Hist.Zero, vi a0.Hist.Pos.Offset, (Value.slice aT aU aW), vi a0.Hist.Neg.Offset, (Value.slice aX aY aZ)]) (fe_ z) (by kernel_rfl)) z ?_)))))))
      have ln := dG.i l z z
      have lp := ln.i o z z
      have lq := dH.i l z z
      have dK := lq.i o z z
      have lr := dI.i l z z
      have dL := lr.i o z z
      have ls := dE.i l z z
      have dM := ls.i o z z
      have lu := dF.i l z z
      have dN := lu.i o z z
      obtain ⟨⟨d, ay⟩, lv, h⟩ := bnd h
      refine WL.call (vals := [ag [vs a1.Name, (Value.slice aC aD aE), vi a1.Kind, vi a1.Temp, vB a1.Mono, vi a1.Start, vi a1.Time, vi a1.Int_, vu a1.Re, vu a1.Im, vi an, vu ao, vi ap, aF, vi aq, aG, vi a1.Flags], ag [vi a0.Int_, vu a0.Re, vu a0.Im, vi a0.Hist.Scale, vu a0.Hist.Zero, vi a0.Hist.Pos.Offset, (Value.slice aT aU aW), vi a0.Hist.Neg.Offset, (Value.slice aX aY aZ)]]) kok66 z z (c_todelta_less (A := fun _ => True) (a0 := (api_Point.mk a1.Name a1.Attrs a1.Kind a1.Temp a1.Mono a1.Start a1.Time a1.Int_ a1.Re a1.Im (api_Hist.mk an ao (api_Side.mk ap bT) (api_Side.mk aq bU)) a1.Flags)) (a1 := (todelta_value.mk a0.Int_ a0.Re a0.Im a0.Hist)) (Sl.all lp) (Sl.all dK) (Sl.all dL) (Sl.all dM) (Sl.all dN) lv) ?_
      rintro rm dO ⟨qf, qg, rfl, lw, qh, qi⟩
      obtain ⟨dd, qE, b5, J⟩ := adoptE dc (fun k => 1) lw
      have lx : Sl Rep.u dO (frs dd) qf d.h.Pos.Counts := Sl.adoptF qh (fun k hk => ⟨hk, z⟩) b5
      have ly : Sl Rep.u dO (frs dd) qg d.h.Neg.Counts := Sl.adoptF qi (fun k hk => ⟨hk, z⟩) b5
      refine wY (ym z) z (wY (yx z z) z (wY (yx z z) z (WL.alloc (O := dd) 18 [vi 0, vu 0, vu 0, vi 0, vu 0, vi 0, Value.slice none 0 0, vi 0, Value.slice none 0 0] ty102 z z ?_)))
      intro r5 bY rn G lA
      have ck := lx.f G z
      have lB := h
      obtain ⟨a8, a9, ba, rfl⟩ := ck.shape
      have h := lB
      have cl := ly.f G z
      have lC := h
      obtain ⟨bb, bc, bd, rfl⟩ := cl.shape
      have h := lC
      refine WL.store (v := ag [vi d.i, vu d.re, vu d.im, vi d.h.Scale, vu d.h.Zero, vi d.h.Pos.Offset, (Value.slice a8 a9 ba), vi d.h.Neg.Offset, (Value.slice bb bc bd)]) (cells' := [vi d.i, vu d.re, vu d.im, vi d.h.Scale, vu d.h.Zero, vi d.h.Pos.Offset, (Value.slice a8 a9 ba), vi d.h.Neg.Offset, (Value.slice bb bc bd)]) ty102 z z lA z (le_ z) z z ?_
      intro ro E bC
      refine wY (ya z) z (nl (th (sq (rg (wY (yf fo32_2 z) z ?_)))))
      have lD := br.st J z
      have lE := lD.st G z
      have dP := lE.st E z
      refine wY (yl ty3 z z (dP.cell 2 _ z)) z (wY (ym z) z (wY (yf fo37_5 z) z ?_))
      have lF := ci.st J z
      have lG := lF.st G z
      have lH := lG.st E z
      refine WL.store (v := vi a0.Time) (cells' := [vs c.Name, (Value.slice T U V), vi c.Kind, vi 2, vB c.Mono, vi a0.Time, vi c.Time, vi c.Int_, vu c.Re, vu c.Im, vi c.Hist.Scale, vu c.Hist.Zero, vi c.Hist.Pos.Offset, (Value.slice ah ai aj), vi c.Hist.Neg.Offset, (Value.slice ak al am), vi a7]) ty3 z z lH z (le_ z) z z ?_
      intro rp q lI
      refine wY (yf fo37_11 z) z (WL.store (v := vi ay) (cells' := [vs c.Name, (Value.slice T U V), vi c.Kind, vi 2, vB c.Mono, vi a0.Time, vi c.Time, vi c.Int_, vu c.Re, vu c.Im, vi c.Hist.Scale, vu c.Hist.Zero, vi c.Hist.Pos.Offset, (Value.slice ah ai aj), vi c.Hist.Neg.Offset, (Value.slice ak al am), vi ay]) ty3 z z lI z (le_ z) z z ?_)
      intro lJ t dQ
      refine nl (th (sq ?_))
      obtain ⟨qj, h, lK⟩ := bnd h
      refine WC.join (σ := (Int × UInt64 × UInt64 × Int × UInt64 × Int × List UInt64 × Int × List UInt64 × Int × UInt64 × Int × List UInt64 × Int × List UInt64 × Own × Value × Value × Value × Value)) (fun x w' => (x.1, x.2.1, x.2.2.1, x.2.2.2.1, x.2.2.2.2.1, x.2.2.2.2.2.1, x.2.2.2.2.2.2.1, x.2.2.2.2.2.2.2.1, x.2.2.2.2.2.2.2.2.1, x.2.2.2.2.2.2.2.2.2.1, x.2.2.2.2.2.2.2.2.2.2.1, x.2.2.2.2.2.2.2.2.2.2.2.1, x.2.2.2.2.2.2.2.2.2.2.2.2.1, x.2.2.2.2.2.2.2.2.2.2.2.2.2.1, x.2.2.2.2.2.2.2.2.2.2.2.2.2.2.1) = qj ∧ Stp [15, 1001] bY lJ x.2.2.2.2.2.2.2.2.2.2.2.2.2.2.2.1 w' ∧ Sl Rep.u w' (frs x.2.2.2.2.2.2.2.2.2.2.2.2.2.2.2.1) x.2.2.2.2.2.2.2.2.2.2.2.2.2.2.2.2.1 x.2.2.2.2.2.2.1 ∧ Sl Rep.u w' (frs x.2.2.2.2.2.2.2.2.2.2.2.2.2.2.2.1) x.2.2.2.2.2.2.2.2.2.2.2.2.2.2.2.2.2.1 x.2.2.2.2.2.2.2.2.1 ∧ Blk 15 x.2.2.2.2.2.2.2.2.2.2.2.2.2.2.2.1 w' bW 37 [vs c.Name, (Value.slice T U V), vi c.Kind, vi 2, vB c.Mono, vi a0.Time, vi c.Time, vi x.1, vu x.2.1, vu x.2.2.1, vi x.2.2.2.1, vu x.2.2.2.2.1, vi x.2.2.2.2.2.1, x.2.2.2.2.2.2.2.2.2.2.2.2.2.2.2.2.1, vi x.2.2.2.2.2.2.2.1, x.2.2.2.2.2.2.2.2.2.2.2.2.2.2.2.2.2.1, vi ay] ∧ Sl Rep.u w' (frs x.2.2.2.2.2.2.2.2.2.2.2.2.2.2.2.1) x.2.2.2.2.2.2.2.2.2.2.2.2.2.2.2.2.2.2.1 x.2.2.2.2.2.2.2.2.2.2.2.2.1 ∧ Sl Rep.u w' (frs x.2.2.2.2.2.2.2.2.2.2.2.2.2.2.2.1) x.2.2.2.2.2.2.2.2.2.2.2.2.2.2.2.2.2.2.2 x.2.2.2.2.2.2.2.2.2.2.2.2.2.2.1 ∧ Blk 1001 x.2.2.2.2.2.2.2.2.2.2.2.2.2.2.2.1 w' ch 32 [vB true, vi a1.Start, vi a1.Time, vi a1.Int_, vu a1.Re, vu a1.Im, vi x.2.2.2.2.2.2.2.2.2.1, vu x.2.2.2.2.2.2.2.2.2.2.1, vi x.2.2.2.2.2.2.2.2.2.2.2.1, x.2.2.2.2.2.2.2.2.2.2.2.2.2.2.2.2.2.2.1, vi x.2.2.2.2.2.2.2.2.2.2.2.2.2.1, x.2.2.2.2.2.2.2.2.2.2.2.2.2.2.2.2.2.2.2]) (fun x => [(6, pt bw 0), (7, pt bx 0), (10, pt bW 0), (11, pt ch 0)]) ?_ ?_
      ·refine sq (rg (wY (ym z) z (wY (Y.eql_i z z) z (nl (th ?_)))))
       rcases cnd h with ⟨cm, h⟩ | ⟨cm, h⟩
       ·refine WC.condT' z cm (sq (WC.drawH [15] [0, 1, 2, 3, 4, 5, 6, 7, 8, 9, 10, 11, 12, 13, 14] bY 16 fmix z (by kernel_rfl) ?_))
        intro rq I
        refine WD.y 0 z (by kernel_rfl) (fun _ _ _ => yf fo102_0 z) z (WD.y 1 z (by kernel_rfl) (fun rr r6 eo => have lL := bC.st q z; have lM := lL.st t z; have lN := lM.st I z; have lO := lN.st eo z; yl ty3 z z (lO.cell 0 _ z)) z (WD.y 2 z (by kernel_rfl) (fun _ _ _ => yf fo102_1 z) z (WD.y 3 z (by kernel_rfl) (fun rs r7 ep => have lP := bC.st q z; have lQ := lP.st t z; have lR := lQ.st I z; have lS := lR.st ep z; yl ty25 z z (lS.cell 1 _ z)) z (WD.y 4 z (by kernel_rfl) (fun _ _ _ => yf fo102_2 z) z (WD.y 5 z (by kernel_rfl) (fun ru r8 es => have lT := bC.st q z; have lU := lT.st t z; have lV := lU.st I z; have lW := lV.st es z; yl ty25 z z (lW.cell 2 _ z)) z (WD.y 6 z (by kernel_rfl) (fun _ _ _ => yf fo102_3 z) z (WD.y 7 z (by kernel_rfl) (fun rv r9 et => have lX := bC.st q z; have lY := lX.st t z; have lZ := lY.st I z; have l0 := lZ.st et z; yL ty30 z z (l0.cells 3 [vi d.h.Scale, vu d.h.Zero, vi d.h.Pos.Offset, (Value.slice a8 a9 ba), vi d.h.Neg.Offset, (Value.slice bb bc bd)] z) z) z (WD.y 8 z (by kernel_rfl) (fun _ _ _ => yf fo37_7 z) z (WD.heavy 9 z (by kernel_rfl) ?_)))))))))
        have l1 := dQ.st I z
        refine WL.store (v := vi d.i) (cells' := [vs c.Name, (Value.slice T U V), vi c.Kind, vi 2, vB c.Mono, vi a0.Time, vi c.Time, vi d.i, vu c.Re, vu c.Im, vi c.Hist.Scale, vu c.Hist.Zero, vi c.Hist.Pos.Offset, (Value.slice ah ai aj), vi c.Hist.Neg.Offset, (Value.slice ak al am), vi ay]) ty3 z z l1 z (le_ z) z z ?_
        intro rx L l2
        refine nl (At.dq (su_ L z) (WD.y 10 z (by kernel_rfl) (fun _ _ _ => yf fo37_8 z) z (WD.heavy 11 z (by kernel_rfl) (WL.store (v := vu d.re) (cells' := [vs c.Name, (Value.slice T U V), vi c.Kind, vi 2, vB c.Mono, vi a0.Time, vi c.Time, vi d.i, vu d.re, vu c.Im, vi c.Hist.Scale, vu c.Hist.Zero, vi c.Hist.Pos.Offset, (Value.slice ah ai aj), vi c.Hist.Neg.Offset, (Value.slice ak al am), vi ay]) ty25 z z l2 z (le_ z) z z ?_))))
        intro ry M l3
        refine nl (At.dq (su_ M z) (WD.y 12 z (by kernel_rfl) (fun _ _ _ => yf fo37_9 z) z (WD.heavy 13 z (by kernel_rfl) (WL.store (v := vu d.im) (cells' := [vs c.Name, (Value.slice T U V), vi c.Kind, vi 2, vB c.Mono, vi a0.Time, vi c.Time, vi d.i, vu d.re, vu d.im, vi c.Hist.Scale, vu c.Hist.Zero, vi c.Hist.Pos.Offset, (Value.slice ah ai aj), vi c.Hist.Neg.Offset, (Value.slice ak al am), vi ay]) ty25 z z l3 z (le_ z) z z ?_))))
        intro rz P l4
        refine nl (At.dq (su_ P z) (WD.y 14 z (by kernel_rfl) (fun _ _ _ => yf fo37_10 z) z (WD.phase [15] [0, 1, 2, 3, 4, 5, 6, 7, 8, 9, 10, 11, 12, 13, 14, 15] (by kernel_rfl) (by kernel_rfl) (WD.heavy 15 z (by kernel_rfl) (WL.store (v := ag [vi d.h.Scale, vu d.h.Zero, vi d.h.Pos.Offset, (Value.slice a8 a9 ba), vi d.h.Neg.Offset, (Value.slice bb bc bd)]) (cells' := [vs c.Name, (Value.slice T U V), vi c.Kind, vi 2, vB c.Mono, vi a0.Time, vi c.Time, vi d.i, vu d.re, vu d.im, vi d.h.Scale, vu d.h.Zero, vi d.h.Pos.Offset, (Value.slice a8 a9 ba), vi d.h.Neg.Offset, (Value.slice bb bc bd), vi ay]) ty30 z z l4 z (le_ z) z z ?_)))))
        intro rA Q dR
        refine nl (At.dq (su_ Q z) (WD.done_ (by kernel_rfl) (th (sq (rg (wY (yf fo37_2 z) z ?_))))))
        have l5 := dJ.st J z
        have l6 := l5.st G z
        have l7 := l6.st E z
        have l8 := l7.st q z
        have l9 := l8.st t z
        have ma := l9.st I z
        have mb := ma.st L z
        have mc := mb.st M z
        have md := mc.st P z
        have dS := md.st Q z
        refine wY (yl ty3 z z (dS.cell 2 _ z)) z (wY (Y.eql_i z z) z (nl (th ?_)))
        rcases cnd h with ⟨cn, h⟩ | ⟨cn, h⟩
        ·refine WC.condT' z cn (rg (wY (yf fo37_10 z) z (wY (yL ty30 z z (dS.cells 10 [vi an, vu ao, vi ap, aF, vi aq, aG] z) z) z (wY (yf fo32_6 z) z ?_))))
         have me := dP.st q z
         have mf := me.st t z
         have mg := mf.st I z
         have mh := mg.st L z
         have mi := mh.st M z
         have mj := mi.st P z
         have ml := mj.st Q z
         refine wY (yL ty30 z z (ml.cells 6 [vi a0.Hist.Scale, vu a0.Hist.Zero, vi a0.Hist.Pos.Offset, (Value.slice aT aU aW), vi a0.Hist.Neg.Offset, (Value.slice aX aY aZ)] z) z) z ?_
         have mm := dK.i J z z
         have mn := mm.i G z z
         have mo := mn.i E z z
         have mp := mo.i q z z
         have mq := mp.i t z z
         have mr := mq.i I z z
         have ms := mr.i L z z
         have mt := ms.i M z z
         have mu := mt.i P z z
         have mv := mu.i Q z z
         have mw := dL.i J z z
         have mx := mw.i G z z
         have my := mx.i E z z
         have mz := my.i q z z
         have mA := mz.i t z z
         have mB := mA.i I z z
         have mC := mB.i L z z
         have mD := mC.i M z z
         have mE := mD.i P z z
         have mF := mE.i Q z z
         have mG := dM.i J z z
         have mH := mG.i G z z
         have mI := mH.i E z z
         have mJ := mI.i q z z
         have mK := mJ.i t z z
         have mL := mK.i I z z
         have mM := mL.i L z z
         have mN := mM.i M z z
         have mO := mN.i P z z
         have mP := mO.i Q z z
         have mQ := dN.i J z z
         have mR := mQ.i G z z
         have mS := mR.i E z z
         have mT := mS.i q z z
         have mU := mT.i t z z
         have mV := mU.i I z z
         have mW := mV.i L z z
         have mX := mW.i M z z
         have mY := mX.i P z z
         have mZ := mY.i Q z z
         obtain ⟨⟨ad, eu, sa⟩, m0, h⟩ := bnd h
         refine WL.call (vals := [ag [vi an, vu ao, vi ap, aF, vi aq, aG], ag [vi a0.Hist.Scale, vu a0.Hist.Zero, vi a0.Hist.Pos.Offset, (Value.slice aT aU aW), vi a0.Hist.Neg.Offset, (Value.slice aX aY aZ)]]) kok52 z z (c_fold_Level (A := fun _ => True) (a0 := (api_Hist.mk an ao (api_Side.mk ap bT) (api_Side.mk aq bU))) (a1 := a0.Hist) (Sl.all mv) (Sl.all mF) (Sl.all mP) (Sl.all mZ) m0) ?_
         rintro rD bD ⟨qk, ql, qm, qn, rfl, m1, qo, qp, qq, qr⟩
         obtain ⟨bZ, qF, a6, a3⟩ := adoptE bY (fun k => 1) m1
         have dT : Sl Rep.u bD (frs bZ) qk ad.Pos.Counts := Sl.adoptF qo (fun k hk => ⟨hk, z⟩) a6
         have dU : Sl Rep.u bD (frs bZ) ql ad.Neg.Counts := Sl.adoptF qp (fun k hk => ⟨hk, z⟩) a6
         have rE : Sl Rep.u bD (frs bZ) qm eu.Pos.Counts := Sl.adoptF qq (fun k hk => ⟨hk, z⟩) a6
         have rF : Sl Rep.u bD (frs bZ) qn eu.Neg.Counts := Sl.adoptF qr (fun k hk => ⟨hk, z⟩) a6
         refine wY (ym z) z (wY (yx z z) z (wY (yx z z) z (wY (yx z z) z (wY (yf fo32_6 z) z ?_))))
         have m2 := h
         obtain ⟨de, df, dg, rfl⟩ := dT.shape
         have h := m2
         have m3 := h
         obtain ⟨dh, di, dj, rfl⟩ := dU.shape
         have h := m3
         have m4 := bB.st l z
         have m5 := m4.st o z
         have m6 := m5.st J z
         have m7 := m6.st G z
         have m8 := m7.st E z
         have m9 := m8.st q z
         have na := m9.st t z
         have nb := na.st I z
         have nc := nb.st L z
         have nd := nc.st M z
         have ne := nd.st P z
         have nf := ne.st Q z
         have ng := nf.st a3 z
         refine WL.store (v := ag [vi ad.Scale, vu ad.Zero, vi ad.Pos.Offset, (Value.slice de df dg), vi ad.Neg.Offset, (Value.slice dh di dj)]) (cells' := [vB true, vi a1.Start, vi a1.Time, vi a1.Int_, vu a1.Re, vu a1.Im, vi ad.Scale, vu ad.Zero, vi ad.Pos.Offset, (Value.slice de df dg), vi ad.Neg.Offset, (Value.slice dh di dj)]) ty30 z z ng z (le_ z) z z ?_
         intro rG aH nh
         refine nl ?_
         have ni := ck.f E z
         have nj := ni.f q z
         have nk := nj.f t z
         have nm := nk.f I z
         have nn := nm.f L z
         have np := nn.f M z
         have nq := np.f P z
         have nr := nq.f Q z
         have ns := nr.f a3 z
         have nt := ns.f aH z
         have nu := cl.f E z
         have nv := nu.f q z
         have nw := nv.f t z
         have nx := nw.f I z
         have ny := nx.f L z
         have nA := ny.f M z
         have nB := nA.f P z
         have nC := nB.f Q z
         have nD := nC.f a3 z
         have nF := nD.f aH z
         have nG := dR.st a3 z
         have nH := nG.st aH z
         have nI := dT.f aH z
         have nJ := dU.f aH z
         exact At.join (σ := (Int × UInt64 × UInt64 × Int × UInt64 × Int × List UInt64 × Int × List UInt64 × Int × UInt64 × Int × List UInt64 × Int × List UInt64 × Own × Value × Value × Value × Value)) (d.i, d.re, d.im, d.h.Scale, d.h.Zero, d.h.Pos.Offset, d.h.Pos.Counts, d.h.Neg.Offset, d.h.Neg.Counts, ad.Scale, ad.Zero, ad.Pos.Offset, ad.Pos.Counts, ad.Neg.Offset, ad.Neg.Counts, bZ, (Value.slice a8 a9 ba), (Value.slice bb bc bd), (Value.slice de df dg), (Value.slice dh di dj)) ⟨some1 h, (tr_ (su_ I z) (tr_ (su_ L z) (tr_ (su_ M z) (tr_ (su_ P z) (tr_ (su_ Q z) (tr_ (su_ a3 z) (su_ aH z))))))), nt, nF, nH, nI, nJ, nh⟩ (.cons z (.cons z (.cons z (.cons z .nil))))
        ·refine WC.condF' z cn (sk ?_)
         have nK := ck.f E z
         have nL := nK.f q z
         have nN := nL.f t z
         have nO := nN.f I z
         have nP := nO.f L z
         have nQ := nP.f M z
         have nR := nQ.f P z
         have nS := nR.f Q z
         have nT := cl.f E z
         have nU := nT.f q z
         have nV := nU.f t z
         have nW := nV.f I z
         have nX := nW.f L z
         have nY := nX.f M z
         have nZ := nY.f P z
         have n0 := nZ.f Q z
         have n3 := bp.f p z
         have n4 := n3.f l z
         have n5 := n4.f o z
         have n6 := n5.f J z
         have n7 := n6.f G z
         have n9 := n7.f E z
         have oa := n9.f q z
         have oc := oa.f t z
         have od := oc.f I z
         have oe := od.f L z
         have og := oe.f M z
         have oh := og.f P z
         have oi := oh.f Q z
         have oj := bq.f p z
         have ol := oj.f l z
         have om := ol.f o z
         have oo := om.f J z
         have op := oo.f G z
         have oq := op.f E z
         have os := oq.f q z
         have ot := os.f t z
         have ou := ot.f I z
         have ov := ou.f L z
         have ow := ov.f M z
         have ox := ow.f P z
         have oy := ox.f Q z
         have oz := bB.st l z
         have oA := oz.st o z
         have oB := oA.st J z
         have oC := oB.st G z
         have oD := oC.st E z
         have oE := oD.st q z
         have oF := oE.st t z
         have oG := oF.st I z
         have oH := oG.st L z
         have oI := oH.st M z
         have oJ := oI.st P z
         have oK := oJ.st Q z
         exact At.join (σ := (Int × UInt64 × UInt64 × Int × UInt64 × Int × List UInt64 × Int × List UInt64 × Int × UInt64 × Int × List UInt64 × Int × List UInt64 × Own × Value × Value × Value × Value)) (d.i, d.re, d.im, d.h.Scale, d.h.Zero, d.h.Pos.Offset, d.h.Pos.Counts, d.h.Neg.Offset, d.h.Neg.Counts, aJ, aK, aL, ej, aM, ek, bY, (Value.slice a8 a9 ba), (Value.slice bb bc bd), (Value.slice aN aO aP), (Value.slice aQ aR aS)) ⟨some1 h, (tr_ (su_ I z) (tr_ (su_ L z) (tr_ (su_ M z) (tr_ (su_ P z) (su_ Q z))))), nS, n0, dR, oi, oy, oK⟩ (.cons z (.cons z (.cons z (.cons z .nil))))
       ·refine WC.condF' z cm (sk ?_)
        have oL := cf.f m z
        have oM := oL.f n z
        have oN := oM.f j z
        have oO := oN.f H z
        have oP := oO.f p z
        have oQ := oP.f l z
        have oR := oQ.f o z
        have oS := oR.f J z
        have oT := oS.f G z
        have oU := oT.f E z
        have oV := oU.f q z
        have oW := oV.f t z
        have oX := cg.f m z
        have oY := oX.f n z
        have oZ := oY.f j z
        have o0 := oZ.f H z
        have o1 := o0.f p z
        have o2 := o1.f l z
        have o3 := o2.f o z
        have o4 := o3.f J z
        have o5 := o4.f G z
        have o6 := o5.f E z
        have o7 := o6.f q z
        have o8 := o7.f t z
        have o9 := bp.f p z
        have pa := o9.f l z
        have pb := pa.f o z
        have pc := pb.f J z
        have pd := pc.f G z
        have pe := pd.f E z
        have ew := pe.f q z
        have ex := ew.f t z
        have ey := bq.f p z
        have ez := ey.f l z
        have eA := ez.f o z
        have eB := eA.f J z
        have eC := eB.f G z
        have eD := eC.f E z
        have eE := eD.f q z
        have eF := eE.f t z
        have eG := bB.st l z
        have eH := eG.st o z
        have eI := eH.st J z
        have eJ := eI.st G z
        have eK := eJ.st E z
        have eL := eK.st q z
        have eM := eL.st t z
        exact At.join (σ := (Int × UInt64 × UInt64 × Int × UInt64 × Int × List UInt64 × Int × List UInt64 × Int × UInt64 × Int × List UInt64 × Int × List UInt64 × Own × Value × Value × Value × Value)) (c.Int_, c.Re, c.Im, c.Hist.Scale, c.Hist.Zero, c.Hist.Pos.Offset, c.Hist.Pos.Counts, c.Hist.Neg.Offset, c.Hist.Neg.Counts, aJ, aK, aL, ej, aM, ek, bY, (Value.slice ah ai aj), (Value.slice ak al am), (Value.slice aN aO aP), (Value.slice aQ aR aS)) ⟨some1 h, (sr_ _ _ _), oW, o8, dQ, ex, eF, eM⟩ (.cons z (.cons z (.cons z (.cons z .nil))))
      ·rintro ⟨co, cp, cq, cr, cs, ct, sb, cu, sc, cv, cw, cx, sd, cy, se, eN, qs, qt, qu, qv⟩ rH ⟨rfl, a4, dV, dW, dX, dY, dZ, d0⟩
       replace h := lK
       try dsimp only at h a4 dV dW dX dY dZ d0
       refine (show At _ _ _ [(6, pt bw 0), (7, pt bx 0), (10, pt bW 0), (11, pt ch 0)] _ from ?_)
       refine th (sq (WC.drawH [13] [0, 1, 2] eN 5 fmix z (by kernel_rfl) ?_))
       intro qN X
       refine WD.y 0 z (by kernel_rfl) (fun qO rI d1 => have eO := d0.st X z; have eP := eO.st d1 z; yL ty32 z z (eP.cells 0 [vB true, vi a1.Start, vi a1.Time, vi a1.Int_, vu a1.Re, vu a1.Im, vi cv, vu cw, vi cx, qu, vi cy, qv] z) z) z (WD.y 1 z (by kernel_rfl) (fun qP rJ d2 => have eQ := dX.st X z; have eR := eQ.st d2 z; yL ty37 z z (eR.cells 0 [vs c.Name, (Value.slice T U V), vi c.Kind, vi 2, vB c.Mono, vi a0.Time, vi c.Time, vi co, vu cp, vu cq, vi cr, vu cs, vi ct, qs, vi cu, qt, vi ay] z) z) z (WD.heavy 2 z (by kernel_rfl) ?_))
       have cE := dY.f X z
       have eS := h
       obtain ⟨bE, bF, bG, rfl⟩ := cE.shape
       have h := eS
       have cF := dZ.f X z
       have eT := h
       obtain ⟨bH, bI, bJ, rfl⟩ := cF.shape
       have h := eT
       have eU := cK.st W z
       have eV := eU.st D z
       have eW := eV.st S z
       have eX := eW.st K z
       have eY := eX.st F z
       have eZ := eY.st C z
       have e0 := eZ.st m z
       have e1 := e0.st n z
       have e2 := e1.st j z
       have e5 := e2.st H z
       have e6 := e5.st p z
       have e7 := e6.st l z
       have e8 := e7.st o z
       have e9 := e8.st J z
       have fa := e9.st G z
       have fb := fa.st E z
       have fc := fb.st q z
       have fd := fc.st t z
       have fe := fd.st a4 z
       have ff := fe.st X z
       refine WL.store (v := ag [vB true, vi a1.Start, vi a1.Time, vi a1.Int_, vu a1.Re, vu a1.Im, vi cv, vu cw, vi cx, (Value.slice bE bF bG), vi cy, (Value.slice bH bI bJ)]) (cells' := [vB true, vi a1.Start, vi a1.Time, vi a1.Int_, vu a1.Re, vu a1.Im, vi cv, vu cw, vi cx, (Value.slice bE bF bG), vi cy, (Value.slice bH bI bJ)]) ty32 z z ff z (le_ z) z z ?_
       intro qQ ar fg
       refine nl (At.dq (su_ ar z) (WD.phase [14] [0, 1, 2, 3, 4] (by kernel_rfl) (by kernel_rfl) (WD.heavy 3 z (by kernel_rfl) ?_)))
       have fh := dV.f X z
       have cG := fh.f ar z
       have fi := h
       obtain ⟨bK, bL, bM, rfl⟩ := cG.shape
       have h := fi
       have fj := dW.f X z
       have cH := fj.f ar z
       have fk := h
       obtain ⟨bO, bP, bQ, rfl⟩ := cH.shape
       have h := fk
       have fl := cL.st D z
       have fm := fl.st S z
       have fn := fm.st K z
       have fo := fn.st F z
       have fp := fo.st C z
       have fq := fp.st m z
       have fr := fq.st n z
       have fs := fr.st j z
       have ft := fs.st H z
       have fu := ft.st p z
       have fv := fu.st l z
       have fw := fv.st o z
       have fx := fw.st J z
       have fy := fx.st G z
       have fz := fy.st E z
       have fA := fz.st q z
       have fB := fA.st t z
       have fC := fB.st a4 z
       have fD := fC.st X z
       have fF := fD.st ar z
       refine WL.store (v := ag [vs c.Name, (Value.slice T U V), vi c.Kind, vi 2, vB c.Mono, vi a0.Time, vi c.Time, vi co, vu cp, vu cq, vi cr, vu cs, vi ct, (Value.slice bK bL bM), vi cu, (Value.slice bO bP bQ), vi ay]) (cells' := [vs c.Name, (Value.slice T U V), vi c.Kind, vi 2, vB c.Mono, vi a0.Time, vi c.Time, vi co, vu cp, vu cq, vi cr, vu cs, vi ct, (Value.slice bK bL bM), vi cu, (Value.slice bO bP bQ), vi ay]) ty37 z z fF z (le_ z) z z ?_
       intro fG au fH
       refine nl (At.dq (su_ au z) (WD.y 4 z (by kernel_rfl) (fun _ _ _ => ya z) z (WD.done_ (by kernel_rfl) (th (rt ?_)))))
       obtain ⟨rfl, rfl, rfl⟩ := tup3 h
       have aI : Stp [12, 13, 14, 15, 16, 17, 18, 1001] (Lg.O0 A) w eN fG := (tr_ (su_ av z) (tr_ (su_ af z) (tr_ (su_ Z z) (tr_ (su_ W z) (tr_ (su_ D z) (tr_ (su_ S z) (tr_ (su_ K z) (tr_ (su_ F z) (tr_ (su_ C z) (tr_ (su_ m z) (tr_ (su_ n z) (tr_ (su_ j z) (tr_ (su_ H z) (tr_ (su_ p z) (tr_ (su_ l z) (tr_ (su_ o z) (tr_ (su_ J z) (tr_ (su_ G z) (tr_ (su_ E z) (tr_ (su_ q z) (tr_ (su_ t z) (tr_ (su_ a4 z) (tr_ (su_ X z) (tr_ (su_ ar z) (su_ au z)))))))))))))))))))))))))
       have fI := cE.f ar z
       have fJ := fI.f au z
       have fK := cF.f ar z
       have fL := fK.f au z
       have fN := ce.f m z
       have fO := fN.f n z
       have fP := fO.f j z
       have fQ := fP.f H z
       have fR := fQ.f p z
       have fT := fR.f l z
       have fU := fT.f o z
       have fV := fU.f J z
       have fY := fV.f G z
       have f0 := fY.f E z
       have f1 := f0.f q z
       have f2 := f1.f t z
       have f3 := f2.f a4 z
       have f4 := f3.f X z
       have f5 := f4.f ar z
       have f6 := f5.f au z
       have f7 := cG.f au z
       have f8 := cH.f au z
       have f9 := fg.st au z
       exact At.res (.inl z) z (.cell z (f9.runAg 0 [vB true, vi a1.Start, vi a1.Time, vi a1.Int_, vu a1.Re, vu a1.Im, vi cv, vu cw, vi cx, (Value.slice bE bF bG), vi cy, (Value.slice bH bI bJ)] ty32 z z z) (.cell z (fH.runAg 0 [vs c.Name, (Value.slice T U V), vi c.Kind, vi 2, vB c.Mono, vi a0.Time, vi c.Time, vi co, vu cp, vu cq, vi cr, vu cs, vi ct, (Value.slice bK bL bM), vi cu, (Value.slice bO bP bQ), vi ay] ty37 z z z) (.tmp z .nil))) ⟨(Value.slice bE bF bG), (Value.slice bH bI bJ), (Value.slice T U V), (Value.slice bK bL bM), (Value.slice bO bP bQ), z, (se_ aI z z), (Sl.outF fJ aI low0), (Sl.outF fL aI low0), (Sl.outF f6 aI low0), (Sl.outF f7 aI low0), (Sl.outF f8 aI low0)⟩
theorem c_law15_awake {w : World} {r0 : Bool} (h : law15_awake = some r0) : Rets Try.prog 11 [] w (fun v w' => v = vB r0 ∧ Ext w w') := by
 unfold law15_awake at h
 refine Rets.enter Try.func11 z z ?_
 refine (show WC _ _ _ _ [] _ from ?_)
 refine sq (rg (wY (ya z) z (nl (th (sq (rg (wY (yb (vals := [(0, vs [120]), (2, vi 1), (3, vi 1), (4, vB true), (6, vi 10), (7, vi 5)]) (cells := [vs [120], Value.slice none 0 0, vi 1, vi 1, vB true, vi 0, vi 10, vi 5, vu 0, vu 0, vi 0, vu 0, vi 0, Value.slice none 0 0, vi 0, Value.slice none 0 0, vi 0]) (fe_ z) (by kernel_rfl)) z (WL.alloc (O := (Lg.O0 (fun _ => False))) 11 [vs [], Value.slice none 0 0, vi 0, vi 0, vB false, vi 0, vi 0, vi 0, vu 0, vu 0, vi 0, vu 0, vi 0, Value.slice none 0 0, vi 0, Value.slice none 0 0, vi 0] ty37 z z ?_))))))))
 intro fB eZ fs bn dZ
 refine WL.store (v := Value.agg (List.toArray [vs [120], Value.slice none 0 0, vi 1, vi 1, vB true, vi 0, vi 10, vi 5, vu 0, vu 0, vi 0, vu 0, vi 0, Value.slice none 0 0, vi 0, Value.slice none 0 0, vi 0])) (cells' := [vs [120], Value.slice none 0 0, vi 1, vi 1, vB true, vi 0, vi 10, vi 5, vu 0, vu 0, vi 0, vu 0, vi 0, Value.slice none 0 0, vi 0, Value.slice none 0 0, vi 0]) ty37 z z dZ z (le_ z) z z ?_
 intro ft bo aS
 refine nl (th (sq (rg (wY (yb (vals := []) (cells := [vB false, vi 0, vi 0, vi 0, vu 0, vu 0, vi 0, vu 0, vi 0, Value.slice none 0 0, vi 0, Value.slice none 0 0]) (fe_ z) (by kernel_rfl)) z (wY (yL ty37 z z (aS.cells 0 [vs [120], Value.slice none 0 0, vi 1, vi 1, vB true, vi 0, vi 10, vi 5, vu 0, vu 0, vi 0, vu 0, vi 0, Value.slice none 0 0, vi 0, Value.slice none 0 0, vi 0] z) z) z ?_)))))
 obtain ⟨⟨p, c, o⟩, d0, h⟩ := bnd h
 refine WL.call (vals := [ag [vB false, vi 0, vi 0, vi 0, vu 0, vu 0, vi 0, vu 0, vi 0, Value.slice none 0 0, vi 0, Value.slice none 0 0], Value.agg (List.toArray [vs [120], Value.slice none 0 0, vi 1, vi 1, vB true, vi 0, vi 10, vi 5, vu 0, vu 0, vi 0, vu 0, vi 0, Value.slice none 0 0, vi 0, Value.slice none 0 0, vi 0]), vi 10]) kok33 z z (c_todelta_Next (A := fun _ => True) (a0 := (api_State.mk false 0 0 0 0 0 (api_Hist.mk 0 0 (api_Side.mk 0 []) (api_Side.mk 0 [])))) (a1 := (api_Point.mk [120] [] 1 1 true 0 10 5 0 0 (api_Hist.mk 0 0 (api_Side.mk 0 []) (api_Side.mk 0 [])) 0)) (Or.inl ⟨z, z⟩) (Or.inl ⟨z, z⟩) (Or.inl ⟨z, z⟩) (Or.inl ⟨z, z⟩) (Or.inl ⟨z, z⟩) d0) ?_
 rintro fu ai ⟨e0, e1, e2, e5, e6, rfl, d1, e7, e8, e9, fa, fb⟩
 obtain ⟨aj, fc, aa, aH⟩ := adoptE eZ (fun k => 1) d1
 have d2 : Sl Rep.u ai (frs aj) e0 p.Hist.Pos.Counts := Sl.adoptF e7 (fun k hk => ⟨hk, z⟩) aa
 have d3 : Sl Rep.u ai (frs aj) e1 p.Hist.Neg.Counts := Sl.adoptF e8 (fun k hk => ⟨hk, z⟩) aa
 have d4 : Sl rep_api_Pair ai (frs aj) e2 c.Attrs := Sl.adoptF e9 (fun k hk => ⟨hk, z⟩) aa
 have d5 : Sl Rep.u ai (frs aj) e5 c.Hist.Pos.Counts := Sl.adoptF fa (fun k hk => ⟨hk, z⟩) aa
 have d6 : Sl Rep.u ai (frs aj) e6 c.Hist.Neg.Counts := Sl.adoptF fb (fun k hk => ⟨hk, z⟩) aa
 refine wY (ym z) z (wY (yx z z) z (wY (yx z z) z (wY (yx z z) z (WL.alloc (O := aj) 12 [vB false, vi 0, vi 0, vi 0, vu 0, vu 0, vi 0, vu 0, vi 0, Value.slice none 0 0, vi 0, Value.slice none 0 0] ty32 z z ?_))))
 intro fC fd fv Z d7
 refine WL.alloc (O := fd) 13 [vs [], Value.slice none 0 0, vi 0, vi 0, vB false, vi 0, vi 0, vi 0, vu 0, vu 0, vi 0, vu 0, vi 0, Value.slice none 0 0, vi 0, Value.slice none 0 0, vi 0] ty37 z z ?_
 intro ah fe fw T d8
 have d9 := d2.f Z z
 have aT := d9.f T z
 have ea := h
 obtain ⟨aI, aJ, aK, rfl⟩ := aT.shape
 have h := ea
 have eb := d3.f Z z
 have aU := eb.f T z
 have ec := h
 obtain ⟨aL, aM, aN, rfl⟩ := aU.shape
 have h := ec
 have ed := d7.st T z
 refine WL.store (v := ag [vB p.Some, vi p.Start, vi p.Time, vi p.Int_, vu p.Re, vu p.Im, vi p.Hist.Scale, vu p.Hist.Zero, vi p.Hist.Pos.Offset, (Value.slice aI aJ aK), vi p.Hist.Neg.Offset, (Value.slice aL aM aN)]) (cells' := [vB p.Some, vi p.Start, vi p.Time, vi p.Int_, vu p.Re, vu p.Im, vi p.Hist.Scale, vu p.Hist.Zero, vi p.Hist.Pos.Offset, (Value.slice aI aJ aK), vi p.Hist.Neg.Offset, (Value.slice aL aM aN)]) ty32 z z ed z (le_ z) z z ?_
 intro fx U ee
 have ef := d4.f Z z
 have eg := ef.f T z
 have eh := eg.f U z
 have ei := h
 obtain ⟨dQ, dR, dS, rfl⟩ := eh.shape
 have h := ei
 have ej := d5.f Z z
 have ek := ej.f T z
 have em := ek.f U z
 have en := h
 obtain ⟨dT, dU, dV, rfl⟩ := em.shape
 have h := en
 have eo := d6.f Z z
 have ep := eo.f T z
 have es := ep.f U z
 have et := h
 obtain ⟨dW, dX, dY, rfl⟩ := es.shape
 have h := et
 have eu := d8.st U z
 refine WL.store (v := ag [vs c.Name, (Value.slice dQ dR dS), vi c.Kind, vi c.Temp, vB c.Mono, vi c.Start, vi c.Time, vi c.Int_, vu c.Re, vu c.Im, vi c.Hist.Scale, vu c.Hist.Zero, vi c.Hist.Pos.Offset, (Value.slice dT dU dV), vi c.Hist.Neg.Offset, (Value.slice dW dX dY), vi c.Flags]) (cells' := [vs c.Name, (Value.slice dQ dR dS), vi c.Kind, vi c.Temp, vB c.Mono, vi c.Start, vi c.Time, vi c.Int_, vu c.Re, vu c.Im, vi c.Hist.Scale, vu c.Hist.Zero, vi c.Hist.Pos.Offset, (Value.slice dT dU dV), vi c.Hist.Neg.Offset, (Value.slice dW dX dY), vi c.Flags]) ty37 z z eu z (le_ z) z z ?_
 intro fy ab aG
 refine wY (ya z) z (nl (th (sq (rg (wY (yf fo37_6 z) z ?_)))))
 have ew := aS.st aH z
 have ex := ew.st Z z
 have ey := ex.st T z
 have ez := ey.st U z
 have bp := ez.st ab z
 refine WL.store (v := vi 20) (cells' := [vs [120], Value.slice none 0 0, vi 1, vi 1, vB true, vi 0, vi 20, vi 5, vu 0, vu 0, vi 0, vu 0, vi 0, Value.slice none 0 0, vi 0, Value.slice none 0 0, vi 0]) ty3 z z bp z (le_ z) z z ?_
 intro ff M bq
 refine nl (th (sq (rg (wY (yf fo37_7 z) z (WL.store (v := vi 8) (cells' := [vs [120], Value.slice none 0 0, vi 1, vi 1, vB true, vi 0, vi 20, vi 8, vu 0, vu 0, vi 0, vu 0, vi 0, Value.slice none 0 0, vi 0, Value.slice none 0 0, vi 0]) ty3 z z bq z (le_ z) z z ?_)))))
 intro fg P aO
 refine nl (th (sq (rg ?_)))
 have br := ee.st ab z
 have bs := br.st M z
 have aP := bs.st P z
 refine wY (yL ty32 z z (aP.cells 0 [vB p.Some, vi p.Start, vi p.Time, vi p.Int_, vu p.Re, vu p.Im, vi p.Hist.Scale, vu p.Hist.Zero, vi p.Hist.Pos.Offset, (Value.slice aI aJ aK), vi p.Hist.Neg.Offset, (Value.slice aL aM aN)] z) z) z (wY (yL ty37 z z (aO.cells 0 [vs [120], Value.slice none 0 0, vi 1, vi 1, vB true, vi 0, vi 20, vi 8, vu 0, vu 0, vi 0, vu 0, vi 0, Value.slice none 0 0, vi 0, Value.slice none 0 0, vi 0] z) z) z ?_)
 have bt := aT.f U z
 have bu := bt.f ab z
 have bw := bu.f M z
 have bx := bw.f P z
 have bz := aU.f U z
 have bA := bz.f ab z
 have bB := bA.f M z
 have bC := bB.f P z
 obtain ⟨⟨m, d, l⟩, bD, h⟩ := bnd h
 refine WL.call (vals := [ag [vB p.Some, vi p.Start, vi p.Time, vi p.Int_, vu p.Re, vu p.Im, vi p.Hist.Scale, vu p.Hist.Zero, vi p.Hist.Pos.Offset, (Value.slice aI aJ aK), vi p.Hist.Neg.Offset, (Value.slice aL aM aN)], Value.agg (List.toArray [vs [120], Value.slice none 0 0, vi 1, vi 1, vB true, vi 0, vi 20, vi 8, vu 0, vu 0, vi 0, vu 0, vi 0, Value.slice none 0 0, vi 0, Value.slice none 0 0, vi 0]), vi 10]) kok33 z z (c_todelta_Next (A := fun _ => True) (a0 := p) (a1 := (api_Point.mk [120] [] 1 1 true 0 20 8 0 0 (api_Hist.mk 0 0 (api_Side.mk 0 []) (api_Side.mk 0 [])) 0)) (Sl.all bx) (Sl.all bC) (Or.inl ⟨z, z⟩) (Or.inl ⟨z, z⟩) (Or.inl ⟨z, z⟩) bD) ?_
 rintro fh ac ⟨eA, eB, eC, eD, eE, rfl, bE, eF, eG, eH, eI, eJ⟩
 obtain ⟨ae, eX, V, W⟩ := adoptE fe (fun k => 1) bE
 have bF : Sl Rep.u ac (frs ae) eA m.Hist.Pos.Counts := Sl.adoptF eF (fun k hk => ⟨hk, z⟩) V
 have bG : Sl Rep.u ac (frs ae) eB m.Hist.Neg.Counts := Sl.adoptF eG (fun k hk => ⟨hk, z⟩) V
 have bH : Sl rep_api_Pair ac (frs ae) eC d.Attrs := Sl.adoptF eH (fun k hk => ⟨hk, z⟩) V
 have bI : Sl Rep.u ac (frs ae) eD d.Hist.Pos.Counts := Sl.adoptF eI (fun k hk => ⟨hk, z⟩) V
 have bJ : Sl Rep.u ac (frs ae) eE d.Hist.Neg.Counts := Sl.adoptF eJ (fun k hk => ⟨hk, z⟩) V
 refine wY (ym z) z (wY (yx z z) z (wY (yx z z) z (wY (yx z z) z (WL.alloc (O := ae) 14 [vs [], Value.slice none 0 0, vi 0, vi 0, vB false, vi 0, vi 0, vi 0, vu 0, vu 0, vi 0, vu 0, vi 0, Value.slice none 0 0, vi 0, Value.slice none 0 0, vi 0] ty37 z z ?_))))
 intro K eK fi E bK
 have aQ := bF.f E z
 have bL := h
 obtain ⟨ak, al, am, rfl⟩ := aQ.shape
 have h := bL
 have aR := bG.f E z
 have bM := h
 obtain ⟨an, ao, ap, rfl⟩ := aR.shape
 have h := bM
 have bO := aP.st W z
 have bP := bO.st E z
 refine WL.store (v := ag [vB m.Some, vi m.Start, vi m.Time, vi m.Int_, vu m.Re, vu m.Im, vi m.Hist.Scale, vu m.Hist.Zero, vi m.Hist.Pos.Offset, (Value.slice ak al am), vi m.Hist.Neg.Offset, (Value.slice an ao ap)]) (cells' := [vB m.Some, vi m.Start, vi m.Time, vi m.Int_, vu m.Re, vu m.Im, vi m.Hist.Scale, vu m.Hist.Zero, vi m.Hist.Pos.Offset, (Value.slice ak al am), vi m.Hist.Neg.Offset, (Value.slice an ao ap)]) ty32 z z bP z (le_ z) z z ?_
 intro fj F bQ
 have bR := bH.f E z
 have bS := bR.f F z
 have bT := h
 obtain ⟨aW, aX, aY, rfl⟩ := bS.shape
 have h := bT
 have bU := bI.f E z
 have bW := bU.f F z
 have bX := h
 obtain ⟨aZ, a2, a3, rfl⟩ := bW.shape
 have h := bX
 have bY := bJ.f E z
 have bZ := bY.f F z
 have b0 := h
 obtain ⟨a4, a5, a6, rfl⟩ := bZ.shape
 have h := b0
 have b1 := bK.st F z
 refine WL.store (v := ag [vs d.Name, (Value.slice aW aX aY), vi d.Kind, vi d.Temp, vB d.Mono, vi d.Start, vi d.Time, vi d.Int_, vu d.Re, vu d.Im, vi d.Hist.Scale, vu d.Hist.Zero, vi d.Hist.Pos.Offset, (Value.slice aZ a2 a3), vi d.Hist.Neg.Offset, (Value.slice a4 a5 a6), vi d.Flags]) (cells' := [vs d.Name, (Value.slice aW aX aY), vi d.Kind, vi d.Temp, vB d.Mono, vi d.Start, vi d.Time, vi d.Int_, vu d.Re, vu d.Im, vi d.Hist.Scale, vu d.Hist.Zero, vi d.Hist.Pos.Offset, (Value.slice aZ a2 a3), vi d.Hist.Neg.Offset, (Value.slice a4 a5 a6), vi d.Flags]) ty37 z z b1 z (le_ z) z z ?_
 intro fk L aq
 refine wY (ya z) z (nl (th (sq (rg (wY (yf fo37_6 z) z ?_)))))
 have b2 := aO.st W z
 have b3 := b2.st E z
 have b4 := b3.st F z
 have b5 := b4.st L z
 refine WL.store (v := vi 30) (cells' := [vs [120], Value.slice none 0 0, vi 1, vi 1, vB true, vi 0, vi 30, vi 8, vu 0, vu 0, vi 0, vu 0, vi 0, Value.slice none 0 0, vi 0, Value.slice none 0 0, vi 0]) ty3 z z b5 z (le_ z) z z ?_
 intro fl H b6
 refine nl (th (sq (rg (wY (yf fo37_7 z) z (WL.store (v := vi 2) (cells' := [vs [120], Value.slice none 0 0, vi 1, vi 1, vB true, vi 0, vi 30, vi 2, vu 0, vu 0, vi 0, vu 0, vi 0, Value.slice none 0 0, vi 0, Value.slice none 0 0, vi 0]) ty3 z z b6 z (le_ z) z z ?_)))))
 intro fm I b7
 refine nl (th (sq (rg ?_)))
 have b8 := bQ.st L z
 have b9 := b8.st H z
 have ca := b9.st I z
 refine wY (yL ty32 z z (ca.cells 0 [vB m.Some, vi m.Start, vi m.Time, vi m.Int_, vu m.Re, vu m.Im, vi m.Hist.Scale, vu m.Hist.Zero, vi m.Hist.Pos.Offset, (Value.slice ak al am), vi m.Hist.Neg.Offset, (Value.slice an ao ap)] z) z) z (wY (yL ty37 z z (b7.cells 0 [vs [120], Value.slice none 0 0, vi 1, vi 1, vB true, vi 0, vi 30, vi 2, vu 0, vu 0, vi 0, vu 0, vi 0, Value.slice none 0 0, vi 0, Value.slice none 0 0, vi 0] z) z) z ?_)
 have cb := aQ.f F z
 have cc := cb.f L z
 have cd := cc.f H z
 have ce := cd.f I z
 have cf := aR.f F z
 have cg := cf.f L z
 have ch := cg.f H z
 have ci := ch.f I z
 obtain ⟨⟨q, j, n⟩, cj, h⟩ := bnd h
 refine WL.call (vals := [ag [vB m.Some, vi m.Start, vi m.Time, vi m.Int_, vu m.Re, vu m.Im, vi m.Hist.Scale, vu m.Hist.Zero, vi m.Hist.Pos.Offset, (Value.slice ak al am), vi m.Hist.Neg.Offset, (Value.slice an ao ap)], Value.agg (List.toArray [vs [120], Value.slice none 0 0, vi 1, vi 1, vB true, vi 0, vi 30, vi 2, vu 0, vu 0, vi 0, vu 0, vi 0, Value.slice none 0 0, vi 0, Value.slice none 0 0, vi 0]), vi 10]) kok33 z z (c_todelta_Next (A := fun _ => True) (a0 := m) (a1 := (api_Point.mk [120] [] 1 1 true 0 30 2 0 0 (api_Hist.mk 0 0 (api_Side.mk 0 []) (api_Side.mk 0 [])) 0)) (Sl.all ce) (Sl.all ci) (Or.inl ⟨z, z⟩) (Or.inl ⟨z, z⟩) (Or.inl ⟨z, z⟩) cj) ?_
 rintro fn ad ⟨eL, eM, eN, eO, eP, rfl, ck, eQ, eR, eS, eT, eU⟩
 obtain ⟨af, eY, X, Q⟩ := adoptE eK (fun k => 1) ck
 have cl : Sl Rep.u ad (frs af) eL q.Hist.Pos.Counts := Sl.adoptF eQ (fun k hk => ⟨hk, z⟩) X
 have cm : Sl Rep.u ad (frs af) eM q.Hist.Neg.Counts := Sl.adoptF eR (fun k hk => ⟨hk, z⟩) X
 have cn : Sl rep_api_Pair ad (frs af) eN j.Attrs := Sl.adoptF eS (fun k hk => ⟨hk, z⟩) X
 have co : Sl Rep.u ad (frs af) eO j.Hist.Pos.Counts := Sl.adoptF eT (fun k hk => ⟨hk, z⟩) X
 have cp : Sl Rep.u ad (frs af) eP j.Hist.Neg.Counts := Sl.adoptF eU (fun k hk => ⟨hk, z⟩) X
 refine wY (ym z) z (wY (yx z z) z (wY (yx z z) z (wY (yx z z) z (WL.alloc (O := af) 15 [vB false, vi 0, vi 0, vi 0, vu 0, vu 0, vi 0, vu 0, vi 0, Value.slice none 0 0, vi 0, Value.slice none 0 0] ty32 z z ?_))))
 intro fz eV fo D cq
 refine WL.alloc (O := eV) 16 [vs [], Value.slice none 0 0, vi 0, vi 0, vB false, vi 0, vi 0, vi 0, vu 0, vu 0, vi 0, vu 0, vi 0, Value.slice none 0 0, vi 0, Value.slice none 0 0, vi 0] ty37 z z ?_
 intro t eW fp C cr
 have cs := cl.f D z
 have ct := cs.f C z
 have cu := h
 obtain ⟨a7, a8, a9, rfl⟩ := ct.shape
 have h := cu
 have cv := cm.f D z
 have cw := cv.f C z
 have cx := h
 obtain ⟨ba, bb, bc, rfl⟩ := cw.shape
 have h := cx
 have cy := cq.st C z
 refine WL.store (v := ag [vB q.Some, vi q.Start, vi q.Time, vi q.Int_, vu q.Re, vu q.Im, vi q.Hist.Scale, vu q.Hist.Zero, vi q.Hist.Pos.Offset, (Value.slice a7 a8 a9), vi q.Hist.Neg.Offset, (Value.slice ba bb bc)]) (cells' := [vB q.Some, vi q.Start, vi q.Time, vi q.Int_, vu q.Re, vu q.Im, vi q.Hist.Scale, vu q.Hist.Zero, vi q.Hist.Pos.Offset, (Value.slice a7 a8 a9), vi q.Hist.Neg.Offset, (Value.slice ba bb bc)]) ty32 z z cy z (le_ z) z z ?_
 intro fq G fr
 have cz := cn.f D z
 have cA := cz.f C z
 have cC := cA.f G z
 have cD := h
 obtain ⟨bd, bf, bg, rfl⟩ := cC.shape
 have h := cD
 have cE := co.f D z
 have cF := cE.f C z
 have cG := cF.f G z
 have cH := h
 obtain ⟨bh, bi, bj, rfl⟩ := cG.shape
 have h := cH
 have cI := cp.f D z
 have cJ := cI.f C z
 have cK := cJ.f G z
 have cL := h
 obtain ⟨bk, bl, bm, rfl⟩ := cK.shape
 have h := cL
 have cM := cr.st G z
 refine WL.store (v := ag [vs j.Name, (Value.slice bd bf bg), vi j.Kind, vi j.Temp, vB j.Mono, vi j.Start, vi j.Time, vi j.Int_, vu j.Re, vu j.Im, vi j.Hist.Scale, vu j.Hist.Zero, vi j.Hist.Pos.Offset, (Value.slice bh bi bj), vi j.Hist.Neg.Offset, (Value.slice bk bl bm), vi j.Flags]) (cells' := [vs j.Name, (Value.slice bd bf bg), vi j.Kind, vi j.Temp, vB j.Mono, vi j.Start, vi j.Time, vi j.Int_, vu j.Re, vu j.Im, vi j.Hist.Scale, vu j.Hist.Zero, vi j.Hist.Pos.Offset, (Value.slice bh bi bj), vi j.Hist.Neg.Offset, (Value.slice bk bl bm), vi j.Flags]) ty37 z z cM z (le_ z) z z ?_
 intro J S ar
 refine wY (ya z) z (nl (th (sq (rg (wY (ym z) z (wY (Y.eql_i z z) z (wY (ym z) z ?_)))))))
 refine WL.cut 3 (σ := Unit) (fun _ w' => J = w') (fun _ => [(3, pt ah 0), (5, pt K 0), (8, pt t 0), (9, vi n), (41, vB ((decide (o = 0)) && (decide (l = 0))))]) ?_ ?_
 ·refine WL.part 38 z (fun au => ?_) (fun au => ?_)
  ·refine ug z z (wY (ym z) z (ug z z (wY (Y.eql_i z z) z (wY (Y.pick (b := true) z z) z (WL.ren (v' := vB ((decide (o = 0)) && (decide (l = 0)))) 41 z (congrArg vB (andT au)) ?_)))))
   exact nl (At.join () z (.cons z (.cons z (.cons z (.cons z (.cons z .nil))))))
  ·refine WL.gS z z z z (WL.gS z z z z (wY (Y.pick (b := false) z z) z (WL.ren (v' := vB ((decide (o = 0)) && (decide (l = 0)))) 41 z (congrArg vB (andF au)) ?_)))
   exact nl (At.join () z (.cons z (.cons z (.cons z (.cons z (.cons z .nil))))))
 ·rintro _ _ rfl
  refine (show WL _ _ _ _ _ [(3, pt ah 0), (5, pt K 0), (8, pt t 0), (9, vi n), (41, vB ((decide (o = 0)) && (decide (l = 0))))] _ from ?_)
  refine wY (ym z) z ?_
  refine WL.cut 3 (σ := Unit) (fun _ w' => J = w') (fun _ => [(3, pt ah 0), (5, pt K 0), (8, pt t 0), (45, vB (((decide (o = 0)) && (decide (l = 0))) && (decide (n = 0))))]) ?_ ?_
  ·refine WL.part 42 z (fun av => ?_) (fun av => ?_)
   ·refine ug z z (wY (ym z) z (ug z z (wY (Y.eql_i z z) z (wY (Y.pick (b := true) z z) z (WL.ren (v' := vB (((decide (o = 0)) && (decide (l = 0))) && (decide (n = 0)))) 45 z (congrArg vB (andT av)) ?_)))))
    exact nl (At.join () z (.cons z (.cons z (.cons z (.cons z .nil)))))
   ·refine WL.gS z z z z (WL.gS z z z z (wY (Y.pick (b := false) z z) z (WL.ren (v' := vB (((decide (o = 0)) && (decide (l = 0))) && (decide (n = 0)))) 45 z (congrArg vB (andF av)) ?_)))
    exact nl (At.join () z (.cons z (.cons z (.cons z (.cons z .nil)))))
  ·rintro _ _ rfl
   refine (show WL _ _ _ _ _ [(3, pt ah 0), (5, pt K 0), (8, pt t 0), (45, vB (((decide (o = 0)) && (decide (l = 0))) && (decide (n = 0))))] _ from ?_)
   refine wY (ym z) z ?_
   refine WL.cut 4 (σ := Unit) (fun _ w' => J = w') (fun _ => [(3, pt ah 0), (5, pt K 0), (8, pt t 0), (50, vB ((((decide (o = 0)) && (decide (l = 0))) && (decide (n = 0))) && (decide (c.Flags = 1))))]) ?_ ?_
   ·refine WL.part 46 z (fun aw => ?_) (fun aw => ?_)
    ·refine ug z z (wY (yf fo37_11 z) z (ug z z ?_))
     have cN := aG.st M z
     have cO := cN.st P z
     have cP := cO.st W z
     have cQ := cP.st E z
     have cR := cQ.st F z
     have cS := cR.st L z
     have cT := cS.st H z
     have cU := cT.st I z
     have cV := cU.st Q z
     have cW := cV.st D z
     have cX := cW.st C z
     have cY := cX.st G z
     have cZ := cY.st S z
     refine wY (yl ty3 z z (cZ.cell 16 _ z)) z (ug z z (wY (Y.eql_i z z) z (wY (Y.pick (b := true) z z) z (WL.ren (v' := vB ((((decide (o = 0)) && (decide (l = 0))) && (decide (n = 0))) && (decide (c.Flags = 1)))) 50 z (congrArg vB (andT aw)) ?_))))
     exact nl (At.join () z (.cons z (.cons z (.cons z (.cons z .nil)))))
    ·refine WL.gS z z z z (WL.gS z z z z (WL.gS z z z z (wY (Y.pick (b := false) z z) z (WL.ren (v' := vB ((((decide (o = 0)) && (decide (l = 0))) && (decide (n = 0))) && (decide (c.Flags = 1)))) 50 z (congrArg vB (andF aw)) ?_))))
     exact nl (At.join () z (.cons z (.cons z (.cons z (.cons z .nil)))))
   ·rintro _ _ rfl
    refine (show WL _ _ _ _ _ [(3, pt ah 0), (5, pt K 0), (8, pt t 0), (50, vB ((((decide (o = 0)) && (decide (l = 0))) && (decide (n = 0))) && (decide (c.Flags = 1))))] _ from ?_)
    refine wY (ym z) z ?_
    refine WL.cut 4 (σ := Unit) (fun _ w' => J = w') (fun _ => [(3, pt ah 0), (5, pt K 0), (8, pt t 0), (55, vB (((((decide (o = 0)) && (decide (l = 0))) && (decide (n = 0))) && (decide (c.Flags = 1))) && (decide (c.Int_ = 5))))]) ?_ ?_
    ·refine WL.part 51 z (fun ax => ?_) (fun ax => ?_)
     ·refine ug z z (wY (yf fo37_7 z) z (ug z z ?_))
      have c0 := aG.st M z
      have c1 := c0.st P z
      have c2 := c1.st W z
      have c3 := c2.st E z
      have c4 := c3.st F z
      have c5 := c4.st L z
      have c6 := c5.st H z
      have c7 := c6.st I z
      have c8 := c7.st Q z
      have c9 := c8.st D z
      have da := c9.st C z
      have db := da.st G z
      have dc := db.st S z
      refine wY (yl ty3 z z (dc.cell 7 _ z)) z (ug z z (wY (Y.eql_i z z) z (wY (Y.pick (b := true) z z) z (WL.ren (v' := vB (((((decide (o = 0)) && (decide (l = 0))) && (decide (n = 0))) && (decide (c.Flags = 1))) && (decide (c.Int_ = 5)))) 55 z (congrArg vB (andT ax)) ?_))))
      exact nl (At.join () z (.cons z (.cons z (.cons z (.cons z .nil)))))
     ·refine WL.gS z z z z (WL.gS z z z z (WL.gS z z z z (wY (Y.pick (b := false) z z) z (WL.ren (v' := vB (((((decide (o = 0)) && (decide (l = 0))) && (decide (n = 0))) && (decide (c.Flags = 1))) && (decide (c.Int_ = 5)))) 55 z (congrArg vB (andF ax)) ?_))))
      exact nl (At.join () z (.cons z (.cons z (.cons z (.cons z .nil)))))
    ·rintro _ _ rfl
     refine (show WL _ _ _ _ _ [(3, pt ah 0), (5, pt K 0), (8, pt t 0), (55, vB (((((decide (o = 0)) && (decide (l = 0))) && (decide (n = 0))) && (decide (c.Flags = 1))) && (decide (c.Int_ = 5))))] _ from ?_)
     refine wY (ym z) z ?_
     refine WL.cut 4 (σ := Unit) (fun _ w' => J = w') (fun _ => [(5, pt K 0), (8, pt t 0), (60, vB ((((((decide (o = 0)) && (decide (l = 0))) && (decide (n = 0))) && (decide (c.Flags = 1))) && (decide (c.Int_ = 5))) && (decide (c.Temp = 2))))]) ?_ ?_
     ·refine WL.part 56 z (fun ay => ?_) (fun ay => ?_)
      ·refine ug z z (wY (yf fo37_3 z) z (ug z z ?_))
       have dd := aG.st M z
       have de := dd.st P z
       have df := de.st W z
       have dg := df.st E z
       have dh := dg.st F z
       have di := dh.st L z
       have dj := di.st H z
       have dk := dj.st I z
       have dl := dk.st Q z
       have dm := dl.st D z
       have dn := dm.st C z
       have dp := dn.st G z
       have dr := dp.st S z
       refine wY (yl ty3 z z (dr.cell 3 _ z)) z (ug z z (wY (Y.eql_i z z) z (wY (Y.pick (b := true) z z) z (WL.ren (v' := vB ((((((decide (o = 0)) && (decide (l = 0))) && (decide (n = 0))) && (decide (c.Flags = 1))) && (decide (c.Int_ = 5))) && (decide (c.Temp = 2)))) 60 z (congrArg vB (andT ay)) ?_))))
       exact nl (At.join () z (.cons z (.cons z (.cons z .nil))))
      ·refine WL.gS z z z z (WL.gS z z z z (WL.gS z z z z (wY (Y.pick (b := false) z z) z (WL.ren (v' := vB ((((((decide (o = 0)) && (decide (l = 0))) && (decide (n = 0))) && (decide (c.Flags = 1))) && (decide (c.Int_ = 5))) && (decide (c.Temp = 2)))) 60 z (congrArg vB (andF ay)) ?_))))
       exact nl (At.join () z (.cons z (.cons z (.cons z .nil))))
     ·rintro _ _ rfl
      refine (show WL _ _ _ _ _ [(5, pt K 0), (8, pt t 0), (60, vB ((((((decide (o = 0)) && (decide (l = 0))) && (decide (n = 0))) && (decide (c.Flags = 1))) && (decide (c.Int_ = 5))) && (decide (c.Temp = 2))))] _ from ?_)
      refine wY (ym z) z ?_
      refine WL.cut 4 (σ := Unit) (fun _ w' => J = w') (fun _ => [(5, pt K 0), (8, pt t 0), (65, vB (((((((decide (o = 0)) && (decide (l = 0))) && (decide (n = 0))) && (decide (c.Flags = 1))) && (decide (c.Int_ = 5))) && (decide (c.Temp = 2))) && (decide (d.Flags = 0))))]) ?_ ?_
      ·refine WL.part 61 z (fun az => ?_) (fun az => ?_)
       ·refine ug z z (wY (yf fo37_11 z) z (ug z z ?_))
        have ds := aq.st H z
        have dt := ds.st I z
        have du := dt.st Q z
        have dw := du.st D z
        have dx := dw.st C z
        have dy := dx.st G z
        have dz := dy.st S z
        refine wY (yl ty3 z z (dz.cell 16 _ z)) z (ug z z (wY (Y.eql_i z z) z (wY (Y.pick (b := true) z z) z (WL.ren (v' := vB (((((((decide (o = 0)) && (decide (l = 0))) && (decide (n = 0))) && (decide (c.Flags = 1))) && (decide (c.Int_ = 5))) && (decide (c.Temp = 2))) && (decide (d.Flags = 0)))) 65 z (congrArg vB (andT az)) ?_))))
        exact nl (At.join () z (.cons z (.cons z (.cons z .nil))))
       ·refine WL.gS z z z z (WL.gS z z z z (WL.gS z z z z (wY (Y.pick (b := false) z z) z (WL.ren (v' := vB (((((((decide (o = 0)) && (decide (l = 0))) && (decide (n = 0))) && (decide (c.Flags = 1))) && (decide (c.Int_ = 5))) && (decide (c.Temp = 2))) && (decide (d.Flags = 0)))) 65 z (congrArg vB (andF az)) ?_))))
        exact nl (At.join () z (.cons z (.cons z (.cons z .nil))))
      ·rintro _ _ rfl
       refine (show WL _ _ _ _ _ [(5, pt K 0), (8, pt t 0), (65, vB (((((((decide (o = 0)) && (decide (l = 0))) && (decide (n = 0))) && (decide (c.Flags = 1))) && (decide (c.Int_ = 5))) && (decide (c.Temp = 2))) && (decide (d.Flags = 0))))] _ from ?_)
       refine wY (ym z) z ?_
       refine WL.cut 4 (σ := Unit) (fun _ w' => J = w') (fun _ => [(5, pt K 0), (8, pt t 0), (70, vB ((((((((decide (o = 0)) && (decide (l = 0))) && (decide (n = 0))) && (decide (c.Flags = 1))) && (decide (c.Int_ = 5))) && (decide (c.Temp = 2))) && (decide (d.Flags = 0))) && (decide (d.Int_ = 3))))]) ?_ ?_
       ·refine WL.part 66 z (fun aA => ?_) (fun aA => ?_)
        ·refine ug z z (wY (yf fo37_7 z) z (ug z z ?_))
         have dA := aq.st H z
         have dB := dA.st I z
         have dC := dB.st Q z
         have dD := dC.st D z
         have dE := dD.st C z
         have dF := dE.st G z
         have dG := dF.st S z
         refine wY (yl ty3 z z (dG.cell 7 _ z)) z (ug z z (wY (Y.eql_i z z) z (wY (Y.pick (b := true) z z) z (WL.ren (v' := vB ((((((((decide (o = 0)) && (decide (l = 0))) && (decide (n = 0))) && (decide (c.Flags = 1))) && (decide (c.Int_ = 5))) && (decide (c.Temp = 2))) && (decide (d.Flags = 0))) && (decide (d.Int_ = 3)))) 70 z (congrArg vB (andT aA)) ?_))))
         exact nl (At.join () z (.cons z (.cons z (.cons z .nil))))
        ·refine WL.gS z z z z (WL.gS z z z z (WL.gS z z z z (wY (Y.pick (b := false) z z) z (WL.ren (v' := vB ((((((((decide (o = 0)) && (decide (l = 0))) && (decide (n = 0))) && (decide (c.Flags = 1))) && (decide (c.Int_ = 5))) && (decide (c.Temp = 2))) && (decide (d.Flags = 0))) && (decide (d.Int_ = 3)))) 70 z (congrArg vB (andF aA)) ?_))))
         exact nl (At.join () z (.cons z (.cons z (.cons z .nil))))
       ·rintro _ _ rfl
        refine (show WL _ _ _ _ _ [(5, pt K 0), (8, pt t 0), (70, vB ((((((((decide (o = 0)) && (decide (l = 0))) && (decide (n = 0))) && (decide (c.Flags = 1))) && (decide (c.Int_ = 5))) && (decide (c.Temp = 2))) && (decide (d.Flags = 0))) && (decide (d.Int_ = 3))))] _ from ?_)
        refine wY (ym z) z ?_
        refine WL.cut 4 (σ := Unit) (fun _ w' => J = w') (fun _ => [(8, pt t 0), (75, vB (((((((((decide (o = 0)) && (decide (l = 0))) && (decide (n = 0))) && (decide (c.Flags = 1))) && (decide (c.Int_ = 5))) && (decide (c.Temp = 2))) && (decide (d.Flags = 0))) && (decide (d.Int_ = 3))) && (decide (d.Start = 10))))]) ?_ ?_
        ·refine WL.part 71 z (fun aC => ?_) (fun aC => ?_)
         ·refine ug z z (wY (yf fo37_5 z) z (ug z z ?_))
          have dH := aq.st H z
          have dI := dH.st I z
          have dJ := dI.st Q z
          have dK := dJ.st D z
          have dL := dK.st C z
          have dM := dL.st G z
          have dN := dM.st S z
          refine wY (yl ty3 z z (dN.cell 5 _ z)) z (ug z z (wY (Y.eql_i z z) z (wY (Y.pick (b := true) z z) z (WL.ren (v' := vB (((((((((decide (o = 0)) && (decide (l = 0))) && (decide (n = 0))) && (decide (c.Flags = 1))) && (decide (c.Int_ = 5))) && (decide (c.Temp = 2))) && (decide (d.Flags = 0))) && (decide (d.Int_ = 3))) && (decide (d.Start = 10)))) 75 z (congrArg vB (andT aC)) ?_))))
          exact nl (At.join () z (.cons z (.cons z .nil)))
         ·refine WL.gS z z z z (WL.gS z z z z (WL.gS z z z z (wY (Y.pick (b := false) z z) z (WL.ren (v' := vB (((((((((decide (o = 0)) && (decide (l = 0))) && (decide (n = 0))) && (decide (c.Flags = 1))) && (decide (c.Int_ = 5))) && (decide (c.Temp = 2))) && (decide (d.Flags = 0))) && (decide (d.Int_ = 3))) && (decide (d.Start = 10)))) 75 z (congrArg vB (andF aC)) ?_))))
          exact nl (At.join () z (.cons z (.cons z .nil)))
        ·rintro _ _ rfl
         refine (show WL _ _ _ _ _ [(8, pt t 0), (75, vB (((((((((decide (o = 0)) && (decide (l = 0))) && (decide (n = 0))) && (decide (c.Flags = 1))) && (decide (c.Int_ = 5))) && (decide (c.Temp = 2))) && (decide (d.Flags = 0))) && (decide (d.Int_ = 3))) && (decide (d.Start = 10))))] _ from ?_)
         refine wY (ym z) z ?_
         refine WL.cut 4 (σ := Unit) (fun _ w' => J = w') (fun _ => [(8, pt t 0), (80, vB ((((((((((decide (o = 0)) && (decide (l = 0))) && (decide (n = 0))) && (decide (c.Flags = 1))) && (decide (c.Int_ = 5))) && (decide (c.Temp = 2))) && (decide (d.Flags = 0))) && (decide (d.Int_ = 3))) && (decide (d.Start = 10))) && (decide (j.Flags = 4))))]) ?_ ?_
         ·refine WL.part 76 z (fun aD => ?_) (fun aD => ?_)
          ·refine ug z z (wY (yf fo37_11 z) z (ug z z (wY (yl ty3 z z (ar.cell 16 _ z)) z (ug z z (wY (Y.eql_i z z) z (wY (Y.pick (b := true) z z) z (WL.ren (v' := vB ((((((((((decide (o = 0)) && (decide (l = 0))) && (decide (n = 0))) && (decide (c.Flags = 1))) && (decide (c.Int_ = 5))) && (decide (c.Temp = 2))) && (decide (d.Flags = 0))) && (decide (d.Int_ = 3))) && (decide (d.Start = 10))) && (decide (j.Flags = 4)))) 80 z (congrArg vB (andT aD)) ?_)))))))
           exact nl (At.join () z (.cons z (.cons z .nil)))
          ·refine WL.gS z z z z (WL.gS z z z z (WL.gS z z z z (wY (Y.pick (b := false) z z) z (WL.ren (v' := vB ((((((((((decide (o = 0)) && (decide (l = 0))) && (decide (n = 0))) && (decide (c.Flags = 1))) && (decide (c.Int_ = 5))) && (decide (c.Temp = 2))) && (decide (d.Flags = 0))) && (decide (d.Int_ = 3))) && (decide (d.Start = 10))) && (decide (j.Flags = 4)))) 80 z (congrArg vB (andF aD)) ?_))))
           exact nl (At.join () z (.cons z (.cons z .nil)))
         ·rintro _ _ rfl
          refine (show WL _ _ _ _ _ [(8, pt t 0), (80, vB ((((((((((decide (o = 0)) && (decide (l = 0))) && (decide (n = 0))) && (decide (c.Flags = 1))) && (decide (c.Int_ = 5))) && (decide (c.Temp = 2))) && (decide (d.Flags = 0))) && (decide (d.Int_ = 3))) && (decide (d.Start = 10))) && (decide (j.Flags = 4))))] _ from ?_)
          refine wY (ym z) z ?_
          refine WL.cut 4 (σ := Unit) (fun _ w' => J = w') (fun _ => [(8, pt t 0), (85, vB (((((((((((decide (o = 0)) && (decide (l = 0))) && (decide (n = 0))) && (decide (c.Flags = 1))) && (decide (c.Int_ = 5))) && (decide (c.Temp = 2))) && (decide (d.Flags = 0))) && (decide (d.Int_ = 3))) && (decide (d.Start = 10))) && (decide (j.Flags = 4))) && (decide (j.Int_ = 2))))]) ?_ ?_
          ·refine WL.part 81 z (fun aE => ?_) (fun aE => ?_)
           ·refine ug z z (wY (yf fo37_7 z) z (ug z z (wY (yl ty3 z z (ar.cell 7 _ z)) z (ug z z (wY (Y.eql_i z z) z (wY (Y.pick (b := true) z z) z (WL.ren (v' := vB (((((((((((decide (o = 0)) && (decide (l = 0))) && (decide (n = 0))) && (decide (c.Flags = 1))) && (decide (c.Int_ = 5))) && (decide (c.Temp = 2))) && (decide (d.Flags = 0))) && (decide (d.Int_ = 3))) && (decide (d.Start = 10))) && (decide (j.Flags = 4))) && (decide (j.Int_ = 2)))) 85 z (congrArg vB (andT aE)) ?_)))))))
            exact nl (At.join () z (.cons z (.cons z .nil)))
           ·refine WL.gS z z z z (WL.gS z z z z (WL.gS z z z z (wY (Y.pick (b := false) z z) z (WL.ren (v' := vB (((((((((((decide (o = 0)) && (decide (l = 0))) && (decide (n = 0))) && (decide (c.Flags = 1))) && (decide (c.Int_ = 5))) && (decide (c.Temp = 2))) && (decide (d.Flags = 0))) && (decide (d.Int_ = 3))) && (decide (d.Start = 10))) && (decide (j.Flags = 4))) && (decide (j.Int_ = 2)))) 85 z (congrArg vB (andF aE)) ?_))))
            exact nl (At.join () z (.cons z (.cons z .nil)))
          ·rintro _ _ rfl
           refine (show WL _ _ _ _ _ [(8, pt t 0), (85, vB (((((((((((decide (o = 0)) && (decide (l = 0))) && (decide (n = 0))) && (decide (c.Flags = 1))) && (decide (c.Int_ = 5))) && (decide (c.Temp = 2))) && (decide (d.Flags = 0))) && (decide (d.Int_ = 3))) && (decide (d.Start = 10))) && (decide (j.Flags = 4))) && (decide (j.Int_ = 2))))] _ from ?_)
           refine wY (ym z) z ?_
           refine WL.cut 4 (σ := Unit) (fun _ w' => J = w') (fun _ => [(90, vB ((((((((((((decide (o = 0)) && (decide (l = 0))) && (decide (n = 0))) && (decide (c.Flags = 1))) && (decide (c.Int_ = 5))) && (decide (c.Temp = 2))) && (decide (d.Flags = 0))) && (decide (d.Int_ = 3))) && (decide (d.Start = 10))) && (decide (j.Flags = 4))) && (decide (j.Int_ = 2))) && (decide (j.Start = 20))))]) ?_ ?_
           ·refine WL.part 86 z (fun aF => ?_) (fun aF => ?_)
            ·refine ug z z (wY (yf fo37_5 z) z (ug z z (wY (yl ty3 z z (ar.cell 5 _ z)) z (ug z z (wY (Y.eql_i z z) z (wY (Y.pick (b := true) z z) z (WL.ren (v' := vB ((((((((((((decide (o = 0)) && (decide (l = 0))) && (decide (n = 0))) && (decide (c.Flags = 1))) && (decide (c.Int_ = 5))) && (decide (c.Temp = 2))) && (decide (d.Flags = 0))) && (decide (d.Int_ = 3))) && (decide (d.Start = 10))) && (decide (j.Flags = 4))) && (decide (j.Int_ = 2))) && (decide (j.Start = 20)))) 90 z (congrArg vB (andT aF)) ?_)))))))
             exact nl (At.join () z (.cons z .nil))
            ·refine WL.gS z z z z (WL.gS z z z z (WL.gS z z z z (wY (Y.pick (b := false) z z) z (WL.ren (v' := vB ((((((((((((decide (o = 0)) && (decide (l = 0))) && (decide (n = 0))) && (decide (c.Flags = 1))) && (decide (c.Int_ = 5))) && (decide (c.Temp = 2))) && (decide (d.Flags = 0))) && (decide (d.Int_ = 3))) && (decide (d.Start = 10))) && (decide (j.Flags = 4))) && (decide (j.Int_ = 2))) && (decide (j.Start = 20)))) 90 z (congrArg vB (andF aF)) ?_))))
             exact nl (At.join () z (.cons z .nil))
           ·rintro _ _ rfl
            refine (show WL _ _ _ _ _ [(90, vB ((((((((((((decide (o = 0)) && (decide (l = 0))) && (decide (n = 0))) && (decide (c.Flags = 1))) && (decide (c.Int_ = 5))) && (decide (c.Temp = 2))) && (decide (d.Flags = 0))) && (decide (d.Int_ = 3))) && (decide (d.Start = 10))) && (decide (j.Flags = 4))) && (decide (j.Int_ = 2))) && (decide (j.Start = 20))))] _ from ?_)
            obtain ⟨fA, dO, h⟩ := lt1 h
            refine WL.yE (ya z) (congrArg vB dO.symm) z (nl (th (rt ?_)))
            obtain rfl := some1 h
            have dP : Stp [11, 12, 13, 14, 15, 16] (Lg.O0 (fun _ => False)) w eW J := (tr_ (su_ bn z) (tr_ (su_ bo z) (tr_ (su_ aH z) (tr_ (su_ Z z) (tr_ (su_ T z) (tr_ (su_ U z) (tr_ (su_ ab z) (tr_ (su_ M z) (tr_ (su_ P z) (tr_ (su_ W z) (tr_ (su_ E z) (tr_ (su_ F z) (tr_ (su_ L z) (tr_ (su_ H z) (tr_ (su_ I z) (tr_ (su_ Q z) (tr_ (su_ D z) (tr_ (su_ C z) (tr_ (su_ G z) (su_ S z))))))))))))))))))))
            exact At.res (.inl z) z (.tmp z .nil) ⟨z, (se_ dP z z)⟩
theorem c_ref08_Light {A : Nat → Prop} {v0_3 : Value} {v0_5 : Value} {a0 : api_Hist} {w : World} (hs0_3 : Sl Rep.u w A v0_3 a0.Pos.Counts) (hs0_5 : Sl Rep.u w A v0_5 a0.Neg.Counts) {r0 : Bool} (h : ref08_Light a0 = some r0) : Rets Try.prog 18 [ag [vi a0.Scale, vu a0.Zero, vi a0.Pos.Offset, v0_3, vi a0.Neg.Offset, v0_5]] w (fun v w' => v = vB r0 ∧ Ext w w') := by
 unfold ref08_Light at h
 refine Rets.enter Try.func18 z z ?_
 have j : Sl Rep.u w (imm (Lg.O0 A)) v0_3 a0.Pos.Counts := (Sl.start hs0_3)
 have l : Sl Rep.u w (imm (Lg.O0 A)) v0_5 a0.Neg.Counts := (Sl.start hs0_5)
 refine (show WC _ _ _ _ [(0, ag [vi a0.Scale, vu a0.Zero, vi a0.Pos.Offset, v0_3, vi a0.Neg.Offset, v0_5])] _ from ?_)
 refine sq (rg ?_)
 have o := h
 obtain ⟨E, F, G, rfl⟩ := j.shape
 have h := o
 have p := h
 obtain ⟨H, I, J, rfl⟩ := l.shape
 have h := p
 refine WL.box (O := (Lg.O0 A)) 11 [vi a0.Scale, vu a0.Zero, vi a0.Pos.Offset, (Value.slice E F G), vi a0.Neg.Offset, (Value.slice H I J)] z z z ?_
 intro L K m c n
 refine wY (ya z) z (nl (th (sq (rg (wY (yf fo30_2 z) z (wY (yf fo28_1 z) z (wY (yl ty26 z z (n.cell 3 _ z)) z ?_)))))))
 have q := j.i c z z
 refine wY (Y.len ty26 z q) z (wY (Y.leq_i z z) z (wY (ym z) z ?_))
 refine WL.cut 6 (σ := Unit) (fun _ w' => m = w') (fun _ => [(14, vB ((decide ((a0.Pos.Counts.length : Int) ≤ 300)) && (decide ((a0.Neg.Counts.length : Int) ≤ 300))))]) ?_ ?_
 ·refine WL.part 8 z (fun d => ?_) (fun d => ?_)
  ·refine ug z z (wY (yf fo30_3 z) z (ug z z (wY (yf fo28_1 z) z (ug z z (wY (yl ty26 z z (n.cell 5 _ z)) z (ug z z ?_))))))
   have t := l.i c z z
   refine wY (Y.len ty26 z t) z (ug z z (wY (Y.leq_i z z) z (wY (Y.pick (b := true) z z) z (WL.ren (v' := vB ((decide ((a0.Pos.Counts.length : Int) ≤ 300)) && (decide ((a0.Neg.Counts.length : Int) ≤ 300)))) 14 z (congrArg vB (andT d)) ?_))))
   exact nl (At.join () z (.cons z .nil))
  ·refine WL.gS z z z z (WL.gS z z z z (WL.gS z z z z (WL.gS z z z z (WL.gS z z z z (wY (Y.pick (b := false) z z) z (WL.ren (v' := vB ((decide ((a0.Pos.Counts.length : Int) ≤ 300)) && (decide ((a0.Neg.Counts.length : Int) ≤ 300)))) 14 z (congrArg vB (andF d)) ?_))))))
   exact nl (At.join () z (.cons z .nil))
 ·rintro _ _ rfl
  refine (show WL _ _ _ _ _ [(14, vB ((decide ((a0.Pos.Counts.length : Int) ≤ 300)) && (decide ((a0.Neg.Counts.length : Int) ≤ 300))))] _ from ?_)
  obtain ⟨M, C, h⟩ := lt1 h
  refine WL.yE (ya z) (congrArg vB C.symm) z (nl (th (rt ?_)))
  obtain rfl := some1 h
  have D : Stp [] (Lg.O0 A) w K m := (su_ c z)
  exact At.res (.inl z) z (.tmp z .nil) ⟨z, (se_ D z z)⟩
theorem c_ref11_Light {A : Nat → Prop} {a0 : List api_Pair} {v0 : Value} {w : World} (hs0 : Sl rep_api_Pair w A v0 a0) {r0 : Bool} (h : ref11_Light a0 = some r0) : Rets Try.prog 42 [v0] w (fun v w' => v = vB r0 ∧ Ext w w') := by
 unfold ref11_Light at h
 refine Rets.enter Try.func42 z z ?_
 have c : Sl rep_api_Pair w (imm (Lg.O0 A)) v0 a0 := (Sl.start hs0)
 refine (show WC _ _ _ _ [(0, v0)] _ from ?_)
 refine sq (rg (wY (ya z) z (nl (th (sq (sq (rg (wY (ym z) z (wY (Y.len ty35 z c) z ?_)))))))))
 refine wY (Y.gtr_i z z) z (nl (th ?_))
 rcases cnd h with ⟨d, h⟩ | ⟨d, h⟩
 ·refine WC.condT' z d (sq (rg (wY (ya z) z (nl (th (rt (At.thenR ?_)))))))
  obtain rfl := some1 h
  have K : Stp [] (Lg.O0 A) w (Lg.O0 A) w := (sr_ _ _ _)
  exact At.res (.inl z) z (.tmp z .nil) ⟨z, (se_ K z z)⟩
 ·refine WC.condF' z d (sk (th (sq (sq (rg (wY (ya z) z (nl (th (WC.block ?_)))))))))
  obtain ⟨I, h, t⟩ := flow1 h
  obtain ⟨J, h⟩ := loop_some h
  refine WC.joinB 0 (σ := Unit) (fun x w' => I = .go () ∧ w = w') (fun x => []) ?_ ?_
  ·refine WC.loop (σ := Int) (fun x k w' => loopN k (ref11_Light_lp1 a0) x = some I ∧ w = w') (fun x => [(0, v0), (3, vi x)]) 0 J (.cons z (.cons z .nil)) ⟨h, z⟩ ?_
   rintro C J _ ⟨h, rfl⟩
   obtain ⟨ad, ao, rfl, h, j⟩ := rnd1 h
   unfold ref11_Light_lp1 at h
   try dsimp only at h
   refine (show WC _ _ _ _ [(0, v0), (3, vi C)] _ from ?_)
   refine sq (sq (rg (wY (ym z) z (wY (ym z) z (wY (Y.len ty35 z c) z (wY (Y.lss_i z z) z (nl (th ?_))))))))
   rcases cnd h with ⟨l, h⟩ | ⟨l, h⟩
   ·refine WC.condT' z l (sk (th (sq (WC.block (sq (rg (wY (ym z) z (wY (ym z) z ?_))))))))
    obtain ⟨D, L, h⟩ := bnd h
    obtain ⟨ap, ai, aj, am, M, P, Q, m, E, S⟩ := Sl.at2 c L
    obtain ⟨_, _, rfl, rfl, rfl⟩ := E
    replace m : CellsAt _ _ _ [vs D.Key, vs D.Val] := m
    have F := CAt.imm m S
    refine wY (Y.indexAddr ty35 ty107 z M z P Q) z (wY (yf fo107_0 z) z (wY (yl ty9 z z (F.at_.sub 0 [vs D.Key] z)) z (wY (Y.len_s ty9 z) z (wY (Y.gtr_i z z) z (wY (ym z) z ?_)))))
    obtain ⟨ae, h, T⟩ := bnd h
    refine WL.cut 8 (σ := Bool) (fun x w' => x = ae ∧ w = w') (fun x => [(0, v0), (3, vi C), (28, vB x)]) ?_ ?_
    ·rcases cnd h with ⟨n, h⟩ | ⟨n, h⟩
     ·refine WL.ren 20 z (congrArg vB n) (WL.gS z z z z (WL.gS z z z z (WL.gS z z z z (WL.gS z z z z (WL.gS z z z z (WL.gS z z z z (WL.gS z z z z (wY (Y.pick (b := true) z z) z ?_))))))))
      exact nl (At.join (σ := Bool) true ⟨some1 h, z⟩ (.cons z (.cons z (.cons z .nil))))
     ·refine WL.ren 20 z (congrArg vB n) (ug z z (wY (ym z) z (ug z z (wY (ym z) z (ug z z ?_)))))
      obtain ⟨q, U, h⟩ := bnd h
      obtain ⟨aq, ak, al, an, V, W, X, o, G, Z⟩ := Sl.at2 c U
      obtain ⟨_, _, rfl, rfl, rfl⟩ := G
      replace o : CellsAt _ _ _ [vs q.Key, vs q.Val] := o
      have H := CAt.imm o Z
      refine wY (Y.indexAddr ty35 ty107 z V z W X) z (ug z z (wY (yf fo107_1 z) z (ug z z (wY (yl ty9 z z (H.at_.sub 1 [vs q.Val] z)) z (ug z z (wY (Y.len_s ty9 z) z (ug z z (wY (Y.gtr_i z z) z (wY (Y.pick (b := false) z z) z ?_)))))))))
      exact nl (At.join (σ := Bool) (decide (100 < (q.Val.length : Int))) ⟨some1 h, z⟩ (.cons z (.cons z (.cons z .nil))))
    ·rintro af _ ⟨rfl, rfl⟩
     replace h := T
     try dsimp only at h
     refine (show WL _ _ _ _ _ [(0, v0), (3, vi C), (28, vB af)] _ from ?_)
     refine nl (th ?_)
     rcases cnd h with ⟨p, h⟩ | ⟨p, h⟩
     ·refine WC.condT' z p (sq (rg (wY (ya z) z (nl (th (rt (At.inBlockR (At.thenR (At.loopR ?_)))))))))
      have h := outr1 h j t
      refine At.joinBR (At.inBlockR (At.thenR ?_))
      obtain rfl := some1 h
      have aa : Stp [] (Lg.O0 A) w (Lg.O0 A) w := (sr_ _ _ _)
      exact At.res (.inl z) z (.tmp z .nil) ⟨z, (se_ aa z z)⟩
     ·refine WC.condF' z p (sk (At.inBlock (th (rg (wY (ym z) z (wY (Y.add_i z z) z ?_))))))
      obtain ⟨ah, ab, h⟩ := lt1 h
      refine WL.yE (ya z) (congrArg vi ab.symm) z (nl ?_)
      exact At.round ah ad (Nat.lt_succ_self _) ⟨next1 h j, z⟩ (.cons z (.cons z .nil))
   ·refine WC.condF' z l (WC.exit (At.thenX (At.loopX ?_)))
    exact At.hitB (σ := Unit) () ⟨brk1 h j, z⟩ .nil
  ·rintro _ _ ⟨rfl, rfl⟩
   replace h := flowK_go t
   refine (show At _ _ _ [] _ from ?_)
   refine At.inBlockHit (th (sq (rg (wY (ya z) z (nl (th (rt ?_)))))))
   obtain rfl := some1 h
   have ac : Stp [] (Lg.O0 A) w (Lg.O0 A) w := (sr_ _ _ _)
   exact At.res (.inl z) z (.tmp z .nil) ⟨z, (se_ ac z z)⟩
end Go.Lg
