/- Law 10: the check that its words are awake, and a histogram that comes again and again. -/
import Derived.Test.YtdpokdaeekanjaaRkLg10
set_option linter.unusedVariables false
namespace Go.Lg
attribute [local irreducible] w64 toU64 toU8 shlU shrU shlB shrB
theorem some10_loop (l : List api_Hist) (hl : l.length ≤ 1000000) : ∀ (m i : Nat), i + m = l.length → ∃ p, loop (law10_some_lp1 l) (i : Int) = some p ∧ (p = .go () → ∀ j (h : j < l.length), i ≤ j → l[j].Pos.Counts.length ≤ 170 ∧ l[j].Neg.Counts.length ≤ 170) ∧ (p = .go () ∨ p = .out false)
  | 0, i, h => by
    refine ⟨.go (), loop_brk ?_, (fun _ j hj hij => by omega), .inl rfl⟩
    unfold law10_some_lp1
    rw [bifFd (by omega)]
  | m + 1, i, h => by
    have hi : i < l.length := by omega
    obtain ⟨p, h1, h2, h3⟩ := some10_loop l hl m (i + 1) (by omega)
    by_cases hb : l[i].Pos.Counts.length ≤ 170 ∧ l[i].Neg.Counts.length ≤ 170
    · refine ⟨p, ?_, ?_, h3⟩
      · rw [loop_next (s' := ((i + 1 : Nat) : Int)), h1]
        unfold law10_some_lp1
        rw [bifTd (by omega), idx_nat hi, bind_some, bifFd (by omega), bind_some, bind_some, bifFd (by omega), lett_eq, w64_succ (by omega)]
      · intro hp j hj hij
        by_cases e : i = j
        · subst e; exact hb
        · exact h2 hp j hj (by omega)
    · refine ⟨.out false, loop_out (r := false) ?_, (fun hp => by cases hp), .inr rfl⟩
      unfold law10_some_lp1
      rw [bifTd (by omega), idx_nat hi, bind_some]
      by_cases h1 : l[i].Pos.Counts.length ≤ 170
      · rw [bifFd (by omega), bind_some, bind_some, bifTd (by omega)]; rfl
      · rw [bifTd (by omega), bind_some, cond_true]; rfl
theorem some10_eq (l : List api_Hist) : ∃ t, law10_some l = some t ∧ (t = true → l.length ≤ 30 ∧ ∀ h ∈ l, h.Pos.Counts.length ≤ 170 ∧ h.Neg.Counts.length ≤ 170) := by
  unfold law10_some
  by_cases h : 30 < (l.length : Int)
  · exact ⟨false, by rw [bifTd h], fun h => by cases h⟩
  · obtain ⟨p, h1, h2, h3⟩ := some10_loop l (by omega) l.length 0 (by omega)
    have h1' : loop (law10_some_lp1 l) 0 = _ := h1
    rw [bifFd h, h1']
    rcases h3 with rfl | rfl
    · refine ⟨true, by rw [flow_go], fun _ => ⟨by omega, fun x hx => ?_⟩⟩
      obtain ⟨j, hj, rfl⟩ := List.getElem_of_mem hx
      exact h2 rfl j hj (by omega)
    · exact ⟨false, by rw [flow_out], fun h => by cases h⟩
theorem H0ok : OkH H0 := ⟨by show I64 0; unfold I64; omega, by show I64 0; unfold I64; omega, by show I64 0; unfold I64; omega, by decide, by decide⟩
theorem histE_H0 : histE H0 = 0 := by decide +kernel
theorem awake10 : law10_awake = some true := by
  obtain ⟨x1, w1, p1, s1, r1⟩ := HS.new.put (by simp) H0ok histE_H0 WR.new (by simp)
  rw [List.nil_append] at s1 r1
  have l1 : (hiB [] H0).length = 24 := by decide +kernel
  obtain ⟨x2, w2, p2, s2, r2⟩ := s1.put (by simp) H0ok histE_H0 r1 (by rw [l1]; omega)
  have l2 : (hiB [] H0 ++ hiB [H0] H0).length = 27 := by decide +kernel
  have b2 : w2.b = [40, 0, 0, 128] := r2.is _ (by rw [l2]; rfl) (by decide +kernel)
  have g1 := r1.len
  rw [l1] at g1
  have g2 : bitio_Writer_Len ⟨w2.b, w2.n⟩ = _ := r2.len
  rw [l2] at g2
  have g3 := r2.bytes
  rw [b2] at g3
  have g3' : bitio_Writer_Bytes ⟨w2.b, w2.n⟩ = _ := g3
  have o99 : OkH ⟨99, 0, ⟨0, []⟩, ⟨0, []⟩⟩ := ⟨by show I64 99; unfold I64; omega, by show I64 0; unfold I64; omega, by show I64 0; unfold I64; omega, by decide, by decide⟩
  have e99 : histE ⟨99, 0, ⟨0, []⟩, ⟨0, []⟩⟩ = 1 := by decide +kernel
  have p3 := HS.putNo (x := x2) o99 (by rw [e99]; omega) w2
  rw [e99] at p3
  have g5 : histbits_Row_Len x2 = some 2 := by unfold histbits_Row_Len; rw [s2.n]; rfl
  unfold law10_awake
  have p1' : histbits_Row_Put ⟨0, H0⟩ ⟨[], 0⟩ ⟨0, 0, ⟨0, []⟩, ⟨0, []⟩⟩ = _ := p1
  have p2' : histbits_Row_Put x1 w1 ⟨0, 0, ⟨0, []⟩, ⟨0, []⟩⟩ = _ := p2
  have p3' : histbits_Row_Put ⟨x2.n, ⟨x2.last.Scale, x2.last.Zero, ⟨x2.last.Pos.Offset, x2.last.Pos.Counts⟩, ⟨x2.last.Neg.Offset, x2.last.Neg.Counts⟩⟩⟩ ⟨w2.b, w2.n⟩ ⟨99, 0, ⟨0, []⟩, ⟨0, []⟩⟩ = _ := p3
  have g5' : histbits_Row_Len ⟨x2.n, ⟨x2.last.Scale, x2.last.Zero, ⟨x2.last.Pos.Offset, x2.last.Pos.Counts⟩, ⟨x2.last.Neg.Offset, x2.last.Neg.Counts⟩⟩⟩ = _ := g5
  rw [show bitio_NewWriter = some ⟨[], 0⟩ from rfl, bind_some, show histbits_NewRow = some ⟨0, H0⟩ from rfl, bind_some, p1', bind_some]
  dsimp only
  rw [bifF (by rfl), g1, bind_some, bind_some, bifF (by rfl), p2', bind_some]
  dsimp only
  rw [bind_some]
  dsimp only
  rw [bifF (by rfl), g2, bind_some, bifTd (by rfl), g5', bind_some, bind_some, bifTd (by rfl), g3', bind_some, bind_some, bifTd (by rfl), p3', bind_some]
  dsimp only
  rw [bind_some]; rfl
end Go.Lg
