/- Lemmas about the given model and about plain data, which the rows stand on: no statement of the program by itself. -/
import Derived.Test.YtmjgdjaneckdaaaLg05f
set_option linter.unusedVariables false
namespace Go.Lg
open Ieee
attribute [local irreducible] w64 toU64 toU8 shlU shrU shlB shrB

theorem inf_word {a : UInt64} (hE : fE a.toNat = 2047) (hM : fM a.toNat = 0) : UInt64.ofNat (double.write (.infinity (fS a.toNat))) = a := by
  have h := UInt64.toNat_lt a
  have hsw : double.signWeight = 9223372036854775808 := by decide
  have hinf : double.infRung = 9218868437227405312 := by decide
  apply UInt64.toNat_inj.1
  unfold fE fM at *
  unfold Format.write Format.word fS
  dsimp only
  rw [hsw, hinf, UInt64.toNat_ofNat']
  by_cases q : 9223372036854775808 ≤ a.toNat
  · rw [decide_eq_true q, if_pos rfl]; omega
  · rw [decide_eq_false q, if_neg (by simp)]; omega
theorem Add_eq (a b : UInt64) : ref05_Add a b = some (fAdd a b) := by
  have ra := read_eq (UInt64.toNat_lt a)
  have rb := read_eq (UInt64.toNat_lt b)
  by_cases oa : fE a.toNat = 2047 ∧ fM a.toNat ≠ 0
  · rw [if_pos oa.1, if_neg oa.2] at ra
    have : fAdd a b = 9221120237041090561 := by
      unfold fAdd Format.add
      rw [ra]; rfl
    rw [this]
    unfold ref05_Add
    rw [ROdd_eq, decide_eq_true oa, bind_some, bifT rfl, bind_some, bifT rfl]
  by_cases ob : fE b.toNat = 2047 ∧ fM b.toNat ≠ 0
  · rw [if_pos ob.1, if_neg ob.2] at rb
    have : fAdd a b = 9221120237041090561 := by
      unfold fAdd Format.add
      rw [rb]
      generalize double.read a.toNat = x
      cases x <;> rfl
    rw [this]
    unfold ref05_Add
    rw [ROdd_eq, decide_eq_false oa, bind_some, bifF rfl, ROdd_eq, decide_eq_true ob, bind_some, bind_some, bifT rfl]
  by_cases ia : fE a.toNat = 2047
  · have Ma : fM a.toNat = 0 := Decidable.byContradiction fun q => oa ⟨ia, q⟩
    rw [if_pos ia, if_pos Ma] at ra
    have fa : ref05_Finite a = some false := by rw [RFin_eq, decide_eq_false (fun e => e ia)]
    have wa := inf_word ia Ma
    by_cases ib : fE b.toNat = 2047
    · have Mb : fM b.toNat = 0 := Decidable.byContradiction fun q => ob ⟨ib, q⟩
      rw [if_pos ib, if_pos Mb] at rb
      have fb : ref05_Finite b = some false := by rw [RFin_eq, decide_eq_false (fun e => e ib)]
      have wb := inf_word ib Mb
      unfold fAdd Format.add
      rw [ra, rb]
      unfold ref05_Add
      rw [ROdd_eq, decide_eq_false oa, bind_some, bifF rfl, ROdd_eq, decide_eq_false ob, bind_some, bind_some, bifF rfl, fa, bind_some, bifT (by rfl), fb, bind_some, bind_some]
      by_cases h : fS a.toNat = fS b.toNat
      · have hab : a = b := by rw [← wa, ← wb, h]
        rw [bifF (by rw [hab]; simp), bind_some, bifT (by rfl)]
        simp only [Datum.sum, if_pos h, Option.map_some]
        rw [wa]
      · have hab : a ≠ b := fun e => h (by rw [e])
        rw [bifT (by simp [hab])]
        simp only [Datum.sum, if_neg h, Option.map_none]
    · rw [if_neg ib] at rb
      have fb : ref05_Finite b = some true := by rw [RFin_eq, decide_eq_true ib]
      unfold fAdd Format.add
      rw [ra, rb]
      unfold ref05_Add
      rw [ROdd_eq, decide_eq_false oa, bind_some, bifF rfl, ROdd_eq, decide_eq_false ob, bind_some, bind_some, bifF rfl, fa, bind_some, bifT (by rfl), fb, bind_some, bind_some, bifF (by rfl), bind_some, bifT (by rfl)]
      simp only [Datum.sum, Option.map_some]
      rw [wa]
  · by_cases ib : fE b.toNat = 2047
    · have Mb : fM b.toNat = 0 := Decidable.byContradiction fun q => ob ⟨ib, q⟩
      rw [if_pos ib, if_pos Mb] at rb
      rw [if_neg ia] at ra
      have fa : ref05_Finite a = some true := by rw [RFin_eq, decide_eq_true ia]
      have fb : ref05_Finite b = some false := by rw [RFin_eq, decide_eq_false (fun e => e ib)]
      have wb := inf_word ib Mb
      unfold fAdd Format.add
      rw [ra, rb]
      unfold ref05_Add
      rw [ROdd_eq, decide_eq_false oa, bind_some, bifF rfl, ROdd_eq, decide_eq_false ob, bind_some, bind_some, bifF rfl, fa, bind_some, bifF (by rfl), bind_some, bifF (by rfl), bind_some, bifF (by rfl), fb, bind_some, bifT (by rfl)]
      simp only [Datum.sum, Option.map_some]
      rw [wb]
    · exact Add_fin ia ib
end Go.Lg
