/- What RatDiv hands back: that there is such a thing, and its size. Condition: elements are limbs. -/
import Derived.Test.YtjmgemmieedkiaaHrdiv
import Derived.Test.YtjmgemmieedkiaaHlrcut
set_option linter.unusedVariables false
set_option linter.unusedSimpArgs false
namespace Go.Proofs.Ytjmgemmieedkiaa.Hand
open Go.RowKit Go.Proofs.YtjmgemmieedkiaaW.PrintWords Go.Proofs.YtjmgemmieedkiaaW.PrintLast Go.Proofs.YtjmgemmieedkiaaW.PrintMore

theorem divIs_ex {r r' : Rt} (hl : LimbsR r) (hl' : LimbsR r') : ∃ q b, DivIs r r' q b := by
  cases e : okR r && okR r' with
  | false => exact ⟨0, false, .inl ⟨e, rfl, rfl⟩⟩
  | true =>
    rw [Bool.and_eq_true] at e
    obtain ⟨qa, ha⟩ := repr_of_okR hl.1 hl.2 e.1
    obtain ⟨qb, hb⟩ := repr_of_okR hl'.1 hl'.2 e.2
    by_cases h : qb = 0
    · exact ⟨_, _, .inr ⟨qa, qb, ha, hb, .inl ⟨h, rfl, rfl⟩⟩⟩
    · exact ⟨_, _, .inr ⟨qa, qb, ha, hb, .inr ⟨h, rfl, rfl⟩⟩⟩
theorem divIs_size {r r' : Rt} {q : Rat} {b : Bool} (hl : LimbsR r) (hl' : LimbsR r') (h : DivIs r r' q b) : (repr q).num.length ≤ r.num.length + r'.den.length ∧ (repr q).den.length ≤ r.den.length + r'.num.length + 1 := by
  rcases h with ⟨_, rfl, _⟩ | ⟨qa, qb, rfl, rfl, ⟨h0, rfl, _⟩ | ⟨h0, rfl, _⟩⟩
  · rw [repr_zero]; simp
  · rw [repr_zero]; simp
  · have e := repr_inv h0
    have hm := mulIs_size (r := repr qa) (r' := repr qb⁻¹) hl (repr_limbs _) (.inr ⟨qa, qb⁻¹, rfl, rfl, Rat.div_def qa qb⟩)
    rw [e] at hm
    exact hm
end Go.Proofs.Ytjmgemmieedkiaa.Hand
