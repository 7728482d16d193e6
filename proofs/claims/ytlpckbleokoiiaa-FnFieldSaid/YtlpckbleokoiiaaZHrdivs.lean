/- What RatDiv hands back: that there is such a thing, and its size. Condition: elements are limbs. -/
import Derived.Test.YtlpckbleokoiiaaZHrdiv
import Derived.Test.YtlpckbleokoiiaaZHlrcut
set_option linter.unusedVariables false
set_option linter.unusedSimpArgs false
namespace Go.Proofs.Ytlpckbleokoiiaa.Hand
open Go.RowKit Go.Proofs.YtlpckbleokoiiaaW.PrintWords Go.Proofs.YtlpckbleokoiiaaW.PrintLast Go.Proofs.YtlpckbleokoiiaaW.PrintMore
theorem divIs_size {r r' : Rt} {q : Rat} {b : Bool} (hl : LimbsR r) (hl' : LimbsR r') (h : DivIs r r' q b) : (repr q).num.length ≤ r.num.length + r'.den.length ∧ (repr q).den.length ≤ r.den.length + r'.num.length + 1 := by
  rcases h with ⟨_, rfl, _⟩ | ⟨qa, qb, rfl, rfl, ⟨h0, rfl, _⟩ | ⟨h0, rfl, _⟩⟩
  · rw [repr_zero]; simp
  · rw [repr_zero]; simp
  · have e := repr_inv h0
    have hm := mulIs_size (r := repr qa) (r' := repr qb⁻¹) hl (repr_limbs _) (.inr ⟨qa, qb⁻¹, rfl, rfl, Rat.div_def qa qb⟩)
    rw [e] at hm
    exact hm
end Go.Proofs.Ytlpckbleokoiiaa.Hand
