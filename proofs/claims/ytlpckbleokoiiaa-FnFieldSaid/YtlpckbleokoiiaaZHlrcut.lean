/- A rational made by three calls, stored in a box that was made ahead of, between or behind them; sizes of products. No condition. -/
import Derived.Test.YtlpckbleokoiiaaZHlrat2
import Derived.Test.YtlpckbleokoiiaaZHrat7
set_option linter.unusedVariables false
set_option linter.unusedSimpArgs false
namespace Go.Proofs.Ytlpckbleokoiiaa.Hand
open Go.RowKit Go.Proofs.YtlpckbleokoiiaaW.PrintWords Go.Proofs.YtlpckbleokoiiaaW.PrintLast Go.Proofs.YtlpckbleokoiiaaW.PrintMore
theorem lim_mono {m n : Nat} (h : m ≤ n) : (lim m).length ≤ (lim n).length := by
  refine lim_length_le (Nat.lt_of_le_of_lt h ?_)
  have := val_lt (limbs_lim n)
  rw [val_lim] at this
  exact this
theorem mulIs_size {r r' : Rt} {q : Rat} (hl : LimbsR r) (hl' : LimbsR r') (h : MulIs r r' q) : (repr q).num.length ≤ r.num.length + r'.num.length ∧ (repr q).den.length ≤ r.den.length + r'.den.length + 1 := by
  rcases h with ⟨_, rfl⟩ | ⟨qa, qb, rfl, rfl, rfl⟩
  · rw [repr_zero]; simp
  · by_cases hn : val (repr qa).num * val (repr qb).num = 0
    · have := rat_mul qa qb
      rw [hn] at this
      rw [← this, repr_norm_zero]; simp
    · have := rat_mul qa qb
      rw [← this, repr_norm _ hn (Nat.mul_ne_zero (den_ne _) (den_ne _))]
      exact ⟨Nat.le_trans (lim_mono (Nat.div_le_self _ _)) (lim_mul_len hl.1 hl'.1), Nat.le_trans (lim_mono (Nat.div_le_self _ _)) (Nat.le_trans (lim_mul_len hl.2 hl'.2) (by omega))⟩
end Go.Proofs.Ytlpckbleokoiiaa.Hand
