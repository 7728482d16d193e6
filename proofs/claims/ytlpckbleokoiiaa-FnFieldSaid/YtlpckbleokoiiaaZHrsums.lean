/- What RatAdd hands back: that there is such a thing, and its size. Condition: elements are limbs. -/
import Derived.Test.YtlpckbleokoiiaaZHrsum
set_option linter.unusedVariables false
set_option linter.unusedSimpArgs false
namespace Go.Proofs.Ytlpckbleokoiiaa.Hand
open Go.RowKit Go.Proofs.YtlpckbleokoiiaaW.PrintWords Go.Proofs.YtlpckbleokoiiaaW.PrintLast Go.Proofs.YtlpckbleokoiiaaW.PrintMore
theorem addIs_size {r r' : Rt} {q : Rat} (hl : LimbsR r) (hl' : LimbsR r') (h : AddIs r r' q) : (repr q).num.length ≤ r.num.length + r.den.length + (r'.num.length + r'.den.length) + 1 ∧ (repr q).den.length ≤ r.den.length + r'.den.length + 1 := by
  rcases h with ⟨_, rfl⟩ | ⟨qa, qb, rfl, rfl, rfl⟩
  · rw [repr_zero]; simp
  · have e := rat_add qa qb
    obtain ⟨z, hz⟩ : ∃ z, z = sgn (repr qa).neg (val (repr qa).num * val (repr qb).den) + sgn (repr qb).neg (val (repr qb).num * val (repr qa).den) := ⟨_, rfl⟩
    rw [← hz, ← sgn_natAbs z] at e
    have hzb : z.natAbs ≤ val (repr qa).num * val (repr qb).den + val (repr qb).num * val (repr qa).den := by
      have h1 := natAbs_sgn (repr qa).neg (val (repr qa).num * val (repr qb).den)
      have h2 := natAbs_sgn (repr qb).neg (val (repr qb).num * val (repr qa).den)
      omega
    have hlen : (lim z.natAbs).length ≤ (repr qa).num.length + (repr qa).den.length + ((repr qb).num.length + (repr qb).den.length) + 1 := by
      have l1 := lim_mul_len hl.1 hl'.2
      have l2 := lim_mul_len hl'.1 hl.2
      refine Nat.le_trans (lim_mono hzb) (lim_length_le ?_)
      have b1 := val_lt (limbs_lim (val (repr qa).num * val (repr qb).den))
      have b2 := val_lt (limbs_lim (val (repr qb).num * val (repr qa).den))
      rw [val_lim] at b1 b2
      have p1 : 4294967296 ^ (lim (val (repr qa).num * val (repr qb).den)).length ≤ 4294967296 ^ ((repr qa).num.length + (repr qa).den.length + ((repr qb).num.length + (repr qb).den.length)) := Nat.pow_le_pow_right (by omega) (by omega)
      have p2 : 4294967296 ^ (lim (val (repr qb).num * val (repr qa).den)).length ≤ 4294967296 ^ ((repr qa).num.length + (repr qa).den.length + ((repr qb).num.length + (repr qb).den.length)) := Nat.pow_le_pow_right (by omega) (by omega)
      rw [Nat.pow_succ]
      omega
    by_cases hn : z.natAbs = 0
    · rw [hn] at e
      rw [← e, repr_norm_zero]; simp
    · rw [← e, repr_norm _ hn (Nat.mul_ne_zero (den_ne _) (den_ne _))]
      exact ⟨Nat.le_trans (lim_mono (Nat.div_le_self _ _)) hlen, Nat.le_trans (lim_mono (Nat.div_le_self _ _)) (Nat.le_trans (lim_mul_len hl.2 hl'.2) (by omega))⟩
end Go.Proofs.Ytlpckbleokoiiaa.Hand
