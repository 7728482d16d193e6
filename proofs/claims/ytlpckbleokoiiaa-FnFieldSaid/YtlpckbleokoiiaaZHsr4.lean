/- The document's l1Mul and RatMul. Conditions: both rationals can be read, their elements are limbs, and they have at most 2^38 limbs each. -/
import Derived.Test.YtlpckbleokoiiaaZHsr3
import Derived.Test.YtlpckbleokoiiaaZHrat7
set_option linter.unusedVariables false
set_option linter.unusedSimpArgs false
namespace Go.Proofs.Ytlpckbleokoiiaa.Hand
open Go.RowKit Go.Proofs.YtlpckbleokoiiaaW.PrintWords Go.Proofs.YtlpckbleokoiiaaW.PrintLast Go.Proofs.YtlpckbleokoiiaaW.PrintMore
theorem l1MulX (A A' : Option Addr) (c c' : Nat) (x y : Nat) (w : World) (hr : Kd.bool.C w A (bin x).length (bin x)) (hr' : Kd.bool.C w A' (bin y).length (bin y)) (hn : (bin x).length ≤ 35184372088832) (hn' : (bin y).length ≤ 35184372088832) :
    Calls Try.prog 109 #[.slice A (bin x).length c, .slice A' (bin y).length c'] w fun e w' => ∃ A1 c1, e = .returned (.slice A1 (bin (x * y)).length c1) ∧ Kd.bool.R 4 w' w.heap.size (fun _ => True) (.slice A1 (bin (x * y)).length c1) (bin (x * y)) ∧ Below w.heap.size w w' := by
  refine (l1MulBits_calls A A' c c' (bin x) (bin y) w hr hr' hn hn').mono ?_
  rintro e w' ⟨v, rfl, ho, hb⟩
  rw [bval_bin, bval_bin] at ho
  obtain ⟨A1, c1, rfl⟩ := Kd.R_slice ho
  exact ⟨A1, c1, rfl, ho, hb⟩
/-- Two boxes that are read stay where a third is written. -/
theorem store6 {w : World} {g : Nat} {v0 v1 v2 v3 v4 v5 x y z : Value} (h : w.cell? ⟨g, 0, none⟩ = some v0 ∧ w.cell? ⟨g, 1, none⟩ = some v1 ∧ w.cell? ⟨g, 2, none⟩ = some v2 ∧ w.cell? ⟨g + 1, 0, none⟩ = some v3 ∧ w.cell? ⟨g + 1, 1, none⟩ = some v4 ∧ w.cell? ⟨g + 1, 2, none⟩ = some v5) :
    (((w.setCell ⟨g + 1 + 1, 0, none⟩ x).setCell ⟨g + 1 + 1, 1, none⟩ y).setCell ⟨g + 1 + 1, 2, none⟩ z).cell? ⟨g, 0, none⟩ = some v0 ∧ (((w.setCell ⟨g + 1 + 1, 0, none⟩ x).setCell ⟨g + 1 + 1, 1, none⟩ y).setCell ⟨g + 1 + 1, 2, none⟩ z).cell? ⟨g, 1, none⟩ = some v1 ∧ (((w.setCell ⟨g + 1 + 1, 0, none⟩ x).setCell ⟨g + 1 + 1, 1, none⟩ y).setCell ⟨g + 1 + 1, 2, none⟩ z).cell? ⟨g, 2, none⟩ = some v2 ∧
    (((w.setCell ⟨g + 1 + 1, 0, none⟩ x).setCell ⟨g + 1 + 1, 1, none⟩ y).setCell ⟨g + 1 + 1, 2, none⟩ z).cell? ⟨g + 1, 0, none⟩ = some v3 ∧ (((w.setCell ⟨g + 1 + 1, 0, none⟩ x).setCell ⟨g + 1 + 1, 1, none⟩ y).setCell ⟨g + 1 + 1, 2, none⟩ z).cell? ⟨g + 1, 1, none⟩ = some v4 ∧ (((w.setCell ⟨g + 1 + 1, 0, none⟩ x).setCell ⟨g + 1 + 1, 1, none⟩ y).setCell ⟨g + 1 + 1, 2, none⟩ z).cell? ⟨g + 1, 2, none⟩ = some v5 := by
  have key : ∀ (b i : Nat) (v : Value), b ≠ g + 1 + 1 → w.cell? ⟨b, i, none⟩ = some v → (((w.setCell ⟨g + 1 + 1, 0, none⟩ x).setCell ⟨g + 1 + 1, 1, none⟩ y).setCell ⟨g + 1 + 1, 2, none⟩ z).cell? ⟨b, i, none⟩ = some v := by
    intro b i v hb hv
    have hne : ∀ k : Nat, (⟨g + 1 + 1, k, none⟩ : Addr) ≠ ⟨b, i, none⟩ := fun k e => hb (by injection e with e; exact e.symm)
    rw [World.cell?_setCell_other _ _ _ _ (hne 2), World.cell?_setCell_other _ _ _ _ (hne 1), World.cell?_setCell_other _ _ _ _ (hne 0)]
    exact hv
  exact ⟨key _ _ _ (by omega) h.1, key _ _ _ (by omega) h.2.1, key _ _ _ (by omega) h.2.2.1, key _ _ _ (by omega) h.2.2.2.1, key _ _ _ (by omega) h.2.2.2.2.1, key _ _ _ (by omega) h.2.2.2.2.2⟩
theorem bin_mul_le {x y m n : Nat} (hx : (bin x).length ≤ m) (hy : (bin y).length ≤ n) : (bin (x * y)).length ≤ m + n := by
  refine bin_length_le ?_
  have h1 := bval_lt (bin x)
  have h2 := bval_lt (bin y)
  rw [bval_bin] at h1 h2
  rw [Nat.pow_add]
  have h3 : x < 2 ^ m := Nat.lt_of_lt_of_le h1 (Nat.pow_le_pow_right (by omega) hx)
  have h4 : y < 2 ^ n := Nat.lt_of_lt_of_le h2 (Nat.pow_le_pow_right (by omega) hy)
  exact Nat.mul_lt_mul_of_lt_of_le h3 (Nat.le_of_lt h4) (Nat.pow_pos (by omega))
end Go.Proofs.Ytlpckbleokoiiaa.Hand
