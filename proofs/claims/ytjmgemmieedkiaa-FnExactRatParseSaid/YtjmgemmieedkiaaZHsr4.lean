/- The document's l1Mul and RatMul. Conditions: both rationals can be read, their elements are limbs, and they have at most 2^38 limbs each. -/
import Derived.Test.YtjmgemmieedkiaaZHsr3
import Derived.Test.YtjmgemmieedkiaaZHrat6
import Derived.Test.YtjmgemmieedkiaaZHlrat
set_option linter.unusedVariables false
set_option linter.unusedSimpArgs false
namespace Go.Proofs.Ytjmgemmieedkiaa.Hand
open Go.RowKit Go.Proofs.YtjmgemmieedkiaaW.PrintWords Go.Proofs.YtjmgemmieedkiaaW.PrintLast Go.Proofs.YtjmgemmieedkiaaW.PrintMore
theorem l1MulX (A A' : Option Addr) (c c' : Nat) (x y : Nat) (w : World) (hr : Kd.bool.C w A (bin x).length (bin x)) (hr' : Kd.bool.C w A' (bin y).length (bin y)) (hn : (bin x).length ≤ 35184372088832) (hn' : (bin y).length ≤ 35184372088832) :
    Calls Try.prog 48 #[.slice A (bin x).length c, .slice A' (bin y).length c'] w fun e w' => ∃ A1 c1, e = .returned (.slice A1 (bin (x * y)).length c1) ∧ Kd.bool.R 4 w' w.heap.size (fun _ => True) (.slice A1 (bin (x * y)).length c1) (bin (x * y)) ∧ Below w.heap.size w w' := by
  refine (l1MulBits_calls A A' c c' (bin x) (bin y) w hr hr' hn hn').mono ?_
  rintro e w' ⟨v, rfl, ho, hb⟩
  rw [bval_bin, bval_bin] at ho
  obtain ⟨A1, c1, rfl⟩ := Kd.R_slice ho
  exact ⟨A1, c1, rfl, ho, hb⟩
end Go.Proofs.Ytjmgemmieedkiaa.Hand
