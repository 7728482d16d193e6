/- The program's Rat.copy. Conditions: the rational can be read and has at most 2^40 limbs. -/
import Derived.Test.YtjmgemmieedkiaaZHsr2
import Derived.Test.YtjmgemmieedkiaaZHrat3
import Derived.Test.YtjmgemmieedkiaaZN5
import Derived.Deep.RegionHeld3
import Derived.Test.YtjmgemmieedkiaaZHrat7
set_option linter.unusedVariables false
set_option linter.unusedSimpArgs false
namespace Go.Proofs.Ytjmgemmieedkiaa.Hand
open Go.RowKit Go.Proofs.YtjmgemmieedkiaaW.PrintWords Go.Proofs.YtjmgemmieedkiaaW.PrintLast Go.Proofs.YtjmgemmieedkiaaW.PrintMore
theorem copyX (A : Option Addr) (c : Nat) (l : List Int) (w : World) (hr : (Kd.int .u32).C w A l.length l) (hn : l.length ≤ 8796093022208) :
    Calls Try.prog 99 #[.slice A l.length c] w fun e w' => ∃ A1 c1, e = .returned (.slice A1 l.length c1) ∧ (Kd.int .u32).R 49 w' w.heap.size (fun _ => True) (.slice A1 l.length c1) l ∧ Below w.heap.size w w' := by
  refine (copy_calls A c l w hr hn).mono ?_
  rintro e w' ⟨v, rfl, ho, hb⟩
  obtain ⟨A1, c1, rfl⟩ := Kd.R_slice ho
  exact ⟨A1, c1, rfl, ho, hb⟩
end Go.Proofs.Ytjmgemmieedkiaa.Hand
