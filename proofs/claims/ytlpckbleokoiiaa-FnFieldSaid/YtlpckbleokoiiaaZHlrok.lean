/- The law FnExactRatOk: true at all rationals. Conditions: the rational can be read and its elements are limbs. -/
import Derived.Test.YtlpckbleokoiiaaZHlrat2
import Derived.Test.YtlpckbleokoiiaaZHsr2
import Derived.Test.YtlpckbleokoiiaaZN7
import Derived.Deep.RegionHeld3
set_option linter.unusedVariables false
set_option linter.unusedSimpArgs false
namespace Go.Proofs.Ytlpckbleokoiiaa.Hand
open Go.RowKit Go.Proofs.YtlpckbleokoiiaaW.PrintWords Go.Proofs.YtlpckbleokoiiaaW.PrintLast Go.Proofs.YtlpckbleokoiiaaW.PrintMore
theorem RatOk_K2 {A B : Option Addr} {c d : Nat} (r : Rt) (b : Bool) (w : World) (hr : ratK.K w r [.bool r.neg, .slice A r.num.length c, .slice B r.den.length d])
    (hl : Limbs r.num) (hl' : Limbs r.den) (hn : r.num.length ≤ 1099511627776) (hn' : r.den.length ≤ 1099511627776) (hb : okR r = b) :
    Calls Try.prog 12 #[.agg #[.bool r.neg, .slice A r.num.length c, .slice B r.den.length d]] w fun e w' => e = .returned (.bool b) ∧ Below w.heap.size w w' := by
  obtain ⟨A', c', B', d', e, k1, k2, k3, k4⟩ := ratK_form hr
  simp only [List.cons.injEq, Value.slice.injEq, and_true, true_and] at e
  obtain ⟨⟨rfl, rfl⟩, rfl, rfl⟩ := e
  exact RatOk_calls A B c d r b w k2 k1 k4 k3 hl hl' hn hn' hb
end Go.Proofs.Ytlpckbleokoiiaa.Hand
