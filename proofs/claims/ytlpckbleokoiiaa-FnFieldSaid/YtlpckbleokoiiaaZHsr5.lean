/- The document's RatMul. Conditions: both rationals can be read, their elements are limbs, and they have at most 2^20 limbs together. -/
import Derived.Test.YtlpckbleokoiiaaZHsr4
set_option linter.unusedVariables false
set_option linter.unusedSimpArgs false
namespace Go.Proofs.Ytlpckbleokoiiaa.Hand
open Go.RowKit Go.Proofs.YtlpckbleokoiiaaW.PrintWords Go.Proofs.YtlpckbleokoiiaaW.PrintLast Go.Proofs.YtlpckbleokoiiaaW.PrintMore
theorem spec_ok {s : Bool} {A B : Option Addr} {n c m d : Nat} (r : Rt) (b : Bool) (w : World) (hr : ratK.K w r [.bool s, .slice A n c, .slice B m d]) (hl : LimbsR r) (hn : r.num.length + r.den.length ≤ 1048576) (hb : okR r = b) :
    Calls Try.prog 9 #[.agg #[.bool s, .slice A n c, .slice B m d]] w fun e w' => e = .returned (.bool b) ∧ Below w.heap.size w w' := by
  obtain ⟨A1, c1, B1, d1, e, _⟩ := ratK_form hr
  simp only [List.cons.injEq, Value.slice.injEq, Value.bool.injEq, and_true] at e
  obtain ⟨rfl, ⟨rfl, rfl, rfl⟩, rfl, rfl, rfl⟩ := e
  exact spec_RatOk_calls _ _ _ _ r b w hr hl.1 hl.2 (by omega) (by omega) hb
end Go.Proofs.Ytlpckbleokoiiaa.Hand
