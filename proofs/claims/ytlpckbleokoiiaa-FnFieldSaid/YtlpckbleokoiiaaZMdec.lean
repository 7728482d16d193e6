/- Plain facts on decimal digits: the digits of a natural, their value, padding, trimming, and its text. Conditions: none; nothing of the program stands here. -/
import Derived.Test.YtlpckbleokoiiaaZN1
set_option linter.unusedVariables false
set_option linter.unusedSimpArgs false
namespace Go.Proofs.Ytlpckbleokoiiaa.Hand
open Go.RowKit Go.Proofs.YtlpckbleokoiiaaW.PrintWords
/-- Each element is a digit. -/
def Digits (l : List Int) : Prop := ∀ x ∈ l, 0 ≤ x ∧ x ≤ 9
theorem Digits.tail {x : Int} {xs : List Int} (h : Digits (x :: xs)) : Digits xs := fun y hy => h y (List.mem_cons_of_mem _ hy)
theorem Digits.head {x : Int} {xs : List Int} (h : Digits (x :: xs)) : 0 ≤ x ∧ x ≤ 9 := h x List.mem_cons_self
theorem Digits.append {a b : List Int} (ha : Digits a) (hb : Digits b) : Digits (a ++ b) := fun y hy => by
  rcases List.mem_append.1 hy with hy | hy
  · exact ha y hy
  · exact hb y hy
theorem Digits.set {a : List Int} (ha : Digits a) (i : Nat) {x : Int} (hx : 0 ≤ x ∧ x ≤ 9) : Digits (a.set i x) := fun y hy => by
  rcases List.mem_or_eq_of_mem_set hy with hy | rfl
  · exact ha y hy
  · exact hx
end Go.Proofs.Ytlpckbleokoiiaa.Hand
