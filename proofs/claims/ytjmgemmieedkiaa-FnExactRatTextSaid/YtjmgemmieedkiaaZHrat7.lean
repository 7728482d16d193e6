/- The program's mul as a whole, quot, RatMul and RatDiv. Conditions: both rationals can be read, their elements are limbs, and they have at most 2^38 limbs each. -/
import Derived.Test.YtjmgemmieedkiaaZHrat3
import Derived.Test.YtjmgemmieedkiaaZN5
import Derived.Deep.RegionHeld3
import Derived.Test.YtjmgemmieedkiaaZHlrat
set_option linter.unusedVariables false
set_option linter.unusedSimpArgs false
namespace Go.Proofs.Ytjmgemmieedkiaa.Hand
open Go.RowKit Go.Proofs.YtjmgemmieedkiaaW.PrintWords Go.Proofs.YtjmgemmieedkiaaW.PrintLast Go.Proofs.YtjmgemmieedkiaaW.PrintMore
theorem C_one {w : World} {g : Nat} {t : TypeId} {r : Rt} {a0 a1 a2 : Value} (h : Blk w g t #[a0, a1, a2]) (ha : ratK.K w r [a0, a1, a2]) : ratK.C w (some ⟨g, 0, none⟩) [r].length [r] := by
  refine ⟨rfl, by simp, fun _ => ⟨_, rfl, fun j p hj => ?_⟩⟩
  match j, hj with
  | 0, hj =>
    have e : r = p := by simpa using hj
    subst e
    refine ⟨_, rfl, ha, fun i u hu => ?_⟩
    rw [add_plain, h.cell]
    match i, hu with
    | 0, hu => simpa using hu
    | 1, hu => simpa using hu
    | 2, hu => simpa using hu
theorem okL_one (r : Rt) : okL [r] = okR r := by simp [okL]
theorem ok1_calls (g : Nat) (r : Rt) (a0 a1 a2 : Value) (b : Bool) (w : World) (h : Blk w g 34 #[a0, a1, a2]) (ha : ratK.K w r [a0, a1, a2]) (hg : RtGood r) (he : okR r = b) :
    Calls Try.prog 66 #[.slice (some ⟨g, 0, none⟩) 1 1] w fun e w' => e = .returned (.bool b) ∧ Below w.heap.size w w' :=
  ok_calls _ 1 [r] b w (C_one h ha) (fun x hx => by simp at hx; rw [hx]; exact hg) (by rw [okL_one]; exact he)
end Go.Proofs.Ytjmgemmieedkiaa.Hand
