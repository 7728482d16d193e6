/- The program's mul as a whole, quot, RatMul and RatDiv. Conditions: both rationals can be read, their elements are limbs, and they have at most 2^38 limbs each. -/
import Derived.Test.YtjmgemmieedkiaaZHrat6
import Derived.Test.YtjmgemmieedkiaaZHlrat
set_option linter.unusedVariables false
set_option linter.unusedSimpArgs false
namespace Go.Proofs.Ytjmgemmieedkiaa.Hand
open Go.RowKit Go.Proofs.YtjmgemmieedkiaaW.PrintWords Go.Proofs.YtjmgemmieedkiaaW.PrintLast Go.Proofs.YtjmgemmieedkiaaW.PrintMore
/-- A block of two rationals one behind the other reads as a list. -/
theorem C_two {w : World} {g : Nat} {t : TypeId} {r r' : Rt} {a0 a1 a2 b0 b1 b2 : Value} (h : Blk w g t #[a0, a1, a2, b0, b1, b2]) (ha : ratK.K w r [a0, a1, a2]) (hb : ratK.K w r' [b0, b1, b2]) : ratK.C w (some ⟨g, 0, none⟩) [r, r'].length [r, r'] := by
  refine ⟨rfl, by simp, fun _ => ⟨_, rfl, fun j p hj => ?_⟩⟩
  match j, hj with
  | 0, hj =>
    have e : r = p := by simpa using hj
    subst e
    refine ⟨_, rfl, ha, fun i u hu => ?_⟩
    rw [add_plain, h.cell]
    match i, hu with
    | 0, hu => simpa using hu
    | 1, hu => simpa using hu
    | 2, hu => simpa using hu
  | 1, hj =>
    have e : r' = p := by simpa using hj
    subst e
    refine ⟨_, rfl, hb, fun i u hu => ?_⟩
    rw [add_plain, h.cell, show ratK.sz = 3 from rfl]
    match i, hu with
    | 0, hu => simpa using hu
    | 1, hu => simpa using hu
    | 2, hu => simpa using hu
theorem okL_two (r r' : Rt) : okL [r, r'] = (okR r && okR r') := by simp [okL]
theorem ok2_calls (g : Nat) (r r' : Rt) (a0 a1 a2 b0 b1 b2 : Value) (b : Bool) (w : World) (h : Blk w g 34 #[a0, a1, a2, b0, b1, b2]) (ha : ratK.K w r [a0, a1, a2]) (hb : ratK.K w r' [b0, b1, b2]) (hg : RtGood r) (hg' : RtGood r') (he : (okR r && okR r') = b) :
    Calls Try.prog 66 #[.slice (some ⟨g, 0, none⟩) 2 2] w fun e w' => e = .returned (.bool b) ∧ Below w.heap.size w w' :=
  ok_calls _ 2 [r, r'] b w (C_two h ha hb) (fun x hx => by simp at hx; rcases hx with rfl | rfl; exact hg; exact hg') (by rw [okL_two]; exact he)
end Go.Proofs.Ytjmgemmieedkiaa.Hand
