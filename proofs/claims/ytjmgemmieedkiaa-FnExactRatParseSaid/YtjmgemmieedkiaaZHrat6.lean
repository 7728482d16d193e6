/- The product of two rationals. Conditions: both can be read, and have at most 2^38 limbs each. -/
import Derived.Test.YtjmgemmieedkiaaZHrat5
import Derived.Deep.RegionHeld3
set_option linter.unusedVariables false
set_option linter.unusedSimpArgs false
namespace Go.Proofs.Ytjmgemmieedkiaa.Hand
open Go.RowKit Go.Proofs.YtjmgemmieedkiaaW.PrintWords Go.Proofs.YtjmgemmieedkiaaW.PrintLast Go.Proofs.YtjmgemmieedkiaaW.PrintMore
/-- Two rows, the second made behind the first, make a rational. -/
theorem two_rows {wn wd : World} {b1 b2 base : Nat} {v v' : Value} {l l' : List Int} (s : Bool) (h1 : (Kd.int .u32).R 49 wn b1 (fun _ => True) v l) (h2 : (Kd.int .u32).R 49 wd b2 (fun _ => True) v' l') (hb : Below wn.heap.size wn wd) (h12 : wn.heap.size ≤ b2) (ha : base ≤ b1) (ha' : base ≤ b2) :
    ratK.M wd base (fun k => (b1 ≤ k ∧ k < wn.heap.size) ∨ b2 ≤ k) ⟨s, l, l'⟩ [.bool s, v, v'] := by
  have g1 := Kd.R_lower (Kd.R_below (Kd.R_mono (Kd.R_bound h1) (ok' := fun k => b1 ≤ k ∧ k < wn.heap.size) (fun k hk => ⟨hk.2.1, hk.2.2.1⟩)) hb) ha
  have g2 := Kd.R_lower (Kd.R_mono (Kd.R_bound h2) (ok' := fun k => b2 ≤ k) (fun k hk => hk.2.1)) ha'
  exact ratK_made (Kd.R_mono g1 (fun k hk => .inl hk)) g2 (fun k hk => ⟨.inr hk, fun e => by have := (g1.1 k e.symm).2; omega⟩)
end Go.Proofs.Ytjmgemmieedkiaa.Hand
