/- The product of two rationals. Conditions: both can be read, and have at most 2^38 limbs each. -/
import Derived.Test.YtjmgemmieedkiaaZHrat2
import Derived.Test.YtjmgemmieedkiaaZN5
import Derived.Deep.RegionHeld3
set_option linter.unusedVariables false
set_option linter.unusedSimpArgs false
namespace Go.Proofs.Ytjmgemmieedkiaa.Hand
open Go.RowKit Go.Proofs.YtjmgemmieedkiaaW.PrintWords Go.Proofs.YtjmgemmieedkiaaW.PrintLast Go.Proofs.YtjmgemmieedkiaaW.PrintMore
theorem rat_num {w : World} {r : Rt} {s : Bool} {A B : Option Addr} {n c m d : Nat} (h : ratK.K w r [.bool s, .slice A n c, .slice B m d]) : natK.K w r.num [.slice A n c] := by
  obtain ⟨A', c', B', d', e, h1, h2, h3, h4⟩ := ratK_form h
  injection e with e0 e
  injection e with e1 e
  rw [e1]
  exact natK_of h1 h2
theorem rat_den {w : World} {r : Rt} {s : Bool} {A B : Option Addr} {n c m d : Nat} (h : ratK.K w r [.bool s, .slice A n c, .slice B m d]) : natK.K w r.den [.slice B m d] := by
  obtain ⟨A', c', B', d', e, h1, h2, h3, h4⟩ := ratK_form h
  injection e with e0 e
  injection e with e1 e
  injection e with e2 e
  rw [e2]
  exact natK_of h3 h4
/-- How many limbs a rational has. -/
def szR (q : Rat) : Nat := (repr q).num.length + (repr q).den.length
/-- Two rows, the second made behind the first, make a rational. -/
theorem two_rows {wn wd : World} {b1 b2 base : Nat} {v v' : Value} {l l' : List Int} (s : Bool) (h1 : (Kd.int .u32).R 49 wn b1 (fun _ => True) v l) (h2 : (Kd.int .u32).R 49 wd b2 (fun _ => True) v' l') (hb : Below wn.heap.size wn wd) (h12 : wn.heap.size ≤ b2) (ha : base ≤ b1) (ha' : base ≤ b2) :
    ratK.M wd base (fun k => (b1 ≤ k ∧ k < wn.heap.size) ∨ b2 ≤ k) ⟨s, l, l'⟩ [.bool s, v, v'] := by
  have g1 := Kd.R_lower (Kd.R_below (Kd.R_mono (Kd.R_bound h1) (ok' := fun k => b1 ≤ k ∧ k < wn.heap.size) (fun k hk => ⟨hk.2.1, hk.2.2.1⟩)) hb) ha
  have g2 := Kd.R_lower (Kd.R_mono (Kd.R_bound h2) (ok' := fun k => b2 ≤ k) (fun k hk => hk.2.1)) ha'
  exact ratK_made (Kd.R_mono g1 (fun k hk => .inl hk)) g2 (fun k hk => ⟨.inr hk, fun e => by have := (g1.1 k e.symm).2; omega⟩)
end Go.Proofs.Ytjmgemmieedkiaa.Hand
