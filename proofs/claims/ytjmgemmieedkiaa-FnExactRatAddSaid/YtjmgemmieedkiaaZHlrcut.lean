/- A rational made by three calls, stored in a box that was made ahead of, between or behind them; sizes of products. No condition. -/
import Derived.Test.YtjmgemmieedkiaaZHlrat2
import Derived.Test.YtjmgemmieedkiaaZHrat7
set_option linter.unusedVariables false
set_option linter.unusedSimpArgs false
namespace Go.Proofs.Ytjmgemmieedkiaa.Hand
open Go.RowKit Go.Proofs.YtjmgemmieedkiaaW.PrintWords Go.Proofs.YtjmgemmieedkiaaW.PrintLast Go.Proofs.YtjmgemmieedkiaaW.PrintMore
/-- The rational r lies in the box g, all made since W. -/
def CutPost (W wc : World) (g : Nat) (r : Rt) (A : Option Addr) (c : Nat) (B : Option Addr) (d : Nat) : Prop :=
  Below W.heap.size W wc ∧ W.heap.size ≤ g ∧ Blk wc g 34 #[.bool r.neg, .slice A r.num.length c, .slice B r.den.length d] ∧ ratK.M wc W.heap.size (fun k => k ≠ g) r [.bool r.neg, .slice A r.num.length c, .slice B r.den.length d]
theorem cut_last {W wm : World} {b : Nat} {r : Rt} {A : Option Addr} {c : Nat} {B : Option Addr} {d : Nat} (hB : Below W.heap.size W wm) (hM : ratK.M wm b (fun _ => True) r [.bool r.neg, .slice A r.num.length c, .slice B r.den.length d]) (hb : W.heap.size ≤ b) :
    CutPost W (wm.alloc (.cells #[.bool r.neg, .slice A r.num.length c, .slice B r.den.length d] 34)) wm.heap.size r A c B d :=
  ⟨below_alloc hB _, hB.size, Blk.new wm _ _, Kd.M_below (ratK.M_lower hb (Kd.M_mono _ (fun k hk => by have := hk.2.2.1; omega) (ratK.M_bound hM))) (below_alloc (Below.refl wm.heap.size wm) _)⟩
theorem cut_early {W wm : World} {b g : Nat} {r : Rt} {x y z : Value} {A : Option Addr} {c : Nat} {B : Option Addr} {d : Nat} (hB : Below W.heap.size W wm) (hM : ratK.M wm b (fun _ => True) r [.bool r.neg, .slice A r.num.length c, .slice B r.den.length d]) (hg : g < b) (hW : W.heap.size ≤ g) (hk : Blk wm g 34 #[x, y, z]) :
    CutPost W (((wm.setCell ⟨g, 0, none⟩ (.bool r.neg)).setCell ⟨g, 1, none⟩ (.slice A r.num.length c)).setCell ⟨g, 2, none⟩ (.slice B r.den.length d)) g r A c B d :=
  ⟨below3 hB hW, hW, store3 hk, far3 (ratK.M_lower (by omega) (Kd.M_mono _ (fun k hk => by have := hk.2.1; omega) (ratK.M_bound hM))) (fun k hk => hk)⟩
theorem lim_mono {m n : Nat} (h : m ≤ n) : (lim m).length ≤ (lim n).length := by
  refine lim_length_le (Nat.lt_of_le_of_lt h ?_)
  have := val_lt (limbs_lim n)
  rw [val_lim] at this
  exact this
end Go.Proofs.Ytjmgemmieedkiaa.Hand
