/- The program's Rat.copy. Conditions: the rational can be read and has at most 2^40 limbs. -/
import Derived.Test.YtlpckbleokoiiaaZHscopy
import Derived.Deep.RegionHeld3
set_option linter.unusedVariables false
set_option linter.unusedSimpArgs false
namespace Go.Proofs.Ytlpckbleokoiiaa.Hand
open Go.RowKit Go.Proofs.YtlpckbleokoiiaaW.PrintWords Go.Proofs.YtlpckbleokoiiaaW.PrintLast Go.Proofs.YtlpckbleokoiiaaW.PrintMore
theorem copyX (A : Option Addr) (c : Nat) (l : List Int) (w : World) (hr : (Kd.int .u32).C w A l.length l) (hn : l.length ≤ 8796093022208) :
    Calls Try.prog 85 #[.slice A l.length c] w fun e w' => ∃ A1 c1, e = .returned (.slice A1 l.length c1) ∧ (Kd.int .u32).R 73 w' w.heap.size (fun _ => True) (.slice A1 l.length c1) l ∧ Below w.heap.size w w' := by
  refine (copy_calls A c l w hr hn).mono ?_
  rintro e w' ⟨v, rfl, ho, hb⟩
  obtain ⟨A1, c1, rfl⟩ := Kd.R_slice ho
  exact ⟨A1, c1, rfl, ho, hb⟩
/-- A box that is read stays where the next is written. -/
theorem store3k {w : World} {g : Nat} {v0 v1 v2 x y z : Value} (h : w.cell? ⟨g, 0, none⟩ = some v0 ∧ w.cell? ⟨g, 1, none⟩ = some v1 ∧ w.cell? ⟨g, 2, none⟩ = some v2) :
    (((w.setCell ⟨g + 1, 0, none⟩ x).setCell ⟨g + 1, 1, none⟩ y).setCell ⟨g + 1, 2, none⟩ z).cell? ⟨g, 0, none⟩ = some v0 ∧ (((w.setCell ⟨g + 1, 0, none⟩ x).setCell ⟨g + 1, 1, none⟩ y).setCell ⟨g + 1, 2, none⟩ z).cell? ⟨g, 1, none⟩ = some v1 ∧ (((w.setCell ⟨g + 1, 0, none⟩ x).setCell ⟨g + 1, 1, none⟩ y).setCell ⟨g + 1, 2, none⟩ z).cell? ⟨g, 2, none⟩ = some v2 := by
  have key : ∀ (i : Nat) (v : Value), w.cell? ⟨g, i, none⟩ = some v → (((w.setCell ⟨g + 1, 0, none⟩ x).setCell ⟨g + 1, 1, none⟩ y).setCell ⟨g + 1, 2, none⟩ z).cell? ⟨g, i, none⟩ = some v := by
    intro i v hv
    have hne : ∀ k : Nat, (⟨g + 1, k, none⟩ : Addr) ≠ ⟨g, i, none⟩ := fun k e => by injection e with e; omega
    rw [World.cell?_setCell_other _ _ _ _ (hne 2), World.cell?_setCell_other _ _ _ _ (hne 1), World.cell?_setCell_other _ _ _ _ (hne 0)]
    exact hv
  exact ⟨key _ _ h.1, key _ _ h.2.1, key _ _ h.2.2⟩
set_option maxHeartbeats 2000000 in
set_option maxRecDepth 100000 in
theorem copyR_K (r : Rt) (A : Option Addr) (c : Nat) (B : Option Addr) (d : Nat) (w : World) (hr : ratK.K w r [.bool r.neg, .slice A r.num.length c, .slice B r.den.length d]) (hn : r.num.length + r.den.length ≤ 1099511627776) :
    Calls Try.prog 83 #[.agg #[.bool r.neg, .slice A r.num.length c, .slice B r.den.length d]] w (RtPost w r) := by
  have hu := Try.underlying26
  have HR := Aside0.mk hr
  clear hr
  go_enter Try.func83, Try.ntmps83
  go_upto_region 1 with fail
  have f0 := (Blk.new w 26 #[.bool r.neg, .slice A r.num.length c, .slice B r.den.length d]).alloc (.cells #[.bool false, .slice none 0 0, .slice none 0 0] 26)
  have f1 := Blk.new (w.alloc (.cells #[.bool r.neg, .slice A r.num.length c, .slice B r.den.length d] 26)) 26 #[.bool false, .slice none 0 0, .slice none 0 0]
  rw [show (w.alloc (.cells #[.bool r.neg, .slice A r.num.length c, .slice B r.den.length d] 26)).heap.size = w.heap.size + 1 from by simp] at f1
  have fb := below_alloc (below_alloc (Below.refl w.heap.size w) (.cells #[.bool r.neg, .slice A r.num.length c, .slice B r.den.length d] 26)) (.cells #[.bool false, .slice none 0 0, .slice none 0 0] 26)
  generalize ((w.alloc (.cells #[.bool r.neg, .slice A r.num.length c, .slice B r.den.length d] 26)).alloc (.cells #[.bool false, .slice none 0 0, .slice none 0 0] 26)) = W at f0 f1 fb ⊢
  have HX := Aside0.mk f0
  have HZ := Aside0.mk f1
  have HB0 := Aside0.mk fb
  clear f0 f1 fb
  have C1 : Aside0 (∀ w', Below W.heap.size W w' → (Kd.int .u32).C w' A r.num.length r.num) := ⟨fun w' h => natK_read (rat_num (ratK.K_below h (ratK.K_below HB0.out HR.out)))⟩
  have C2 : Aside0 (∀ w', Below W.heap.size W w' → (Kd.int .u32).C w' B r.den.length r.den) := ⟨fun w' h => natK_read (rat_den (ratK.K_below h (ratK.K_below HB0.out HR.out)))⟩
  obtain ⟨x0, x1, x2⟩ := box3 HX.out
  have hBW := Below.refl W.heap.size W
  have H6 : Aside0 (∀ w', Below W.heap.size W w' → w'.cell? ⟨w.heap.size, 0, none⟩ = some (.bool r.neg) ∧ w'.cell? ⟨w.heap.size, 1, none⟩ = some (.slice A r.num.length c) ∧ w'.cell? ⟨w.heap.size, 2, none⟩ = some (.slice B r.den.length d)) := ⟨fun w' h => ⟨pw_cell_below h x0, pw_cell_below h x1, pw_cell_below h x2⟩⟩
  go_wp2_with fail
  go_region_held3 (fun w' => w'.cell? ⟨w.heap.size, 0, none⟩ = some (.bool r.neg) ∧ w'.cell? ⟨w.heap.size, 1, none⟩ = some (.slice A r.num.length c) ∧ w'.cell? ⟨w.heap.size, 2, none⟩ = some (.slice B r.den.length d))
    ((first | exact H6.out _ (below_drew hBW) | exact H6.out _ hBp | exact H6.out _ hBq | exact store3k (H6.out _ hBq)))
    (first | (go_at_call_of 85 (Value.slice A r.num.length c); (with_reducible refine (copyX A c r.num _ (C1.out _ (below_drew hBW)) (by omega)).mono ?_); rintro e wp ⟨Ap, cp, rfl, hop, hbp⟩; have hBp := heldB2 (below_drew hBW) hbp) | (go_at_call_of 85 (Value.slice B r.den.length d); (with_reducible refine (copyX B d r.den _ (C2.out _ hBp) (by omega)).mono ?_); rintro e wq ⟨Aq, cq, rfl, hoq, hbq⟩; have hBq := heldB2 hBp hbq; obtain ⟨⟨z0, z1, z2⟩, u0, u1, u2⟩ := bfacts (HZ.out.below hBq HZ.out.lt)))
  have hlt := HZ.out.lt
  have hM := two_rows (base := w.heap.size) r.neg hop hoq hbq (Nat.le_refl _) (Nat.le_trans HB0.out.size (Nat.le_refl _)) (Nat.le_trans HB0.out.size hBp.size)
  have HM := Aside0.mk hM
  clear x0 x1 x2 hM
  go_wp2
  refine bodyPost_ret (ret_rat Try.results83 _ _ (w.heap.size + 1) _ _ _ rfl (store3 (HZ.out.below hBq HZ.out.lt))) rfl ?_
  have e : W.drew.heap.size = W.heap.size := rfl
  have hs := hBp.size
  exact ⟨_, _, _, _, rfl, Kd.M_mono _ (fun _ _ => trivial) (far3 HM.out (fun k hk => by rcases hk with hk | hk <;> omega)), below3 (HB0.out.trans (hBq.mono HB0.out.size)) (by omega)⟩
end Go.Proofs.Ytlpckbleokoiiaa.Hand
