/- The law FnExactRatText: true at all rationals. Conditions: the rational can be read and its elements are limbs. -/
import Derived.Test.YtjmgemmieedkiaaZHlrat
import Derived.Test.YtjmgemmieedkiaaZHrtext2
import Derived.Test.YtjmgemmieedkiaaZN7
import Derived.Deep.RegionHeld3
set_option linter.unusedVariables false
set_option linter.unusedSimpArgs false
namespace Go.Proofs.Ytjmgemmieedkiaa.Hand
open Go.RowKit Go.Proofs.YtjmgemmieedkiaaW.PrintWords Go.Proofs.YtjmgemmieedkiaaW.PrintLast Go.Proofs.YtjmgemmieedkiaaW.PrintMore
set_option maxHeartbeats 4000000 in
set_option maxRecDepth 100000 in
theorem lawRatText (r : Rt) (A B : Option Addr) (c d : Nat) (w : World) (hr : ratK.K w r [.bool r.neg, .slice A r.num.length c, .slice B r.den.length d]) (hl : LimbsR r) :
    Calls Try.prog 8 #[.agg #[.bool r.neg, .slice A r.num.length c, .slice B r.den.length d]] w fun e w' => e = .returned (.bool true) ∧ Below w.heap.size w w' := by
  have hu := Try.underlying31
  have hu' := Try.underlying34
  have HR := Aside0.mk hr
  have hl1 : r.num.length ≤ 9223372036854775807 := by obtain ⟨_, _, _, _, _, _, h, _, _⟩ := ratK_form hr; exact h.2.1
  have hl2 : r.den.length ≤ 9223372036854775807 := by obtain ⟨_, _, _, _, _, _, _, _, h⟩ := ratK_form hr; exact h.2.1
  clear hr
  by_cases hs : r.num.length + r.den.length ≤ 1048576
  rotate_left
  · go_enter Try.func8, Try.ntmps8
    go_wp2_with fail
    refine (szQ_no _ _ _ _ _ _ _ _ _ hl1 hl2 (by omega) (by omega) (by omega)).mono ?_
    rintro e w1 ⟨rfl, hb⟩
    have HB1 := Aside0.mk ((below_alloc (Below.refl w.heap.size w) _).trans (hb.mono (below_alloc (Below.refl w.heap.size w) _).size))
    clear hb
    go_wp2
    go_ret
    exact ⟨rfl, HB1.out⟩
  clear hl1 hl2
  obtain ⟨st, hst⟩ := textIs_ex hl
  have HTX := Aside0.mk hst
  clear hst
  obtain ⟨lf, hlf⟩ : ∃ lf : Int, lf = 1048576 - (r.num.length : Int) - (r.den.length : Int) := ⟨_, rfl⟩
  have HLF := Aside0.mk hlf
  have hlf0 : decide (lf < 0) = false := decide_eq_false (by omega)
  clear hlf
  go_enter Try.func8, Try.ntmps8
  have HB0 := Aside0.mk (Below.refl w.heap.size w)
  go_wp2_with fail
  have ka := Blk.new w 31 #[.bool r.neg, .slice A r.num.length c, .slice B r.den.length d]
  have hb := below_alloc (Below.refl w.heap.size w) (.cells #[.bool r.neg, .slice A r.num.length c, .slice B r.den.length d] 31)
  generalize (w.alloc (.cells #[.bool r.neg, .slice A r.num.length c, .slice B r.den.length d] 31)) = w1 at hb ka ⊢
  have HB1 := Aside0.mk hb
  have S1 := hb.size
  have HXa1 := Aside0.mk ka
  have La := ka.lt
  clear hb ka
  refine (szQ_ok r.neg A B r.num.length c r.den.length d 1048576 lf _ (by omega) (by omega) HLF.out).mono ?_
  rintro e w2 ⟨rfl, hb⟩
  have HB2 := Aside0.mk (HB1.out.trans (hb.mono HB1.out.size))
  have S2 := hb.size
  have HXa2 := Aside0.mk (HXa1.out.below hb HXa1.out.lt)
  clear HXa1
  clear hb HB1
  obtain ⟨ba0, ba1, ba2⟩ := box3 HXa2.out
  go_wp2_with fail
  refine (toQ_K r _ (Kd.K_below _ HB2.out HR.out) (by omega)).mono ?_
  rintro e w3 ⟨A1, c1, B1, d1, rfl, ho, hb⟩
  have HN0 := Aside0.mk (fresh_M (w0 := w) ho HB2.out.size)
  clear ho
  have HB3 := Aside0.mk (HB2.out.trans (hb.mono HB2.out.size))
  have S3 := hb.size
  have HXa3 := Aside0.mk (HXa2.out.below hb HXa2.out.lt)
  clear HXa2
  clear hb HB2
  have HT3 := HN0
  clear HN0
  clear ba0 ba1 ba2
  obtain ⟨ba0, ba1, ba2⟩ := box3 HXa3.out
  go_wp2_with fail
  refine (spec_RatText_K r st _ _ _ _ _ (Kd.K_of_M _ HT3.out) hl (by omega) HTX.out).mono ?_
  rintro e w4 ⟨rfl, hb⟩
  have HB4 := Aside0.mk (HB3.out.trans (hb.mono HB3.out.size))
  have S4 := hb.size
  have HT4 := Aside0.mk (Kd.M_below HT3.out hb)
  clear HT3
  have HXa4 := Aside0.mk (HXa3.out.below hb HXa3.out.lt)
  clear HXa3
  clear hb HB3
  clear HT4
  clear ba0 ba1 ba2
  obtain ⟨ba0, ba1, ba2⟩ := box3 HXa4.out
  go_wp2_with fail
  refine (toQ_K r _ (Kd.K_below _ HB4.out HR.out) (by omega)).mono ?_
  rintro e w5 ⟨A2, c2, B2, d2, rfl, ho, hb⟩
  have HN0 := Aside0.mk (fresh_M (w0 := w) ho HB4.out.size)
  clear ho
  have HB5 := Aside0.mk (HB4.out.trans (hb.mono HB4.out.size))
  have S5 := hb.size
  have HXa5 := Aside0.mk (HXa4.out.below hb HXa4.out.lt)
  clear HXa4
  clear hb HB4
  have HX5 := HN0
  clear HN0
  clear ba0 ba1 ba2
  obtain ⟨ba0, ba1, ba2⟩ := box3 HXa5.out
  go_wp2_with fail
  have hb := below_alloc (Below.refl w5.heap.size w5) (.cells #[.bool r.neg, .slice A2 r.num.length c2, .slice B2 r.den.length d2] 34)
  have hk := Blk.new w5 34 #[.bool r.neg, .slice A2 r.num.length c2, .slice B2 r.den.length d2]
  generalize w5.alloc (.cells #[.bool r.neg, .slice A2 r.num.length c2, .slice B2 r.den.length d2] 34) = w6 at hb hk ⊢
  have HB6 := Aside0.mk (HB5.out.trans (hb.mono HB5.out.size))
  have S6 := hb.size
  have HX6 := Aside0.mk (Kd.M_below HX5.out hb)
  clear HX5
  have HXa6 := Aside0.mk (HXa5.out.below hb HXa5.out.lt)
  clear HXa5
  have HXx6 := Aside0.mk hk
  have Lx := hk.lt
  clear hb hk HB5
  refine (RatText_K r st _ _ _ _ _ (Kd.K_of_M _ HX6.out) hl (by omega) HTX.out).mono ?_
  rintro e w7 ⟨rfl, hb⟩
  have HB7 := Aside0.mk (HB6.out.trans (hb.mono HB6.out.size))
  have S7 := hb.size
  have HX7 := Aside0.mk (Kd.M_below HX6.out hb)
  clear HX6
  have HXa7 := Aside0.mk (HXa6.out.below hb HXa6.out.lt)
  have HXx7 := Aside0.mk (HXx6.out.below hb HXx6.out.lt)
  clear HXa6 HXx6
  clear hb HB6
  clear ba0 ba1 ba2
  obtain ⟨ba0, ba1, ba2⟩ := box3 HXa7.out
  obtain ⟨bx0, bx1, bx2⟩ := box3 HXx7.out
  go_wp2_with fail
  have hBW := Below.refl w7.heap.size w7
  have H6 : Aside0 (∀ w', Below w7.heap.size w7 w' → Below w7.heap.size w7 w' ∧ w'.cell? ⟨w.heap.size, 0, none⟩ = some (.bool r.neg) ∧ w'.cell? ⟨w.heap.size, 1, none⟩ = some (.slice A r.num.length c) ∧ w'.cell? ⟨w.heap.size, 2, none⟩ = some (.slice B r.den.length d) ∧ w'.cell? ⟨w5.heap.size, 0, none⟩ = some (.bool r.neg) ∧ w'.cell? ⟨w5.heap.size, 1, none⟩ = some (.slice A2 r.num.length c2) ∧ w'.cell? ⟨w5.heap.size, 2, none⟩ = some (.slice B2 r.den.length d2)) := ⟨fun w' h => ⟨h, pw_cell_below h ba0, pw_cell_below h ba1, pw_cell_below h ba2, pw_cell_below h bx0, pw_cell_below h bx1, pw_cell_below h bx2⟩⟩
  have HA6 : Aside0 (∀ w', Below w7.heap.size w7 w' → ratK.K w' r _) := ⟨fun w' h => ratK.K_below h (ratK.K_below HB7.out HR.out)⟩
  have HQ6 : Aside0 (∀ w', Below w7.heap.size w7 w' → ratK.K w' r _) := ⟨fun w' h => ratK.K_below h (ratK.K_of_M HX7.out)⟩
  go_region_held3 (fun w' => Below w7.heap.size w7 w' ∧ w'.cell? ⟨w.heap.size, 0, none⟩ = some (.bool r.neg) ∧ w'.cell? ⟨w.heap.size, 1, none⟩ = some (.slice A r.num.length c) ∧ w'.cell? ⟨w.heap.size, 2, none⟩ = some (.slice B r.den.length d) ∧ w'.cell? ⟨w5.heap.size, 0, none⟩ = some (.bool r.neg) ∧ w'.cell? ⟨w5.heap.size, 1, none⟩ = some (.slice A2 r.num.length c2) ∧ w'.cell? ⟨w5.heap.size, 2, none⟩ = some (.slice B2 r.den.length d2))
    ((refine H6.out _ ?_; first | assumption | exact below_drew hBW | (apply heldB; assumption; assumption)))
    (first | (go_at_call 27; (with_reducible refine (toQ_K r _ (HA6.out _ ?_) (by omega)).mono ?_); (apply And.left; assumption); rintro e wa ⟨Aa, ca, Ba, da, rfl, hoa, hba⟩; have hBa : Below w7.heap.size w7 wa := (by (apply heldB; assumption; assumption))) | (go_at_call 29; (with_reducible refine (eqQ_K r _ (HQ6.out _ ?_) (ratK.K_of_M hoa)).mono ?_); (apply And.left; assumption); rintro e wb ⟨rfl, hbb⟩; have hBb : Below w7.heap.size w7 wb := (by (apply heldB; assumption; assumption))))
  have hb := hBb
  clear hoa hba hbb hBa hBW H6 HA6 HQ6
  obtain ⟨w8, hww⟩ : ∃ v, v = wb := ⟨_, rfl⟩
  rw [← hww] at hBb ⊢
  clear hww
  have hb := hBb
  clear hBb
  have HB8 := Aside0.mk (HB7.out.trans (hb.mono HB7.out.size))
  have S8 := hb.size
  have HX8 := Aside0.mk (Kd.M_below HX7.out hb)
  clear HX7
  have HXa8 := Aside0.mk (HXa7.out.below hb HXa7.out.lt)
  have HXx8 := Aside0.mk (HXx7.out.below hb HXx7.out.lt)
  clear HXa7 HXx7
  clear hb HB7
  go_wp2
  go_ret
  exact ⟨rfl, HB8.out⟩
end Go.Proofs.Ytjmgemmieedkiaa.Hand
