/- The law FnExactRatCmp: true at all pairs of rationals. Conditions: both can be read and their elements are limbs. -/
import Derived.Test.YtjmgemmieedkiaaHlrcut
import Derived.Test.YtjmgemmieedkiaaHcmp
import Derived.Test.YtjmgemmieedkiaaN7
import Derived.Deep.RegionHeld3
import Derived.Deep.DeepCutAuto
set_option linter.unusedVariables false
set_option linter.unusedSimpArgs false
namespace Go.Proofs.Ytjmgemmieedkiaa.Hand
open Go.RowKit Go.Proofs.YtjmgemmieedkiaaW.PrintWords Go.Proofs.YtjmgemmieedkiaaW.PrintLast Go.Proofs.YtjmgemmieedkiaaW.PrintMore

set_option maxHeartbeats 4000000 in
set_option maxRecDepth 100000 in
theorem lawRatCmp (ra rb : Rt) (A B : Option Addr) (c d : Nat) (A' B' : Option Addr) (c' d' : Nat) (w : World) (hra : ratK.K w ra [.bool ra.neg, .slice A ra.num.length c, .slice B ra.den.length d]) (hrb : ratK.K w rb [.bool rb.neg, .slice A' rb.num.length c', .slice B' rb.den.length d']) (hla : LimbsR ra) (hlb : LimbsR rb) :
    Calls Try.prog 11 #[.agg #[.bool ra.neg, .slice A ra.num.length c, .slice B ra.den.length d], .agg #[.bool rb.neg, .slice A' rb.num.length c', .slice B' rb.den.length d']] w fun e w' => e = .returned (.bool true) ∧ Below w.heap.size w w' := by
  have hu := Try.underlying31
  have hu' := Try.underlying34
  have HRA := Aside0.mk hra
  have HRB := Aside0.mk hrb
  have hl1 : ra.num.length ≤ 9223372036854775807 := by obtain ⟨_, _, _, _, _, _, h, _, _⟩ := ratK_form hra; exact h.2.1
  have hl2 : ra.den.length ≤ 9223372036854775807 := by obtain ⟨_, _, _, _, _, _, _, _, h⟩ := ratK_form hra; exact h.2.1
  have hl3 : rb.num.length ≤ 9223372036854775807 := by obtain ⟨_, _, _, _, _, _, h, _, _⟩ := ratK_form hrb; exact h.2.1
  have hl4 : rb.den.length ≤ 9223372036854775807 := by obtain ⟨_, _, _, _, _, _, _, _, h⟩ := ratK_form hrb; exact h.2.1
  clear hra hrb
  have hpb := below_alloc (below_alloc (Below.refl w.heap.size w) (.cells #[.bool ra.neg, .slice A ra.num.length c, .slice B ra.den.length d] 31)) (.cells #[.bool rb.neg, .slice A' rb.num.length c', .slice B' rb.den.length d'] 31)
  have HPB := Aside0.mk hpb
  clear hpb
  by_cases hs0 : ra.num.length + ra.den.length ≤ 1048576
  rotate_left
  · go_enter Try.func11, Try.ntmps11
    go_wp2_with fail
    refine (szQ_no _ _ _ _ _ _ _ _ _ hl1 hl2 (by omega) (by omega) (by omega)).mono ?_
    rintro e w1 ⟨rfl, hb⟩
    have HB1 := Aside0.mk (HPB.out.trans (hb.mono HPB.out.size))
    clear hb
    go_wp2
    go_ret
    exact ⟨rfl, HB1.out⟩
  obtain ⟨lf1, hlf1⟩ : ∃ lf : Int, lf = 1048576 - (ra.num.length : Int) - (ra.den.length : Int) := ⟨_, rfl⟩
  have HLF1 := Aside0.mk hlf1
  have hlf10 : decide (lf1 < 0) = false := decide_eq_false (by omega)
  by_cases hs : ra.num.length + ra.den.length + (rb.num.length + rb.den.length) ≤ 1048576
  rotate_left
  · have hlf1b : 0 ≤ lf1 ∧ lf1 ≤ 1048576 ∧ lf1 < (rb.num.length : Int) + rb.den.length := by omega
    clear hlf1
    go_enter Try.func11, Try.ntmps11
    go_wp2_with fail
    refine (szQ_ok _ _ _ _ _ _ _ 1048576 lf1 _ (by omega) (by omega) HLF1.out).mono ?_
    rintro e w1 ⟨rfl, hb⟩
    have HB1 := Aside0.mk (HPB.out.trans (hb.mono HPB.out.size))
    have HXB : Blk w1 (w.heap.size + 1) 31 #[.bool rb.neg, .slice A' rb.num.length c', .slice B' rb.den.length d'] := by
      have h := Blk.new (w.alloc (.cells #[.bool ra.neg, .slice A ra.num.length c, .slice B ra.den.length d] 31)) 31 #[.bool rb.neg, .slice A' rb.num.length c', .slice B' rb.den.length d']
      have h2 := h.below hb h.lt
      rw [show (w.alloc (.cells #[.bool ra.neg, .slice A ra.num.length c, .slice B ra.den.length d] 31)).heap.size = w.heap.size + 1 from by simp] at h2
      exact h2
    obtain ⟨bb0, bb1, bb2⟩ := box3 HXB
    clear hb
    go_wp2_with fail
    refine (szQ_no _ _ _ _ _ _ _ lf1 _ hl3 hl4 (by omega) (by omega) (by omega)).mono ?_
    rintro e w2 ⟨rfl, hb⟩
    have HB2 := Aside0.mk (HB1.out.trans (hb.mono HB1.out.size))
    clear hb
    go_wp2
    go_ret
    exact ⟨rfl, HB2.out⟩
  clear hl1 hl2 hl3 hl4 HPB
  obtain ⟨qq, hqq⟩ := cmpIs_ex hla hlb
  have hqne : (qq != qq) = false := by simp
  have HQ := Aside0.mk hqq
  have HLA := Aside0.mk hla
  have HLB := Aside0.mk hlb
  have HSS := Aside0.mk hs
  have HSA : Aside0 (ra.num.length + ra.den.length ≤ 1099511627776) := ⟨by omega⟩
  have HSB : Aside0 (rb.num.length + rb.den.length ≤ 1099511627776) := ⟨by omega⟩
  obtain ⟨lf2, hlf2⟩ : ∃ lf : Int, lf = lf1 - (rb.num.length : Int) - (rb.den.length : Int) := ⟨_, rfl⟩
  have HLF2 := Aside0.mk hlf2
  have hlf20 : decide (lf2 < 0) = false := decide_eq_false (by omega)
  have hlf1b : 0 ≤ lf1 ∧ lf1 ≤ 1048576 ∧ (rb.num.length : Int) + rb.den.length ≤ lf1 := by omega
  clear hqq hla hlb hlf1 hlf2
  go_enter Try.func11, Try.ntmps11
  have HB0 := Aside0.mk (Below.refl w.heap.size w)
  go_wp2_with fail
  have ka := (Blk.new w 31 #[.bool ra.neg, .slice A ra.num.length c, .slice B ra.den.length d]).alloc (.cells #[.bool rb.neg, .slice A' rb.num.length c', .slice B' rb.den.length d'] 31)
  have kb := Blk.new (w.alloc (.cells #[.bool ra.neg, .slice A ra.num.length c, .slice B ra.den.length d] 31)) 31 #[.bool rb.neg, .slice A' rb.num.length c', .slice B' rb.den.length d']
  rw [show (w.alloc (.cells #[.bool ra.neg, .slice A ra.num.length c, .slice B ra.den.length d] 31)).heap.size = w.heap.size + 1 from by simp] at kb
  have hb := below_alloc (below_alloc (Below.refl w.heap.size w) (.cells #[.bool ra.neg, .slice A ra.num.length c, .slice B ra.den.length d] 31)) (.cells #[.bool rb.neg, .slice A' rb.num.length c', .slice B' rb.den.length d'] 31)
  generalize ((w.alloc (.cells #[.bool ra.neg, .slice A ra.num.length c, .slice B ra.den.length d] 31)).alloc (.cells #[.bool rb.neg, .slice A' rb.num.length c', .slice B' rb.den.length d'] 31)) = w1 at hb ka kb ⊢
  have HB1 := Aside0.mk hb
  have S1 := hb.size
  have HXa1 := Aside0.mk ka
  have La := ka.lt
  have HXb1 := Aside0.mk kb
  have Lb := kb.lt
  clear hb ka kb
  refine (szQ_ok ra.neg A B ra.num.length c ra.den.length d 1048576 lf1 _ (by omega) (by omega) HLF1.out).mono ?_
  rintro e w2 ⟨rfl, hb⟩
  have HB2 := Aside0.mk (HB1.out.trans (hb.mono HB1.out.size))
  have S2 := hb.size
  have HXa2 := Aside0.mk (HXa1.out.below hb HXa1.out.lt)
  have HXb2 := Aside0.mk (HXb1.out.below hb HXb1.out.lt)
  clear HXa1 HXb1
  clear hb HB1
  obtain ⟨ba0, ba1, ba2⟩ := box3 HXa2.out
  obtain ⟨bb0, bb1, bb2⟩ := box3 HXb2.out
  go_wp2_with fail
  refine (szQ_ok rb.neg A' B' rb.num.length c' rb.den.length d' lf1 lf2 _ (by omega) (by omega) HLF2.out).mono ?_
  rintro e w3 ⟨rfl, hb⟩
  have HB3 := Aside0.mk (HB2.out.trans (hb.mono HB2.out.size))
  have S3 := hb.size
  have HXa3 := Aside0.mk (HXa2.out.below hb HXa2.out.lt)
  have HXb3 := Aside0.mk (HXb2.out.below hb HXb2.out.lt)
  clear HXa2 HXb2
  clear hb HB2
  clear ba0 ba1 ba2 bb0 bb1 bb2
  obtain ⟨ba0, ba1, ba2⟩ := box3 HXa3.out
  obtain ⟨bb0, bb1, bb2⟩ := box3 HXb3.out
  go_wp2_with fail
  have hBW := Below.refl w3.heap.size w3
  have H6 : Aside0 (∀ w', Below w3.heap.size w3 w' → w'.cell? ⟨w.heap.size, 0, none⟩ = some (.bool ra.neg) ∧ w'.cell? ⟨w.heap.size, 1, none⟩ = some (.slice A ra.num.length c) ∧ w'.cell? ⟨w.heap.size, 2, none⟩ = some (.slice B ra.den.length d) ∧ w'.cell? ⟨w.heap.size + 1, 0, none⟩ = some (.bool rb.neg) ∧ w'.cell? ⟨w.heap.size + 1, 1, none⟩ = some (.slice A' rb.num.length c') ∧ w'.cell? ⟨w.heap.size + 1, 2, none⟩ = some (.slice B' rb.den.length d')) := ⟨fun w' h => ⟨pw_cell_below h ba0, pw_cell_below h ba1, pw_cell_below h ba2, pw_cell_below h bb0, pw_cell_below h bb1, pw_cell_below h bb2⟩⟩
  have HA6 : Aside0 (∀ w', Below w3.heap.size w3 w' → ratK.K w' ra [.bool ra.neg, .slice A ra.num.length c, .slice B ra.den.length d]) := ⟨fun w' h => ratK.K_below h (ratK.K_below HB3.out HRA.out)⟩
  have HQ6 : Aside0 (∀ w', Below w3.heap.size w3 w' → ratK.K w' rb [.bool rb.neg, .slice A' rb.num.length c', .slice B' rb.den.length d']) := ⟨fun w' h => ratK.K_below h (ratK.K_below HB3.out HRB.out)⟩
  go_region_held3 (fun w' => w'.cell? ⟨w.heap.size, 0, none⟩ = some (.bool ra.neg) ∧ w'.cell? ⟨w.heap.size, 1, none⟩ = some (.slice A ra.num.length c) ∧ w'.cell? ⟨w.heap.size, 2, none⟩ = some (.slice B ra.den.length d) ∧ w'.cell? ⟨w.heap.size + 1, 0, none⟩ = some (.bool rb.neg) ∧ w'.cell? ⟨w.heap.size + 1, 1, none⟩ = some (.slice A' rb.num.length c') ∧ w'.cell? ⟨w.heap.size + 1, 2, none⟩ = some (.slice B' rb.den.length d'))
    ((first | exact H6.out _ (below_drew hBW) | exact H6.out _ hBa | exact H6.out _ hBb | exact H6.out _ hBm))
    (first | (go_at_call_of 27 (Value.agg #[.bool ra.neg, .slice A ra.num.length c, .slice B ra.den.length d]); (with_reducible refine (toQ_K ra _ (HA6.out _ (below_drew hBW)) HSA.out).mono ?_); rintro e wa ⟨Aa, ca, Ba, da, rfl, hoa, hba⟩; have hBa := heldB2 (below_drew hBW) hba) | (go_at_call_of 27 (Value.agg #[.bool rb.neg, .slice A' rb.num.length c', .slice B' rb.den.length d']); (with_reducible refine (toQ_K rb _ (HQ6.out _ hBa) HSB.out).mono ?_); rintro e wb ⟨Ab, cb, Bb, db, rfl, hob, hbb⟩; have hBb := heldB2 hBa hbb) | (go_at_call 38; (with_reducible refine (spec_RatCmp_K ra rb qq _ (ratK.K_below hbb (ratK.K_of_M hoa)) (ratK.K_of_M hob) HLA.out HLB.out HSS.out HQ.out).mono ?_); rintro e wm ⟨rfl, hbm⟩; have hBm := heldB2 hBb hbm))
  obtain ⟨w4, hww⟩ : ∃ v, v = wm := ⟨_, rfl⟩
  rw [← hww] at hBm ⊢
  clear hww
  have hb := hBm
  clear hBm hbm hba hbb hBa hBb hoa hob hBW H6 HA6 HQ6
  have HB4 := Aside0.mk (HB3.out.trans (hb.mono HB3.out.size))
  have S4 := hb.size
  have HXa4 := Aside0.mk (HXa3.out.below hb HXa3.out.lt)
  have HXb4 := Aside0.mk (HXb3.out.below hb HXb3.out.lt)
  clear HXa3 HXb3
  clear hb HB3
  clear ba0 ba1 ba2 bb0 bb1 bb2
  obtain ⟨ba0, ba1, ba2⟩ := box3 HXa4.out
  obtain ⟨bb0, bb1, bb2⟩ := box3 HXb4.out
  go_wp2_with fail
  refine (toQ_K ra _ (Kd.K_below _ HB4.out HRA.out) HSA.out).mono ?_
  rintro e w5 ⟨A1, c1, B1, d1, rfl, ho, hb⟩
  have HN0 := Aside0.mk (fresh_M (w0 := w) ho HB4.out.size)
  clear ho
  have HB5 := Aside0.mk (HB4.out.trans (hb.mono HB4.out.size))
  have S5 := hb.size
  have HXa5 := Aside0.mk (HXa4.out.below hb HXa4.out.lt)
  have HXb5 := Aside0.mk (HXb4.out.below hb HXb4.out.lt)
  clear HXa4 HXb4
  clear hb HB4
  have HX5 := HN0
  clear HN0
  clear ba0 ba1 ba2 bb0 bb1 bb2
  obtain ⟨ba0, ba1, ba2⟩ := box3 HXa5.out
  obtain ⟨bb0, bb1, bb2⟩ := box3 HXb5.out
  go_upto_region 10 with fail
  have hb := below_alloc (Below.refl w5.heap.size w5) (.cells #[.bool ra.neg, .slice A1 ra.num.length c1, .slice B1 ra.den.length d1] 34)
  have hk := Blk.new w5 34 #[.bool ra.neg, .slice A1 ra.num.length c1, .slice B1 ra.den.length d1]
  generalize w5.alloc (.cells #[.bool ra.neg, .slice A1 ra.num.length c1, .slice B1 ra.den.length d1] 34) = w6 at hb hk ⊢
  have HB6 := Aside0.mk (HB5.out.trans (hb.mono HB5.out.size))
  have S6 := hb.size
  have HX6 := Aside0.mk (Kd.M_below HX5.out hb)
  clear HX5
  have HXa6 := Aside0.mk (HXa5.out.below hb HXa5.out.lt)
  have HXb6 := Aside0.mk (HXb5.out.below hb HXb5.out.lt)
  clear HXa5 HXb5
  have HXx6 := Aside0.mk hk
  have Lx := hk.lt
  clear hb hk HB5
  clear ba0 ba1 ba2 bb0 bb1 bb2
  obtain ⟨ba0, ba1, ba2⟩ := box3 HXa6.out
  obtain ⟨bb0, bb1, bb2⟩ := box3 HXb6.out
  obtain ⟨bx0, bx1, bx2⟩ := box3 HXx6.out
  go_wp2_with fail
  refine (toQ_K rb _ (Kd.K_below _ HB6.out HRB.out) HSB.out).mono ?_
  rintro e w7 ⟨A2, c2, B2, d2, rfl, ho, hb⟩
  have HN0 := Aside0.mk (fresh_M (w0 := w) ho HB6.out.size)
  clear ho
  have HB7 := Aside0.mk (HB6.out.trans (hb.mono HB6.out.size))
  have S7 := hb.size
  have HX7 := Aside0.mk (Kd.M_below HX6.out hb)
  clear HX6
  have HXa7 := Aside0.mk (HXa6.out.below hb HXa6.out.lt)
  have HXb7 := Aside0.mk (HXb6.out.below hb HXb6.out.lt)
  have HXx7 := Aside0.mk (HXx6.out.below hb HXx6.out.lt)
  clear HXa6 HXb6 HXx6
  clear hb HB6
  have HY7 := HN0
  clear HN0
  clear ba0 ba1 ba2 bb0 bb1 bb2 bx0 bx1 bx2
  obtain ⟨ba0, ba1, ba2⟩ := box3 HXa7.out
  obtain ⟨bb0, bb1, bb2⟩ := box3 HXb7.out
  obtain ⟨bx0, bx1, bx2⟩ := box3 HXx7.out
  go_upto_region 11 with fail
  have hb := below_alloc (Below.refl w7.heap.size w7) (.cells #[.bool rb.neg, .slice A2 rb.num.length c2, .slice B2 rb.den.length d2] 34)
  have hk := Blk.new w7 34 #[.bool rb.neg, .slice A2 rb.num.length c2, .slice B2 rb.den.length d2]
  generalize w7.alloc (.cells #[.bool rb.neg, .slice A2 rb.num.length c2, .slice B2 rb.den.length d2] 34) = w8 at hb hk ⊢
  have HB8 := Aside0.mk (HB7.out.trans (hb.mono HB7.out.size))
  have S8 := hb.size
  have HX8 := Aside0.mk (Kd.M_below HX7.out hb)
  have HY8 := Aside0.mk (Kd.M_below HY7.out hb)
  clear HX7 HY7
  have HXa8 := Aside0.mk (HXa7.out.below hb HXa7.out.lt)
  have HXb8 := Aside0.mk (HXb7.out.below hb HXb7.out.lt)
  have HXx8 := Aside0.mk (HXx7.out.below hb HXx7.out.lt)
  clear HXa7 HXb7 HXx7
  have HXy8 := Aside0.mk hk
  have Ly := hk.lt
  clear hb hk HB7
  clear ba0 ba1 ba2 bb0 bb1 bb2 bx0 bx1 bx2
  obtain ⟨ba0, ba1, ba2⟩ := box3 HXa8.out
  obtain ⟨bb0, bb1, bb2⟩ := box3 HXb8.out
  obtain ⟨bx0, bx1, bx2⟩ := box3 HXx8.out
  obtain ⟨by0, by1, by2⟩ := box3 HXy8.out
  go_wp2_with fail
  refine (RatCmp_K ra rb qq _ (Kd.K_of_M _ HX8.out) (Kd.K_of_M _ HY8.out) HLA.out HLB.out HSS.out HQ.out).mono ?_
  rintro e w9 ⟨rfl, hb⟩
  have HB9 := Aside0.mk (HB8.out.trans (hb.mono HB8.out.size))
  have S9 := hb.size
  have HX9 := Aside0.mk (Kd.M_below HX8.out hb)
  have HY9 := Aside0.mk (Kd.M_below HY8.out hb)
  clear HX8 HY8
  have HXa9 := Aside0.mk (HXa8.out.below hb HXa8.out.lt)
  have HXb9 := Aside0.mk (HXb8.out.below hb HXb8.out.lt)
  have HXx9 := Aside0.mk (HXx8.out.below hb HXx8.out.lt)
  have HXy9 := Aside0.mk (HXy8.out.below hb HXy8.out.lt)
  clear HXa8 HXb8 HXx8 HXy8
  clear hb HB8
  clear ba0 ba1 ba2 bb0 bb1 bb2 bx0 bx1 bx2 by0 by1 by2
  obtain ⟨ba0, ba1, ba2⟩ := box3 HXa9.out
  obtain ⟨bb0, bb1, bb2⟩ := box3 HXb9.out
  obtain ⟨bx0, bx1, bx2⟩ := box3 HXx9.out
  obtain ⟨by0, by1, by2⟩ := box3 HXy9.out
  go_wp2_with fail
  have hBW := Below.refl w9.heap.size w9
  have H6 : Aside0 (∀ w', Below w9.heap.size w9 w' → Below w9.heap.size w9 w' ∧ w'.cell? ⟨w.heap.size, 0, none⟩ = some (.bool ra.neg) ∧ w'.cell? ⟨w.heap.size, 1, none⟩ = some (.slice A ra.num.length c) ∧ w'.cell? ⟨w.heap.size, 2, none⟩ = some (.slice B ra.den.length d) ∧ w'.cell? ⟨w.heap.size + 1, 0, none⟩ = some (.bool rb.neg) ∧ w'.cell? ⟨w.heap.size + 1, 1, none⟩ = some (.slice A' rb.num.length c') ∧ w'.cell? ⟨w.heap.size + 1, 2, none⟩ = some (.slice B' rb.den.length d') ∧ w'.cell? ⟨w5.heap.size, 0, none⟩ = some (.bool ra.neg) ∧ w'.cell? ⟨w5.heap.size, 1, none⟩ = some (.slice A1 ra.num.length c1) ∧ w'.cell? ⟨w5.heap.size, 2, none⟩ = some (.slice B1 ra.den.length d1) ∧ w'.cell? ⟨w7.heap.size, 0, none⟩ = some (.bool rb.neg) ∧ w'.cell? ⟨w7.heap.size, 1, none⟩ = some (.slice A2 rb.num.length c2) ∧ w'.cell? ⟨w7.heap.size, 2, none⟩ = some (.slice B2 rb.den.length d2)) := ⟨fun w' h => ⟨h, pw_cell_below h ba0, pw_cell_below h ba1, pw_cell_below h ba2, pw_cell_below h bb0, pw_cell_below h bb1, pw_cell_below h bb2, pw_cell_below h bx0, pw_cell_below h bx1, pw_cell_below h bx2, pw_cell_below h by0, pw_cell_below h by1, pw_cell_below h by2⟩⟩
  have HA6 : Aside0 (∀ w', Below w9.heap.size w9 w' → ratK.K w' ra _) := ⟨fun w' h => ratK.K_below h (ratK.K_below HB9.out HRA.out)⟩
  have HQ6 : Aside0 (∀ w', Below w9.heap.size w9 w' → ratK.K w' ra _) := ⟨fun w' h => ratK.K_below h (ratK.K_of_M HX9.out)⟩
  go_region_held3 (fun w' => Below w9.heap.size w9 w' ∧ w'.cell? ⟨w.heap.size, 0, none⟩ = some (.bool ra.neg) ∧ w'.cell? ⟨w.heap.size, 1, none⟩ = some (.slice A ra.num.length c) ∧ w'.cell? ⟨w.heap.size, 2, none⟩ = some (.slice B ra.den.length d) ∧ w'.cell? ⟨w.heap.size + 1, 0, none⟩ = some (.bool rb.neg) ∧ w'.cell? ⟨w.heap.size + 1, 1, none⟩ = some (.slice A' rb.num.length c') ∧ w'.cell? ⟨w.heap.size + 1, 2, none⟩ = some (.slice B' rb.den.length d') ∧ w'.cell? ⟨w5.heap.size, 0, none⟩ = some (.bool ra.neg) ∧ w'.cell? ⟨w5.heap.size, 1, none⟩ = some (.slice A1 ra.num.length c1) ∧ w'.cell? ⟨w5.heap.size, 2, none⟩ = some (.slice B1 ra.den.length d1) ∧ w'.cell? ⟨w7.heap.size, 0, none⟩ = some (.bool rb.neg) ∧ w'.cell? ⟨w7.heap.size, 1, none⟩ = some (.slice A2 rb.num.length c2) ∧ w'.cell? ⟨w7.heap.size, 2, none⟩ = some (.slice B2 rb.den.length d2))
    ((refine H6.out _ ?_; first | assumption | exact below_drew hBW | (apply heldB; assumption; assumption)))
    (first | (go_at_call 27; (with_reducible refine (toQ_K ra _ (HA6.out _ ?_) HSA.out).mono ?_); (apply And.left; assumption); rintro e wa ⟨Aa, ca, Ba, da, rfl, hoa, hba⟩; have hBa : Below w9.heap.size w9 wa := (by (apply heldB; assumption; assumption))) | (go_at_call 29; (with_reducible refine (eqQ_K ra _ (HQ6.out _ ?_) (ratK.K_of_M hoa)).mono ?_); (apply And.left; assumption); rintro e wb ⟨rfl, hbb⟩; have hBb : Below w9.heap.size w9 wb := (by (apply heldB; assumption; assumption))))
  have hb := hBb
  clear hoa hba hbb hBa hBW H6 HA6 HQ6
  obtain ⟨w10, hww⟩ : ∃ v, v = wb := ⟨_, rfl⟩
  rw [← hww] at hBb ⊢
  clear hww
  have hb := hBb
  clear hBb
  have HB10 := Aside0.mk (HB9.out.trans (hb.mono HB9.out.size))
  have S10 := hb.size
  have HX10 := Aside0.mk (Kd.M_below HX9.out hb)
  have HY10 := Aside0.mk (Kd.M_below HY9.out hb)
  clear HX9 HY9
  have HXa10 := Aside0.mk (HXa9.out.below hb HXa9.out.lt)
  have HXb10 := Aside0.mk (HXb9.out.below hb HXb9.out.lt)
  have HXx10 := Aside0.mk (HXx9.out.below hb HXx9.out.lt)
  have HXy10 := Aside0.mk (HXy9.out.below hb HXy9.out.lt)
  clear HXa9 HXb9 HXx9 HXy9
  clear hb HB9
  clear ba0 ba1 ba2 bb0 bb1 bb2 bx0 bx1 bx2 by0 by1 by2
  obtain ⟨ba0, ba1, ba2⟩ := box3 HXa10.out
  obtain ⟨bb0, bb1, bb2⟩ := box3 HXb10.out
  obtain ⟨bx0, bx1, bx2⟩ := box3 HXx10.out
  obtain ⟨by0, by1, by2⟩ := box3 HXy10.out
  go_wp2_with fail
  have hBW := Below.refl w10.heap.size w10
  have H6 : Aside0 (∀ w', Below w10.heap.size w10 w' → Below w10.heap.size w10 w' ∧ w'.cell? ⟨w.heap.size, 0, none⟩ = some (.bool ra.neg) ∧ w'.cell? ⟨w.heap.size, 1, none⟩ = some (.slice A ra.num.length c) ∧ w'.cell? ⟨w.heap.size, 2, none⟩ = some (.slice B ra.den.length d) ∧ w'.cell? ⟨w.heap.size + 1, 0, none⟩ = some (.bool rb.neg) ∧ w'.cell? ⟨w.heap.size + 1, 1, none⟩ = some (.slice A' rb.num.length c') ∧ w'.cell? ⟨w.heap.size + 1, 2, none⟩ = some (.slice B' rb.den.length d') ∧ w'.cell? ⟨w5.heap.size, 0, none⟩ = some (.bool ra.neg) ∧ w'.cell? ⟨w5.heap.size, 1, none⟩ = some (.slice A1 ra.num.length c1) ∧ w'.cell? ⟨w5.heap.size, 2, none⟩ = some (.slice B1 ra.den.length d1) ∧ w'.cell? ⟨w7.heap.size, 0, none⟩ = some (.bool rb.neg) ∧ w'.cell? ⟨w7.heap.size, 1, none⟩ = some (.slice A2 rb.num.length c2) ∧ w'.cell? ⟨w7.heap.size, 2, none⟩ = some (.slice B2 rb.den.length d2)) := ⟨fun w' h => ⟨h, pw_cell_below h ba0, pw_cell_below h ba1, pw_cell_below h ba2, pw_cell_below h bb0, pw_cell_below h bb1, pw_cell_below h bb2, pw_cell_below h bx0, pw_cell_below h bx1, pw_cell_below h bx2, pw_cell_below h by0, pw_cell_below h by1, pw_cell_below h by2⟩⟩
  have HA6 : Aside0 (∀ w', Below w10.heap.size w10 w' → ratK.K w' rb _) := ⟨fun w' h => ratK.K_below h (ratK.K_below HB10.out HRB.out)⟩
  have HQ6 : Aside0 (∀ w', Below w10.heap.size w10 w' → ratK.K w' rb _) := ⟨fun w' h => ratK.K_below h (ratK.K_of_M HY10.out)⟩
  go_region_held3 (fun w' => Below w10.heap.size w10 w' ∧ w'.cell? ⟨w.heap.size, 0, none⟩ = some (.bool ra.neg) ∧ w'.cell? ⟨w.heap.size, 1, none⟩ = some (.slice A ra.num.length c) ∧ w'.cell? ⟨w.heap.size, 2, none⟩ = some (.slice B ra.den.length d) ∧ w'.cell? ⟨w.heap.size + 1, 0, none⟩ = some (.bool rb.neg) ∧ w'.cell? ⟨w.heap.size + 1, 1, none⟩ = some (.slice A' rb.num.length c') ∧ w'.cell? ⟨w.heap.size + 1, 2, none⟩ = some (.slice B' rb.den.length d') ∧ w'.cell? ⟨w5.heap.size, 0, none⟩ = some (.bool ra.neg) ∧ w'.cell? ⟨w5.heap.size, 1, none⟩ = some (.slice A1 ra.num.length c1) ∧ w'.cell? ⟨w5.heap.size, 2, none⟩ = some (.slice B1 ra.den.length d1) ∧ w'.cell? ⟨w7.heap.size, 0, none⟩ = some (.bool rb.neg) ∧ w'.cell? ⟨w7.heap.size, 1, none⟩ = some (.slice A2 rb.num.length c2) ∧ w'.cell? ⟨w7.heap.size, 2, none⟩ = some (.slice B2 rb.den.length d2))
    ((refine H6.out _ ?_; first | assumption | exact below_drew hBW | (apply heldB; assumption; assumption)))
    (first | (go_at_call 27; (with_reducible refine (toQ_K rb _ (HA6.out _ ?_) HSB.out).mono ?_); (apply And.left; assumption); rintro e wa ⟨Aa, ca, Ba, da, rfl, hoa, hba⟩; have hBa : Below w10.heap.size w10 wa := (by (apply heldB; assumption; assumption))) | (go_at_call 29; (with_reducible refine (eqQ_K rb _ (HQ6.out _ ?_) (ratK.K_of_M hoa)).mono ?_); (apply And.left; assumption); rintro e wb ⟨rfl, hbb⟩; have hBb : Below w10.heap.size w10 wb := (by (apply heldB; assumption; assumption))))
  have hb := hBb
  clear hoa hba hbb hBa hBW H6 HA6 HQ6
  obtain ⟨w11, hww⟩ : ∃ v, v = wb := ⟨_, rfl⟩
  rw [← hww] at hBb ⊢
  clear hww
  have hb := hBb
  clear hBb
  have HB11 := Aside0.mk (HB10.out.trans (hb.mono HB10.out.size))
  have S11 := hb.size
  have HX11 := Aside0.mk (Kd.M_below HX10.out hb)
  have HY11 := Aside0.mk (Kd.M_below HY10.out hb)
  clear HX10 HY10
  have HXa11 := Aside0.mk (HXa10.out.below hb HXa10.out.lt)
  have HXb11 := Aside0.mk (HXb10.out.below hb HXb10.out.lt)
  have HXx11 := Aside0.mk (HXx10.out.below hb HXx10.out.lt)
  have HXy11 := Aside0.mk (HXy10.out.below hb HXy10.out.lt)
  clear HXa10 HXb10 HXx10 HXy10
  clear hb HB10
  go_wp2
  go_ret
  exact ⟨rfl, HB11.out⟩
end Go.Proofs.Ytjmgemmieedkiaa.Hand
