/- The law FnExactRatAdd: true at all pairs of rationals. Conditions: both can be read and their elements are limbs. -/
import Derived.Test.YtjmgemmieedkiaaZHlrcut
import Derived.Test.YtjmgemmieedkiaaZHrsums
import Derived.Test.YtjmgemmieedkiaaZN7
import Derived.Deep.RegionHeld3
import Derived.Deep.DeepCutAuto
set_option linter.unusedVariables false
set_option linter.unusedSimpArgs false
namespace Go.Proofs.Ytjmgemmieedkiaa.Hand
open Go.RowKit Go.Proofs.YtjmgemmieedkiaaW.PrintWords Go.Proofs.YtjmgemmieedkiaaW.PrintLast Go.Proofs.YtjmgemmieedkiaaW.PrintMore
set_option maxHeartbeats 4000000 in
set_option maxRecDepth 100000 in
theorem lawRatAdd (ra rb : Rt) (A B : Option Addr) (c d : Nat) (A' B' : Option Addr) (c' d' : Nat) (w : World) (hra : ratK.K w ra [.bool ra.neg, .slice A ra.num.length c, .slice B ra.den.length d]) (hrb : ratK.K w rb [.bool rb.neg, .slice A' rb.num.length c', .slice B' rb.den.length d']) (hla : LimbsR ra) (hlb : LimbsR rb) :
    Calls Try.prog 14 #[.agg #[.bool ra.neg, .slice A ra.num.length c, .slice B ra.den.length d], .agg #[.bool rb.neg, .slice A' rb.num.length c', .slice B' rb.den.length d']] w fun e w' => e = .returned (.bool true) ∧ Below w.heap.size w w' := by
  have hu := Try.underlying31
  have hu' := Try.underlying34
  have HRA := Aside0.mk hra
  have HRB := Aside0.mk hrb
  have hl1 : ra.num.length ≤ 9223372036854775807 := by obtain ⟨_, _, _, _, _, _, h, _, _⟩ := ratK_form hra; exact h.2.1
  have hl2 : ra.den.length ≤ 9223372036854775807 := by obtain ⟨_, _, _, _, _, _, _, _, h⟩ := ratK_form hra; exact h.2.1
  have hl3 : rb.num.length ≤ 9223372036854775807 := by obtain ⟨_, _, _, _, _, _, h, _, _⟩ := ratK_form hrb; exact h.2.1
  have hl4 : rb.den.length ≤ 9223372036854775807 := by obtain ⟨_, _, _, _, _, _, _, _, h⟩ := ratK_form hrb; exact h.2.1
  clear hra hrb
  have hpb := below_alloc (below_alloc (Below.refl w.heap.size w) (.cells #[.bool ra.neg, .slice A ra.num.length c, .slice B ra.den.length d] 31)) (.cells #[.bool rb.neg, .slice A' rb.num.length c', .slice B' rb.den.length d'] 31)
  have HPB := Aside0.mk hpb
  clear hpb
  by_cases hs0 : ra.num.length + ra.den.length ≤ 1048576
  rotate_left
  · go_enter Try.func14, Try.ntmps14
    go_wp2_with fail
    refine (szQ_no _ _ _ _ _ _ _ _ _ hl1 hl2 (by omega) (by omega) (by omega)).mono ?_
    rintro e w1 ⟨rfl, hb⟩
    have HB1 := Aside0.mk (HPB.out.trans (hb.mono HPB.out.size))
    clear hb
    go_wp2
    go_ret
    exact ⟨rfl, HB1.out⟩
  obtain ⟨lf1, hlf1⟩ : ∃ lf : Int, lf = 1048576 - (ra.num.length : Int) - (ra.den.length : Int) := ⟨_, rfl⟩
  have HLF1 := Aside0.mk hlf1
  have hlf10 : decide (lf1 < 0) = false := decide_eq_false (by omega)
  by_cases hs : ra.num.length + ra.den.length + (rb.num.length + rb.den.length) ≤ 1048576
  rotate_left
  · have hlf1b : 0 ≤ lf1 ∧ lf1 ≤ 1048576 ∧ lf1 < (rb.num.length : Int) + rb.den.length := by omega
    clear hlf1
    go_enter Try.func14, Try.ntmps14
    go_wp2_with fail
    refine (szQ_ok _ _ _ _ _ _ _ 1048576 lf1 _ (by omega) (by omega) HLF1.out).mono ?_
    rintro e w1 ⟨rfl, hb⟩
    have HB1 := Aside0.mk (HPB.out.trans (hb.mono HPB.out.size))
    have HXB : Blk w1 (w.heap.size + 1) 31 #[.bool rb.neg, .slice A' rb.num.length c', .slice B' rb.den.length d'] := by
      have h := Blk.new (w.alloc (.cells #[.bool ra.neg, .slice A ra.num.length c, .slice B ra.den.length d] 31)) 31 #[.bool rb.neg, .slice A' rb.num.length c', .slice B' rb.den.length d']
      have h2 := h.below hb h.lt
      rw [show (w.alloc (.cells #[.bool ra.neg, .slice A ra.num.length c, .slice B ra.den.length d] 31)).heap.size = w.heap.size + 1 from by simp] at h2
      exact h2
    obtain ⟨bb0, bb1, bb2⟩ := box3 HXB
    clear hb
    go_wp2_with fail
    refine (szQ_no _ _ _ _ _ _ _ lf1 _ hl3 hl4 (by omega) (by omega) (by omega)).mono ?_
    rintro e w2 ⟨rfl, hb⟩
    have HB2 := Aside0.mk (HB1.out.trans (hb.mono HB1.out.size))
    clear hb
    go_wp2
    go_ret
    exact ⟨rfl, HB2.out⟩
  clear hl1 hl2 hl3 hl4 HPB
  obtain ⟨qq, hqq⟩ := addIs_ex hla hlb
  have HQ := Aside0.mk hqq
  have hsz := addIs_size hla hlb hqq
  have HLA := Aside0.mk hla
  have HLB := Aside0.mk hlb
  have HSS := Aside0.mk hs
  have HSA : Aside0 (ra.num.length + ra.den.length ≤ 1099511627776) := ⟨by omega⟩
  have HSB : Aside0 (rb.num.length + rb.den.length ≤ 1099511627776) := ⟨by omega⟩
  obtain ⟨lf2, hlf2⟩ : ∃ lf : Int, lf = lf1 - (rb.num.length : Int) - (rb.den.length : Int) := ⟨_, rfl⟩
  have HLF2 := Aside0.mk hlf2
  have hlf20 : decide (lf2 < 0) = false := decide_eq_false (by omega)
  have hlf1b : 0 ≤ lf1 ∧ lf1 ≤ 1048576 ∧ (rb.num.length : Int) + rb.den.length ≤ lf1 := by omega
  clear hqq hla hlb hlf1 hlf2
  obtain ⟨n0_, hn0_⟩ : ∃ v : Int, v = ((1 + (ra.num.length + ra.den.length) : Nat) : Int) := ⟨_, rfl⟩
  have n0_0 : 0 ≤ n0_ := by omega
  have n0_d : decide (n0_ < 0) = false := decide_eq_false (by omega)
  have n0_e : (n0_ != n0_) = false := by simp
  have Hn0_ := Aside0.mk hn0_
  clear hn0_
  obtain ⟨n1_, hn1_⟩ : ∃ v : Int, v = ((1 + (ra.num.length + ra.den.length) + (rb.num.length + rb.den.length) : Nat) : Int) := ⟨_, rfl⟩
  have n1_0 : 0 ≤ n1_ := by omega
  have n1_d : decide (n1_ < 0) = false := decide_eq_false (by omega)
  have n1_e : (n1_ != n1_) = false := by simp
  have Hn1_ := Aside0.mk hn1_
  clear hn1_
  obtain ⟨n2_, hn2_⟩ : ∃ v : Int, v = ((1 + ((repr qq).num.length + (repr qq).den.length) : Nat) : Int) := ⟨_, rfl⟩
  have n2_0 : 0 ≤ n2_ := by omega
  have n2_d : decide (n2_ < 0) = false := decide_eq_false (by omega)
  have n2_e : (n2_ != n2_) = false := by simp
  have Hn2_ := Aside0.mk hn2_
  clear hn2_
  go_enter Try.func14, Try.ntmps14
  have HB0 := Aside0.mk (Below.refl w.heap.size w)
  go_wp2_with fail
  have ka := (Blk.new w 31 #[.bool ra.neg, .slice A ra.num.length c, .slice B ra.den.length d]).alloc (.cells #[.bool rb.neg, .slice A' rb.num.length c', .slice B' rb.den.length d'] 31)
  have kb := Blk.new (w.alloc (.cells #[.bool ra.neg, .slice A ra.num.length c, .slice B ra.den.length d] 31)) 31 #[.bool rb.neg, .slice A' rb.num.length c', .slice B' rb.den.length d']
  rw [show (w.alloc (.cells #[.bool ra.neg, .slice A ra.num.length c, .slice B ra.den.length d] 31)).heap.size = w.heap.size + 1 from by simp] at kb
  have hb := below_alloc (below_alloc (Below.refl w.heap.size w) (.cells #[.bool ra.neg, .slice A ra.num.length c, .slice B ra.den.length d] 31)) (.cells #[.bool rb.neg, .slice A' rb.num.length c', .slice B' rb.den.length d'] 31)
  generalize ((w.alloc (.cells #[.bool ra.neg, .slice A ra.num.length c, .slice B ra.den.length d] 31)).alloc (.cells #[.bool rb.neg, .slice A' rb.num.length c', .slice B' rb.den.length d'] 31)) = w1 at hb ka kb ⊢
  have HB1 := Aside0.mk hb
  have S1 := hb.size
  have HXa1 := Aside0.mk ka
  have La := ka.lt
  have HXb1 := Aside0.mk kb
  have Lb := kb.lt
  clear hb ka kb
  refine (szQ_ok ra.neg A B ra.num.length c ra.den.length d 1048576 lf1 _ (by omega) (by omega) HLF1.out).mono ?_
  rintro e w2 ⟨rfl, hb⟩
  have HB2 := Aside0.mk (HB1.out.trans (hb.mono HB1.out.size))
  have S2 := hb.size
  have HXa2 := Aside0.mk (HXa1.out.below hb HXa1.out.lt)
  have HXb2 := Aside0.mk (HXb1.out.below hb HXb1.out.lt)
  clear HXa1 HXb1
  clear hb HB1
  obtain ⟨ba0, ba1, ba2⟩ := box3 HXa2.out
  obtain ⟨bb0, bb1, bb2⟩ := box3 HXb2.out
  go_wp2_with fail
  refine (szQ_ok rb.neg A' B' rb.num.length c' rb.den.length d' lf1 lf2 _ (by omega) (by omega) HLF2.out).mono ?_
  rintro e w3 ⟨rfl, hb⟩
  have HB3 := Aside0.mk (HB2.out.trans (hb.mono HB2.out.size))
  have S3 := hb.size
  have HXa3 := Aside0.mk (HXa2.out.below hb HXa2.out.lt)
  have HXb3 := Aside0.mk (HXb2.out.below hb HXb2.out.lt)
  clear HXa2 HXb2
  clear hb HB2
  clear ba0 ba1 ba2 bb0 bb1 bb2
  obtain ⟨ba0, ba1, ba2⟩ := box3 HXa3.out
  obtain ⟨bb0, bb1, bb2⟩ := box3 HXb3.out
  go_upto_region 8 with fail
  have hBW := Below.refl w3.heap.size w3
  have H6 : Aside0 (∀ w', Below w3.heap.size w3 w' → Below w3.heap.size w3 w' ∧ w'.cell? ⟨w.heap.size, 0, none⟩ = some (.bool ra.neg) ∧ w'.cell? ⟨w.heap.size, 1, none⟩ = some (.slice A ra.num.length c) ∧ w'.cell? ⟨w.heap.size, 2, none⟩ = some (.slice B ra.den.length d) ∧ w'.cell? ⟨w.heap.size + 1, 0, none⟩ = some (.bool rb.neg) ∧ w'.cell? ⟨w.heap.size + 1, 1, none⟩ = some (.slice A' rb.num.length c') ∧ w'.cell? ⟨w.heap.size + 1, 2, none⟩ = some (.slice B' rb.den.length d')) := ⟨fun w' h => ⟨h, pw_cell_below h ba0, pw_cell_below h ba1, pw_cell_below h ba2, pw_cell_below h bb0, pw_cell_below h bb1, pw_cell_below h bb2⟩⟩
  have HA6 : Aside0 (∀ w', Below w3.heap.size w3 w' → ratK.K w' ra [.bool ra.neg, .slice A ra.num.length c, .slice B ra.den.length d]) := ⟨fun w' h => ratK.K_below h (ratK.K_below HB3.out HRA.out)⟩
  have HQ6 : Aside0 (∀ w', Below w3.heap.size w3 w' → ratK.K w' rb [.bool rb.neg, .slice A' rb.num.length c', .slice B' rb.den.length d']) := ⟨fun w' h => ratK.K_below h (ratK.K_below HB3.out HRB.out)⟩
  go_cut [6] (fun v wc => ∃ (g : Nat) (A : Option Addr) (c : Nat) (B : Option Addr) (d : Nat), v = .pointer (some ⟨g, 0, none⟩) ∧ Aside0 (CutPost w3 wc g (repr qq) A c B d))
  case first =>
    go_region_held3 (fun w' => Below w3.heap.size w3 w' ∧ w'.cell? ⟨w.heap.size, 0, none⟩ = some (.bool ra.neg) ∧ w'.cell? ⟨w.heap.size, 1, none⟩ = some (.slice A ra.num.length c) ∧ w'.cell? ⟨w.heap.size, 2, none⟩ = some (.slice B ra.den.length d) ∧ w'.cell? ⟨w.heap.size + 1, 0, none⟩ = some (.bool rb.neg) ∧ w'.cell? ⟨w.heap.size + 1, 1, none⟩ = some (.slice A' rb.num.length c') ∧ w'.cell? ⟨w.heap.size + 1, 2, none⟩ = some (.slice B' rb.den.length d'))
      ((refine H6.out _ ?_; first | assumption | exact below_drew hBW | exact below_drew (below_alloc hBW _) | (apply heldB; assumption; assumption) | (refine below_alloc ?_ _; first | assumption | exact below_drew hBW | (apply And.left; assumption)) | (refine below3 ?_ ?_; assumption; first | exact Nat.le_refl _ | (apply Below.size; assumption))))
      (first | (go_at_call_of 27 (Value.agg #[.bool ra.neg, .slice A ra.num.length c, .slice B ra.den.length d]); (with_reducible refine (toQ_K ra _ (HA6.out _ ?_) HSA.out).mono ?_); (apply And.left; assumption); rintro e wa ⟨Aa, ca, Ba, da, rfl, hoa, hba⟩; have hBwa : Below w3.heap.size w3 wa := (by (apply heldB; assumption; assumption)); (first | (have hk : Blk wa w3.heap.size _ _ := newbox hba; have hlwa := hk.lt; obtain ⟨⟨z0, z1, z2⟩, q0, q1, q2⟩ := bfacts hk) | (have hk : Blk wa w3.heap.size _ _ := newboxd hba; have hlwa := hk.lt; obtain ⟨⟨z0, z1, z2⟩, q0, q1, q2⟩ := bfacts hk) | (have hk := newbox hba; have hlwa := hk.lt; obtain ⟨⟨z0, z1, z2⟩, q0, q1, q2⟩ := bfacts hk) | (have hk := hk.below hba hk.lt; have hlwa := hk.lt; obtain ⟨⟨z0, z1, z2⟩, q0, q1, q2⟩ := bfacts hk) | skip)) | (go_at_call_of 27 (Value.agg #[.bool rb.neg, .slice A' rb.num.length c', .slice B' rb.den.length d']); (with_reducible refine (toQ_K rb _ (HQ6.out _ ?_) HSB.out).mono ?_); (apply And.left; assumption); rintro e wb ⟨Ab, cb, Bb, db, rfl, hob, hbb⟩; have hBwb : Below w3.heap.size w3 wb := (by (apply heldB; assumption; assumption)); have hab : Below wa.heap.size wa wb := (by first | exact hbb | exact (below_alloc (Below.refl wa.heap.size wa) _).trans (hbb.mono (by simp))); (first | (have hk : Blk wb w3.heap.size _ _ := newbox hbb; have hlwb := hk.lt; obtain ⟨⟨z0, z1, z2⟩, q0, q1, q2⟩ := bfacts hk) | (have hk : Blk wb w3.heap.size _ _ := newboxd hbb; have hlwb := hk.lt; obtain ⟨⟨z0, z1, z2⟩, q0, q1, q2⟩ := bfacts hk) | (have hk := newbox hbb; have hlwb := hk.lt; obtain ⟨⟨z0, z1, z2⟩, q0, q1, q2⟩ := bfacts hk) | (have hk := hk.below hbb hk.lt; have hlwb := hk.lt; obtain ⟨⟨z0, z1, z2⟩, q0, q1, q2⟩ := bfacts hk) | skip)) | (go_at_call 42; (with_reducible refine (spec_RatAdd_K ra rb qq _ ?_ ?_ HLA.out HLB.out HSS.out HQ.out).mono ?_); (first | exact ratK.K_below hab (ratK.K_of_M hoa) | exact ratK.K_below (below_alloc hab _) (ratK.K_of_M hoa)); (first | exact ratK.K_of_M hob | exact ratK.K_below (below_alloc (Below.refl wb.heap.size wb) _) (ratK.K_of_M hob)); rintro e wm ⟨Am, cm, Bm, dm, rfl, hom, hbm⟩; have hBwm : Below w3.heap.size w3 wm := (by (apply heldB; assumption; assumption)); (first | (have hk : Blk wm w3.heap.size _ _ := newbox hbm; have hlwm := hk.lt; obtain ⟨⟨z0, z1, z2⟩, q0, q1, q2⟩ := bfacts hk) | (have hk : Blk wm w3.heap.size _ _ := newboxd hbm; have hlwm := hk.lt; obtain ⟨⟨z0, z1, z2⟩, q0, q1, q2⟩ := bfacts hk) | (have hk := newbox hbm; have hlwm := hk.lt; obtain ⟨⟨z0, z1, z2⟩, q0, q1, q2⟩ := bfacts hk) | (have hk := hk.below hbm hk.lt; have hlwm := hk.lt; obtain ⟨⟨z0, z1, z2⟩, q0, q1, q2⟩ := bfacts hk) | skip)))
    all_goals (go_wp2_with fail; go_meet)
    all_goals (first | exact ⟨_, _, _, _, _, rfl, ⟨cut_last hBwm hom (by first | exact hBwb.size | exact Nat.le_trans hBwb.size (by simp))⟩⟩ | exact ⟨_, _, _, _, _, rfl, ⟨cut_early hBwm hom (by first | exact hlwb | simp) (by first | exact Nat.le_refl _ | exact hBwa.size | exact hBwb.size) hk⟩⟩)
  clear H6 HA6 HQ6 hBW
  obtain ⟨g6, A_g6, c_g6, B_g6, d_g6, rfl, hC⟩ := hcut
  generalize wc = w4 at hC ⊢
  obtain ⟨hb, hWg6, hk, hM⟩ := hC.out
  clear hC
  have HN0 := Aside0.mk (fresh_M (w0 := w) hM HB3.out.size)
  have HB4 := Aside0.mk (HB3.out.trans (hb.mono HB3.out.size))
  have S4 := hb.size
  have HXa4 := Aside0.mk (HXa3.out.below hb HXa3.out.lt)
  have HXb4 := Aside0.mk (HXb3.out.below hb HXb3.out.lt)
  clear HXa3 HXb3
  have HXw_4 := Aside0.mk hk
  have Lw_ := hk.lt
  have HW4 := HN0
  clear hb hk hM HN0 HB3
  clear ba0 ba1 ba2 bb0 bb1 bb2
  obtain ⟨ba0, ba1, ba2⟩ := box3 HXa4.out
  obtain ⟨bb0, bb1, bb2⟩ := box3 HXb4.out
  obtain ⟨bw_0, bw_1, bw_2⟩ := box3 HXw_4.out
  go_wp2_with fail
  refine (toQ_K ra _ (Kd.K_below _ HB4.out HRA.out) HSA.out).mono ?_
  rintro e w5 ⟨A1, c1, B1, d1, rfl, ho, hb⟩
  have HN0 := Aside0.mk (fresh_M (w0 := w) ho HB4.out.size)
  clear ho
  have HB5 := Aside0.mk (HB4.out.trans (hb.mono HB4.out.size))
  have S5 := hb.size
  have HW5 := Aside0.mk (Kd.M_below HW4.out hb)
  clear HW4
  have HXa5 := Aside0.mk (HXa4.out.below hb HXa4.out.lt)
  have HXb5 := Aside0.mk (HXb4.out.below hb HXb4.out.lt)
  have HXw_5 := Aside0.mk (HXw_4.out.below hb HXw_4.out.lt)
  clear HXa4 HXb4 HXw_4
  clear hb HB4
  have HX5 := HN0
  clear HN0
  clear ba0 ba1 ba2 bb0 bb1 bb2 bw_0 bw_1 bw_2
  obtain ⟨ba0, ba1, ba2⟩ := box3 HXa5.out
  obtain ⟨bb0, bb1, bb2⟩ := box3 HXb5.out
  obtain ⟨bw_0, bw_1, bw_2⟩ := box3 HXw_5.out
  go_upto_region 10 with fail
  have hb := below_alloc (Below.refl w5.heap.size w5) (.cells #[.bool ra.neg, .slice A1 ra.num.length c1, .slice B1 ra.den.length d1] 34)
  have hk := Blk.new w5 34 #[.bool ra.neg, .slice A1 ra.num.length c1, .slice B1 ra.den.length d1]
  generalize w5.alloc (.cells #[.bool ra.neg, .slice A1 ra.num.length c1, .slice B1 ra.den.length d1] 34) = w6 at hb hk ⊢
  have HB6 := Aside0.mk (HB5.out.trans (hb.mono HB5.out.size))
  have S6 := hb.size
  have HW6 := Aside0.mk (Kd.M_below HW5.out hb)
  have HX6 := Aside0.mk (Kd.M_below HX5.out hb)
  clear HW5 HX5
  have HXa6 := Aside0.mk (HXa5.out.below hb HXa5.out.lt)
  have HXb6 := Aside0.mk (HXb5.out.below hb HXb5.out.lt)
  have HXw_6 := Aside0.mk (HXw_5.out.below hb HXw_5.out.lt)
  clear HXa5 HXb5 HXw_5
  have HXx6 := Aside0.mk hk
  have Lx := hk.lt
  clear hb hk HB5
  clear ba0 ba1 ba2 bb0 bb1 bb2 bw_0 bw_1 bw_2
  obtain ⟨ba0, ba1, ba2⟩ := box3 HXa6.out
  obtain ⟨bb0, bb1, bb2⟩ := box3 HXb6.out
  obtain ⟨bw_0, bw_1, bw_2⟩ := box3 HXw_6.out
  obtain ⟨bx0, bx1, bx2⟩ := box3 HXx6.out
  go_wp2_with fail
  refine (toQ_K rb _ (Kd.K_below _ HB6.out HRB.out) HSB.out).mono ?_
  rintro e w7 ⟨A2, c2, B2, d2, rfl, ho, hb⟩
  have HN0 := Aside0.mk (fresh_M (w0 := w) ho HB6.out.size)
  clear ho
  have HB7 := Aside0.mk (HB6.out.trans (hb.mono HB6.out.size))
  have S7 := hb.size
  have HW7 := Aside0.mk (Kd.M_below HW6.out hb)
  have HX7 := Aside0.mk (Kd.M_below HX6.out hb)
  clear HW6 HX6
  have HXa7 := Aside0.mk (HXa6.out.below hb HXa6.out.lt)
  have HXb7 := Aside0.mk (HXb6.out.below hb HXb6.out.lt)
  have HXw_7 := Aside0.mk (HXw_6.out.below hb HXw_6.out.lt)
  have HXx7 := Aside0.mk (HXx6.out.below hb HXx6.out.lt)
  clear HXa6 HXb6 HXw_6 HXx6
  clear hb HB6
  have HY7 := HN0
  clear HN0
  clear ba0 ba1 ba2 bb0 bb1 bb2 bw_0 bw_1 bw_2 bx0 bx1 bx2
  obtain ⟨ba0, ba1, ba2⟩ := box3 HXa7.out
  obtain ⟨bb0, bb1, bb2⟩ := box3 HXb7.out
  obtain ⟨bw_0, bw_1, bw_2⟩ := box3 HXw_7.out
  obtain ⟨bx0, bx1, bx2⟩ := box3 HXx7.out
  go_upto_region 11 with fail
  have hb := below_alloc (Below.refl w7.heap.size w7) (.cells #[.bool rb.neg, .slice A2 rb.num.length c2, .slice B2 rb.den.length d2] 34)
  have hk := Blk.new w7 34 #[.bool rb.neg, .slice A2 rb.num.length c2, .slice B2 rb.den.length d2]
  generalize w7.alloc (.cells #[.bool rb.neg, .slice A2 rb.num.length c2, .slice B2 rb.den.length d2] 34) = w8 at hb hk ⊢
  have HB8 := Aside0.mk (HB7.out.trans (hb.mono HB7.out.size))
  have S8 := hb.size
  have HW8 := Aside0.mk (Kd.M_below HW7.out hb)
  have HX8 := Aside0.mk (Kd.M_below HX7.out hb)
  have HY8 := Aside0.mk (Kd.M_below HY7.out hb)
  clear HW7 HX7 HY7
  have HXa8 := Aside0.mk (HXa7.out.below hb HXa7.out.lt)
  have HXb8 := Aside0.mk (HXb7.out.below hb HXb7.out.lt)
  have HXw_8 := Aside0.mk (HXw_7.out.below hb HXw_7.out.lt)
  have HXx8 := Aside0.mk (HXx7.out.below hb HXx7.out.lt)
  clear HXa7 HXb7 HXw_7 HXx7
  have HXy8 := Aside0.mk hk
  have Ly := hk.lt
  clear hb hk HB7
  clear ba0 ba1 ba2 bb0 bb1 bb2 bw_0 bw_1 bw_2 bx0 bx1 bx2
  obtain ⟨ba0, ba1, ba2⟩ := box3 HXa8.out
  obtain ⟨bb0, bb1, bb2⟩ := box3 HXb8.out
  obtain ⟨bw_0, bw_1, bw_2⟩ := box3 HXw_8.out
  obtain ⟨bx0, bx1, bx2⟩ := box3 HXx8.out
  obtain ⟨by0, by1, by2⟩ := box3 HXy8.out
  go_wp2_with fail
  refine (RatAdd_K ra rb qq _ (Kd.K_of_M _ HX8.out) (Kd.K_of_M _ HY8.out) HLA.out HLB.out HSS.out HQ.out).mono ?_
  rintro e w9 ⟨A3, c3, B3, d3, rfl, ho, hb⟩
  have HN0 := Aside0.mk (fresh_M (w0 := w) ho HB8.out.size)
  clear ho
  have HB9 := Aside0.mk (HB8.out.trans (hb.mono HB8.out.size))
  have S9 := hb.size
  have HW9 := Aside0.mk (Kd.M_below HW8.out hb)
  have HX9 := Aside0.mk (Kd.M_below HX8.out hb)
  have HY9 := Aside0.mk (Kd.M_below HY8.out hb)
  clear HW8 HX8 HY8
  have HXa9 := Aside0.mk (HXa8.out.below hb HXa8.out.lt)
  have HXb9 := Aside0.mk (HXb8.out.below hb HXb8.out.lt)
  have HXw_9 := Aside0.mk (HXw_8.out.below hb HXw_8.out.lt)
  have HXx9 := Aside0.mk (HXx8.out.below hb HXx8.out.lt)
  have HXy9 := Aside0.mk (HXy8.out.below hb HXy8.out.lt)
  clear HXa8 HXb8 HXw_8 HXx8 HXy8
  clear hb HB8
  have HG9 := HN0
  clear HN0
  clear ba0 ba1 ba2 bb0 bb1 bb2 bw_0 bw_1 bw_2 bx0 bx1 bx2 by0 by1 by2
  obtain ⟨ba0, ba1, ba2⟩ := box3 HXa9.out
  obtain ⟨bb0, bb1, bb2⟩ := box3 HXb9.out
  obtain ⟨bw_0, bw_1, bw_2⟩ := box3 HXw_9.out
  obtain ⟨bx0, bx1, bx2⟩ := box3 HXx9.out
  obtain ⟨by0, by1, by2⟩ := box3 HXy9.out
  go_upto_region 12 with fail
  have hb := below_alloc (Below.refl w9.heap.size w9) (.cells #[.bool (repr qq).neg, .slice A3 (repr qq).num.length c3, .slice B3 (repr qq).den.length d3] 34)
  have hk := Blk.new w9 34 #[.bool (repr qq).neg, .slice A3 (repr qq).num.length c3, .slice B3 (repr qq).den.length d3]
  generalize w9.alloc (.cells #[.bool (repr qq).neg, .slice A3 (repr qq).num.length c3, .slice B3 (repr qq).den.length d3] 34) = w10 at hb hk ⊢
  have HB10 := Aside0.mk (HB9.out.trans (hb.mono HB9.out.size))
  have S10 := hb.size
  have HW10 := Aside0.mk (Kd.M_below HW9.out hb)
  have HX10 := Aside0.mk (Kd.M_below HX9.out hb)
  have HY10 := Aside0.mk (Kd.M_below HY9.out hb)
  have HG10 := Aside0.mk (Kd.M_below HG9.out hb)
  clear HW9 HX9 HY9 HG9
  have HXa10 := Aside0.mk (HXa9.out.below hb HXa9.out.lt)
  have HXb10 := Aside0.mk (HXb9.out.below hb HXb9.out.lt)
  have HXw_10 := Aside0.mk (HXw_9.out.below hb HXw_9.out.lt)
  have HXx10 := Aside0.mk (HXx9.out.below hb HXx9.out.lt)
  have HXy10 := Aside0.mk (HXy9.out.below hb HXy9.out.lt)
  clear HXa9 HXb9 HXw_9 HXx9 HXy9
  have HXg_10 := Aside0.mk hk
  have Lg_ := hk.lt
  clear hb hk HB9
  clear ba0 ba1 ba2 bb0 bb1 bb2 bw_0 bw_1 bw_2 bx0 bx1 bx2 by0 by1 by2
  obtain ⟨ba0, ba1, ba2⟩ := box3 HXa10.out
  obtain ⟨bb0, bb1, bb2⟩ := box3 HXb10.out
  obtain ⟨bw_0, bw_1, bw_2⟩ := box3 HXw_10.out
  obtain ⟨bx0, bx1, bx2⟩ := box3 HXx10.out
  obtain ⟨by0, by1, by2⟩ := box3 HXy10.out
  obtain ⟨bg_0, bg_1, bg_2⟩ := box3 HXg_10.out
  go_wp2_with fail
  refine (eqQ_K (repr qq) _ (Kd.K_of_M _ HG10.out) (Kd.K_of_M _ HW10.out)).mono ?_
  rintro e w11 ⟨rfl, hb⟩
  have HB11 := Aside0.mk (HB10.out.trans (hb.mono HB10.out.size))
  have S11 := hb.size
  have HW11 := Aside0.mk (Kd.M_below HW10.out hb)
  have HX11 := Aside0.mk (Kd.M_below HX10.out hb)
  have HY11 := Aside0.mk (Kd.M_below HY10.out hb)
  have HG11 := Aside0.mk (Kd.M_below HG10.out hb)
  clear HW10 HX10 HY10 HG10
  have HXa11 := Aside0.mk (HXa10.out.below hb HXa10.out.lt)
  have HXb11 := Aside0.mk (HXb10.out.below hb HXb10.out.lt)
  have HXw_11 := Aside0.mk (HXw_10.out.below hb HXw_10.out.lt)
  have HXx11 := Aside0.mk (HXx10.out.below hb HXx10.out.lt)
  have HXy11 := Aside0.mk (HXy10.out.below hb HXy10.out.lt)
  have HXg_11 := Aside0.mk (HXg_10.out.below hb HXg_10.out.lt)
  clear HXa10 HXb10 HXw_10 HXx10 HXy10 HXg_10
  clear hb HB10
  clear ba0 ba1 ba2 bb0 bb1 bb2 bw_0 bw_1 bw_2 bx0 bx1 bx2 by0 by1 by2 bg_0 bg_1 bg_2
  obtain ⟨ba0, ba1, ba2⟩ := box3 HXa11.out
  obtain ⟨bb0, bb1, bb2⟩ := box3 HXb11.out
  obtain ⟨bw_0, bw_1, bw_2⟩ := box3 HXw_11.out
  obtain ⟨bx0, bx1, bx2⟩ := box3 HXx11.out
  obtain ⟨by0, by1, by2⟩ := box3 HXy11.out
  obtain ⟨bg_0, bg_1, bg_2⟩ := box3 HXg_11.out
  go_wp2_with fail
  have hBW := Below.refl w11.heap.size w11
  have H6 : Aside0 (∀ w', Below w11.heap.size w11 w' → Below w11.heap.size w11 w' ∧ w'.cell? ⟨w.heap.size, 0, none⟩ = some (.bool ra.neg) ∧ w'.cell? ⟨w.heap.size, 1, none⟩ = some (.slice A ra.num.length c) ∧ w'.cell? ⟨w.heap.size, 2, none⟩ = some (.slice B ra.den.length d) ∧ w'.cell? ⟨w.heap.size + 1, 0, none⟩ = some (.bool rb.neg) ∧ w'.cell? ⟨w.heap.size + 1, 1, none⟩ = some (.slice A' rb.num.length c') ∧ w'.cell? ⟨w.heap.size + 1, 2, none⟩ = some (.slice B' rb.den.length d') ∧ w'.cell? ⟨g6, 0, none⟩ = some (.bool (repr qq).neg) ∧ w'.cell? ⟨g6, 1, none⟩ = some (.slice A_g6 (repr qq).num.length c_g6) ∧ w'.cell? ⟨g6, 2, none⟩ = some (.slice B_g6 (repr qq).den.length d_g6) ∧ w'.cell? ⟨w5.heap.size, 0, none⟩ = some (.bool ra.neg) ∧ w'.cell? ⟨w5.heap.size, 1, none⟩ = some (.slice A1 ra.num.length c1) ∧ w'.cell? ⟨w5.heap.size, 2, none⟩ = some (.slice B1 ra.den.length d1) ∧ w'.cell? ⟨w7.heap.size, 0, none⟩ = some (.bool rb.neg) ∧ w'.cell? ⟨w7.heap.size, 1, none⟩ = some (.slice A2 rb.num.length c2) ∧ w'.cell? ⟨w7.heap.size, 2, none⟩ = some (.slice B2 rb.den.length d2) ∧ w'.cell? ⟨w9.heap.size, 0, none⟩ = some (.bool (repr qq).neg) ∧ w'.cell? ⟨w9.heap.size, 1, none⟩ = some (.slice A3 (repr qq).num.length c3) ∧ w'.cell? ⟨w9.heap.size, 2, none⟩ = some (.slice B3 (repr qq).den.length d3)) := ⟨fun w' h => ⟨h, pw_cell_below h ba0, pw_cell_below h ba1, pw_cell_below h ba2, pw_cell_below h bb0, pw_cell_below h bb1, pw_cell_below h bb2, pw_cell_below h bw_0, pw_cell_below h bw_1, pw_cell_below h bw_2, pw_cell_below h bx0, pw_cell_below h bx1, pw_cell_below h bx2, pw_cell_below h by0, pw_cell_below h by1, pw_cell_below h by2, pw_cell_below h bg_0, pw_cell_below h bg_1, pw_cell_below h bg_2⟩⟩
  have HA6 : Aside0 (∀ w', Below w11.heap.size w11 w' → ratK.K w' ra _) := ⟨fun w' h => ratK.K_below h (ratK.K_below HB11.out HRA.out)⟩
  have HQ6 : Aside0 (∀ w', Below w11.heap.size w11 w' → ratK.K w' ra _) := ⟨fun w' h => ratK.K_below h (ratK.K_of_M HX11.out)⟩
  go_region_held3 (fun w' => Below w11.heap.size w11 w' ∧ w'.cell? ⟨w.heap.size, 0, none⟩ = some (.bool ra.neg) ∧ w'.cell? ⟨w.heap.size, 1, none⟩ = some (.slice A ra.num.length c) ∧ w'.cell? ⟨w.heap.size, 2, none⟩ = some (.slice B ra.den.length d) ∧ w'.cell? ⟨w.heap.size + 1, 0, none⟩ = some (.bool rb.neg) ∧ w'.cell? ⟨w.heap.size + 1, 1, none⟩ = some (.slice A' rb.num.length c') ∧ w'.cell? ⟨w.heap.size + 1, 2, none⟩ = some (.slice B' rb.den.length d') ∧ w'.cell? ⟨g6, 0, none⟩ = some (.bool (repr qq).neg) ∧ w'.cell? ⟨g6, 1, none⟩ = some (.slice A_g6 (repr qq).num.length c_g6) ∧ w'.cell? ⟨g6, 2, none⟩ = some (.slice B_g6 (repr qq).den.length d_g6) ∧ w'.cell? ⟨w5.heap.size, 0, none⟩ = some (.bool ra.neg) ∧ w'.cell? ⟨w5.heap.size, 1, none⟩ = some (.slice A1 ra.num.length c1) ∧ w'.cell? ⟨w5.heap.size, 2, none⟩ = some (.slice B1 ra.den.length d1) ∧ w'.cell? ⟨w7.heap.size, 0, none⟩ = some (.bool rb.neg) ∧ w'.cell? ⟨w7.heap.size, 1, none⟩ = some (.slice A2 rb.num.length c2) ∧ w'.cell? ⟨w7.heap.size, 2, none⟩ = some (.slice B2 rb.den.length d2) ∧ w'.cell? ⟨w9.heap.size, 0, none⟩ = some (.bool (repr qq).neg) ∧ w'.cell? ⟨w9.heap.size, 1, none⟩ = some (.slice A3 (repr qq).num.length c3) ∧ w'.cell? ⟨w9.heap.size, 2, none⟩ = some (.slice B3 (repr qq).den.length d3))
    ((refine H6.out _ ?_; first | assumption | exact below_drew hBW | (apply heldB; assumption; assumption)))
    (first | (go_at_call 27; (with_reducible refine (toQ_K ra _ (HA6.out _ ?_) HSA.out).mono ?_); (apply And.left; assumption); rintro e wa ⟨Aa, ca, Ba, da, rfl, hoa, hba⟩; have hBa : Below w11.heap.size w11 wa := (by (apply heldB; assumption; assumption))) | (go_at_call 29; (with_reducible refine (eqQ_K ra _ (HQ6.out _ ?_) (ratK.K_of_M hoa)).mono ?_); (apply And.left; assumption); rintro e wb ⟨rfl, hbb⟩; have hBb : Below w11.heap.size w11 wb := (by (apply heldB; assumption; assumption))))
  have hb := hBb
  clear hoa hba hbb hBa hBW H6 HA6 HQ6
  obtain ⟨w12, hww⟩ : ∃ v, v = wb := ⟨_, rfl⟩
  rw [← hww] at hBb ⊢
  clear hww
  have hb := hBb
  clear hBb
  have HB12 := Aside0.mk (HB11.out.trans (hb.mono HB11.out.size))
  have S12 := hb.size
  have HW12 := Aside0.mk (Kd.M_below HW11.out hb)
  have HX12 := Aside0.mk (Kd.M_below HX11.out hb)
  have HY12 := Aside0.mk (Kd.M_below HY11.out hb)
  have HG12 := Aside0.mk (Kd.M_below HG11.out hb)
  clear HW11 HX11 HY11 HG11
  have HXa12 := Aside0.mk (HXa11.out.below hb HXa11.out.lt)
  have HXb12 := Aside0.mk (HXb11.out.below hb HXb11.out.lt)
  have HXw_12 := Aside0.mk (HXw_11.out.below hb HXw_11.out.lt)
  have HXx12 := Aside0.mk (HXx11.out.below hb HXx11.out.lt)
  have HXy12 := Aside0.mk (HXy11.out.below hb HXy11.out.lt)
  have HXg_12 := Aside0.mk (HXg_11.out.below hb HXg_11.out.lt)
  clear HXa11 HXb11 HXw_11 HXx11 HXy11 HXg_11
  clear hb HB11
  clear ba0 ba1 ba2 bb0 bb1 bb2 bw_0 bw_1 bw_2 bx0 bx1 bx2 by0 by1 by2 bg_0 bg_1 bg_2
  obtain ⟨ba0, ba1, ba2⟩ := box3 HXa12.out
  obtain ⟨bb0, bb1, bb2⟩ := box3 HXb12.out
  obtain ⟨bw_0, bw_1, bw_2⟩ := box3 HXw_12.out
  obtain ⟨bx0, bx1, bx2⟩ := box3 HXx12.out
  obtain ⟨by0, by1, by2⟩ := box3 HXy12.out
  obtain ⟨bg_0, bg_1, bg_2⟩ := box3 HXg_12.out
  go_wp2_with fail
  have hBW := Below.refl w12.heap.size w12
  have H6 : Aside0 (∀ w', Below w12.heap.size w12 w' → Below w12.heap.size w12 w' ∧ w'.cell? ⟨w.heap.size, 0, none⟩ = some (.bool ra.neg) ∧ w'.cell? ⟨w.heap.size, 1, none⟩ = some (.slice A ra.num.length c) ∧ w'.cell? ⟨w.heap.size, 2, none⟩ = some (.slice B ra.den.length d) ∧ w'.cell? ⟨w.heap.size + 1, 0, none⟩ = some (.bool rb.neg) ∧ w'.cell? ⟨w.heap.size + 1, 1, none⟩ = some (.slice A' rb.num.length c') ∧ w'.cell? ⟨w.heap.size + 1, 2, none⟩ = some (.slice B' rb.den.length d') ∧ w'.cell? ⟨g6, 0, none⟩ = some (.bool (repr qq).neg) ∧ w'.cell? ⟨g6, 1, none⟩ = some (.slice A_g6 (repr qq).num.length c_g6) ∧ w'.cell? ⟨g6, 2, none⟩ = some (.slice B_g6 (repr qq).den.length d_g6) ∧ w'.cell? ⟨w5.heap.size, 0, none⟩ = some (.bool ra.neg) ∧ w'.cell? ⟨w5.heap.size, 1, none⟩ = some (.slice A1 ra.num.length c1) ∧ w'.cell? ⟨w5.heap.size, 2, none⟩ = some (.slice B1 ra.den.length d1) ∧ w'.cell? ⟨w7.heap.size, 0, none⟩ = some (.bool rb.neg) ∧ w'.cell? ⟨w7.heap.size, 1, none⟩ = some (.slice A2 rb.num.length c2) ∧ w'.cell? ⟨w7.heap.size, 2, none⟩ = some (.slice B2 rb.den.length d2) ∧ w'.cell? ⟨w9.heap.size, 0, none⟩ = some (.bool (repr qq).neg) ∧ w'.cell? ⟨w9.heap.size, 1, none⟩ = some (.slice A3 (repr qq).num.length c3) ∧ w'.cell? ⟨w9.heap.size, 2, none⟩ = some (.slice B3 (repr qq).den.length d3)) := ⟨fun w' h => ⟨h, pw_cell_below h ba0, pw_cell_below h ba1, pw_cell_below h ba2, pw_cell_below h bb0, pw_cell_below h bb1, pw_cell_below h bb2, pw_cell_below h bw_0, pw_cell_below h bw_1, pw_cell_below h bw_2, pw_cell_below h bx0, pw_cell_below h bx1, pw_cell_below h bx2, pw_cell_below h by0, pw_cell_below h by1, pw_cell_below h by2, pw_cell_below h bg_0, pw_cell_below h bg_1, pw_cell_below h bg_2⟩⟩
  have HA6 : Aside0 (∀ w', Below w12.heap.size w12 w' → ratK.K w' rb _) := ⟨fun w' h => ratK.K_below h (ratK.K_below HB12.out HRB.out)⟩
  have HQ6 : Aside0 (∀ w', Below w12.heap.size w12 w' → ratK.K w' rb _) := ⟨fun w' h => ratK.K_below h (ratK.K_of_M HY12.out)⟩
  go_region_held3 (fun w' => Below w12.heap.size w12 w' ∧ w'.cell? ⟨w.heap.size, 0, none⟩ = some (.bool ra.neg) ∧ w'.cell? ⟨w.heap.size, 1, none⟩ = some (.slice A ra.num.length c) ∧ w'.cell? ⟨w.heap.size, 2, none⟩ = some (.slice B ra.den.length d) ∧ w'.cell? ⟨w.heap.size + 1, 0, none⟩ = some (.bool rb.neg) ∧ w'.cell? ⟨w.heap.size + 1, 1, none⟩ = some (.slice A' rb.num.length c') ∧ w'.cell? ⟨w.heap.size + 1, 2, none⟩ = some (.slice B' rb.den.length d') ∧ w'.cell? ⟨g6, 0, none⟩ = some (.bool (repr qq).neg) ∧ w'.cell? ⟨g6, 1, none⟩ = some (.slice A_g6 (repr qq).num.length c_g6) ∧ w'.cell? ⟨g6, 2, none⟩ = some (.slice B_g6 (repr qq).den.length d_g6) ∧ w'.cell? ⟨w5.heap.size, 0, none⟩ = some (.bool ra.neg) ∧ w'.cell? ⟨w5.heap.size, 1, none⟩ = some (.slice A1 ra.num.length c1) ∧ w'.cell? ⟨w5.heap.size, 2, none⟩ = some (.slice B1 ra.den.length d1) ∧ w'.cell? ⟨w7.heap.size, 0, none⟩ = some (.bool rb.neg) ∧ w'.cell? ⟨w7.heap.size, 1, none⟩ = some (.slice A2 rb.num.length c2) ∧ w'.cell? ⟨w7.heap.size, 2, none⟩ = some (.slice B2 rb.den.length d2) ∧ w'.cell? ⟨w9.heap.size, 0, none⟩ = some (.bool (repr qq).neg) ∧ w'.cell? ⟨w9.heap.size, 1, none⟩ = some (.slice A3 (repr qq).num.length c3) ∧ w'.cell? ⟨w9.heap.size, 2, none⟩ = some (.slice B3 (repr qq).den.length d3))
    ((refine H6.out _ ?_; first | assumption | exact below_drew hBW | (apply heldB; assumption; assumption)))
    (first | (go_at_call 27; (with_reducible refine (toQ_K rb _ (HA6.out _ ?_) HSB.out).mono ?_); (apply And.left; assumption); rintro e wa ⟨Aa, ca, Ba, da, rfl, hoa, hba⟩; have hBa : Below w12.heap.size w12 wa := (by (apply heldB; assumption; assumption))) | (go_at_call 29; (with_reducible refine (eqQ_K rb _ (HQ6.out _ ?_) (ratK.K_of_M hoa)).mono ?_); (apply And.left; assumption); rintro e wb ⟨rfl, hbb⟩; have hBb : Below w12.heap.size w12 wb := (by (apply heldB; assumption; assumption))))
  have hb := hBb
  clear hoa hba hbb hBa hBW H6 HA6 HQ6
  obtain ⟨w13, hww⟩ : ∃ v, v = wb := ⟨_, rfl⟩
  rw [← hww] at hBb ⊢
  clear hww
  have hb := hBb
  clear hBb
  have HB13 := Aside0.mk (HB12.out.trans (hb.mono HB12.out.size))
  have S13 := hb.size
  have HW13 := Aside0.mk (Kd.M_below HW12.out hb)
  have HX13 := Aside0.mk (Kd.M_below HX12.out hb)
  have HY13 := Aside0.mk (Kd.M_below HY12.out hb)
  have HG13 := Aside0.mk (Kd.M_below HG12.out hb)
  clear HW12 HX12 HY12 HG12
  have HXa13 := Aside0.mk (HXa12.out.below hb HXa12.out.lt)
  have HXb13 := Aside0.mk (HXb12.out.below hb HXb12.out.lt)
  have HXw_13 := Aside0.mk (HXw_12.out.below hb HXw_12.out.lt)
  have HXx13 := Aside0.mk (HXx12.out.below hb HXx12.out.lt)
  have HXy13 := Aside0.mk (HXy12.out.below hb HXy12.out.lt)
  have HXg_13 := Aside0.mk (HXg_12.out.below hb HXg_12.out.lt)
  clear HXa12 HXb12 HXw_12 HXx12 HXy12 HXg_12
  clear hb HB12
  clear ba0 ba1 ba2 bb0 bb1 bb2 bw_0 bw_1 bw_2 bx0 bx1 bx2 by0 by1 by2 bg_0 bg_1 bg_2
  obtain ⟨ba0, ba1, ba2⟩ := box3 HXa13.out
  obtain ⟨bb0, bb1, bb2⟩ := box3 HXb13.out
  obtain ⟨bw_0, bw_1, bw_2⟩ := box3 HXw_13.out
  obtain ⟨bx0, bx1, bx2⟩ := box3 HXx13.out
  obtain ⟨by0, by1, by2⟩ := box3 HXy13.out
  obtain ⟨bg_0, bg_1, bg_2⟩ := box3 HXg_13.out
  go_wp2_with fail
  refine (markQ_K w.heap.size _ ra (1) 1 n0_ _ HX13.out HB13.out.size (by rfl) Hn0_.out (by omega)).mono ?_
  rintro e w14 ⟨rfl, hm, hb, hk⟩
  have HB14 := Aside0.mk (HB13.out.trans hb)
  have S14 := hk.1
  have HW14 := Aside0.mk (Kd.M_kept HW13.out hk (fun k h1 h2 => iv_far (by omega) h1 h2))
  have HY14 := Aside0.mk (Kd.M_kept HY13.out hk (fun k h1 h2 => iv_far (by omega) h1 h2))
  have HG14 := Aside0.mk (Kd.M_kept HG13.out hk (fun k h1 h2 => iv_far (by omega) h1 h2))
  clear HW13 HY13 HG13
  have HXa14 := Aside0.mk (blk_kept2 HXa13.out hk (fun h => by have := h.lo; have := h.hi; omega))
  have HXb14 := Aside0.mk (blk_kept2 HXb13.out hk (fun h => by have := h.lo; have := h.hi; omega))
  have HXw_14 := Aside0.mk (blk_kept2 HXw_13.out hk (fun h => by have := h.lo; have := h.hi; omega))
  have HXx14 := Aside0.mk (blk_kept2 HXx13.out hk (fun h => by have := h.lo; have := h.hi; omega))
  have HXy14 := Aside0.mk (blk_kept2 HXy13.out hk (fun h => by have := h.lo; have := h.hi; omega))
  have HXg_14 := Aside0.mk (blk_kept2 HXg_13.out hk (fun h => by have := h.lo; have := h.hi; omega))
  clear HXa13 HXb13 HXw_13 HXx13 HXy13 HXg_13
  have HX14 := Aside0.mk hm
  clear hm hb hk HB13 HX13
  clear ba0 ba1 ba2 bb0 bb1 bb2 bw_0 bw_1 bw_2 bx0 bx1 bx2 by0 by1 by2 bg_0 bg_1 bg_2
  obtain ⟨ba0, ba1, ba2⟩ := box3 HXa14.out
  obtain ⟨bb0, bb1, bb2⟩ := box3 HXb14.out
  obtain ⟨bw_0, bw_1, bw_2⟩ := box3 HXw_14.out
  obtain ⟨bx0, bx1, bx2⟩ := box3 HXx14.out
  obtain ⟨by0, by1, by2⟩ := box3 HXy14.out
  obtain ⟨bg_0, bg_1, bg_2⟩ := box3 HXg_14.out
  go_wp2_with fail
  refine (markQ_K w.heap.size _ rb (1 + (ra.num.length + ra.den.length)) n0_ n1_ _ HY14.out HB14.out.size Hn0_.out Hn1_.out (by omega)).mono ?_
  rintro e w15 ⟨rfl, hm, hb, hk⟩
  have HB15 := Aside0.mk (HB14.out.trans hb)
  have S15 := hk.1
  have HW15 := Aside0.mk (Kd.M_kept HW14.out hk (fun k h1 h2 => iv_far (by omega) h1 h2))
  have HX15 := Aside0.mk (Kd.M_kept HX14.out hk (fun k h1 h2 => iv_far (by omega) h1 h2))
  have HG15 := Aside0.mk (Kd.M_kept HG14.out hk (fun k h1 h2 => iv_far (by omega) h1 h2))
  clear HW14 HX14 HG14
  have HXa15 := Aside0.mk (blk_kept2 HXa14.out hk (fun h => by have := h.lo; have := h.hi; omega))
  have HXb15 := Aside0.mk (blk_kept2 HXb14.out hk (fun h => by have := h.lo; have := h.hi; omega))
  have HXw_15 := Aside0.mk (blk_kept2 HXw_14.out hk (fun h => by have := h.lo; have := h.hi; omega))
  have HXx15 := Aside0.mk (blk_kept2 HXx14.out hk (fun h => by have := h.lo; have := h.hi; omega))
  have HXy15 := Aside0.mk (blk_kept2 HXy14.out hk (fun h => by have := h.lo; have := h.hi; omega))
  have HXg_15 := Aside0.mk (blk_kept2 HXg_14.out hk (fun h => by have := h.lo; have := h.hi; omega))
  clear HXa14 HXb14 HXw_14 HXx14 HXy14 HXg_14
  have HY15 := Aside0.mk hm
  clear hm hb hk HB14 HY14
  clear ba0 ba1 ba2 bb0 bb1 bb2 bw_0 bw_1 bw_2 bx0 bx1 bx2 by0 by1 by2 bg_0 bg_1 bg_2
  obtain ⟨ba0, ba1, ba2⟩ := box3 HXa15.out
  obtain ⟨bb0, bb1, bb2⟩ := box3 HXb15.out
  obtain ⟨bw_0, bw_1, bw_2⟩ := box3 HXw_15.out
  obtain ⟨bx0, bx1, bx2⟩ := box3 HXx15.out
  obtain ⟨by0, by1, by2⟩ := box3 HXy15.out
  obtain ⟨bg_0, bg_1, bg_2⟩ := box3 HXg_15.out
  go_wp2_with fail
  refine (eqQ_K (repr qq) _ (Kd.K_of_M _ HG15.out) (Kd.K_of_M _ HW15.out)).mono ?_
  rintro e w16 ⟨rfl, hb⟩
  have HB16 := Aside0.mk (HB15.out.trans (hb.mono HB15.out.size))
  have S16 := hb.size
  have HW16 := Aside0.mk (Kd.M_below HW15.out hb)
  have HX16 := Aside0.mk (Kd.M_below HX15.out hb)
  have HY16 := Aside0.mk (Kd.M_below HY15.out hb)
  have HG16 := Aside0.mk (Kd.M_below HG15.out hb)
  clear HW15 HX15 HY15 HG15
  have HXa16 := Aside0.mk (HXa15.out.below hb HXa15.out.lt)
  have HXb16 := Aside0.mk (HXb15.out.below hb HXb15.out.lt)
  have HXw_16 := Aside0.mk (HXw_15.out.below hb HXw_15.out.lt)
  have HXx16 := Aside0.mk (HXx15.out.below hb HXx15.out.lt)
  have HXy16 := Aside0.mk (HXy15.out.below hb HXy15.out.lt)
  have HXg_16 := Aside0.mk (HXg_15.out.below hb HXg_15.out.lt)
  clear HXa15 HXb15 HXw_15 HXx15 HXy15 HXg_15
  clear hb HB15
  clear ba0 ba1 ba2 bb0 bb1 bb2 bw_0 bw_1 bw_2 bx0 bx1 bx2 by0 by1 by2 bg_0 bg_1 bg_2
  obtain ⟨ba0, ba1, ba2⟩ := box3 HXa16.out
  obtain ⟨bb0, bb1, bb2⟩ := box3 HXb16.out
  obtain ⟨bw_0, bw_1, bw_2⟩ := box3 HXw_16.out
  obtain ⟨bx0, bx1, bx2⟩ := box3 HXx16.out
  obtain ⟨by0, by1, by2⟩ := box3 HXy16.out
  obtain ⟨bg_0, bg_1, bg_2⟩ := box3 HXg_16.out
  go_wp2_with fail
  refine (markQ_K w.heap.size _ (repr qq) (1) 1 n2_ _ HG16.out HB16.out.size (by rfl) Hn2_.out (by omega)).mono ?_
  rintro e w17 ⟨rfl, hm, hb, hk⟩
  have HB17 := Aside0.mk (HB16.out.trans hb)
  have S17 := hk.1
  have HW17 := Aside0.mk (Kd.M_kept HW16.out hk (fun k h1 h2 => iv_far (by omega) h1 h2))
  have HX17 := Aside0.mk (Kd.M_kept HX16.out hk (fun k h1 h2 => iv_far (by omega) h1 h2))
  have HY17 := Aside0.mk (Kd.M_kept HY16.out hk (fun k h1 h2 => iv_far (by omega) h1 h2))
  clear HW16 HX16 HY16
  have HXa17 := Aside0.mk (blk_kept2 HXa16.out hk (fun h => by have := h.lo; have := h.hi; omega))
  have HXb17 := Aside0.mk (blk_kept2 HXb16.out hk (fun h => by have := h.lo; have := h.hi; omega))
  have HXw_17 := Aside0.mk (blk_kept2 HXw_16.out hk (fun h => by have := h.lo; have := h.hi; omega))
  have HXx17 := Aside0.mk (blk_kept2 HXx16.out hk (fun h => by have := h.lo; have := h.hi; omega))
  have HXy17 := Aside0.mk (blk_kept2 HXy16.out hk (fun h => by have := h.lo; have := h.hi; omega))
  have HXg_17 := Aside0.mk (blk_kept2 HXg_16.out hk (fun h => by have := h.lo; have := h.hi; omega))
  clear HXa16 HXb16 HXw_16 HXx16 HXy16 HXg_16
  have HG17 := Aside0.mk hm
  clear hm hb hk HB16 HG16
  clear ba0 ba1 ba2 bb0 bb1 bb2 bw_0 bw_1 bw_2 bx0 bx1 bx2 by0 by1 by2 bg_0 bg_1 bg_2
  obtain ⟨ba0, ba1, ba2⟩ := box3 HXa17.out
  obtain ⟨bb0, bb1, bb2⟩ := box3 HXb17.out
  obtain ⟨bw_0, bw_1, bw_2⟩ := box3 HXw_17.out
  obtain ⟨bx0, bx1, bx2⟩ := box3 HXx17.out
  obtain ⟨by0, by1, by2⟩ := box3 HXy17.out
  obtain ⟨bg_0, bg_1, bg_2⟩ := box3 HXg_17.out
  go_wp2_with fail
  refine (heldQ_K (repr qq) (1) 1 n2_ _ (Kd.K_of_M _ HG17.out) (by rfl) Hn2_.out (by omega)).mono ?_
  rintro e w18 ⟨rfl, hb⟩
  have HB18 := Aside0.mk (HB17.out.trans (hb.mono HB17.out.size))
  have S18 := hb.size
  have HW18 := Aside0.mk (Kd.M_below HW17.out hb)
  have HX18 := Aside0.mk (Kd.M_below HX17.out hb)
  have HY18 := Aside0.mk (Kd.M_below HY17.out hb)
  have HG18 := Aside0.mk (Kd.M_below HG17.out hb)
  clear HW17 HX17 HY17 HG17
  have HXa18 := Aside0.mk (HXa17.out.below hb HXa17.out.lt)
  have HXb18 := Aside0.mk (HXb17.out.below hb HXb17.out.lt)
  have HXw_18 := Aside0.mk (HXw_17.out.below hb HXw_17.out.lt)
  have HXx18 := Aside0.mk (HXx17.out.below hb HXx17.out.lt)
  have HXy18 := Aside0.mk (HXy17.out.below hb HXy17.out.lt)
  have HXg_18 := Aside0.mk (HXg_17.out.below hb HXg_17.out.lt)
  clear HXa17 HXb17 HXw_17 HXx17 HXy17 HXg_17
  clear hb HB17
  clear HXx18
  clear HX18
  clear HXy18
  clear HY18
  clear HXg_18
  clear HG18
  clear ba0 ba1 ba2 bb0 bb1 bb2 bw_0 bw_1 bw_2 bx0 bx1 bx2 by0 by1 by2 bg_0 bg_1 bg_2
  obtain ⟨ba0, ba1, ba2⟩ := box3 HXa18.out
  obtain ⟨bb0, bb1, bb2⟩ := box3 HXb18.out
  obtain ⟨bw_0, bw_1, bw_2⟩ := box3 HXw_18.out
  go_upto_region 31 with fail
  have hBW := Below.refl w18.heap.size w18
  have H6 : Aside0 (∀ w', Below w18.heap.size w18 w' → Below w18.heap.size w18 w' ∧ w'.cell? ⟨w.heap.size, 0, none⟩ = some (.bool ra.neg) ∧ w'.cell? ⟨w.heap.size, 1, none⟩ = some (.slice A ra.num.length c) ∧ w'.cell? ⟨w.heap.size, 2, none⟩ = some (.slice B ra.den.length d) ∧ w'.cell? ⟨w.heap.size + 1, 0, none⟩ = some (.bool rb.neg) ∧ w'.cell? ⟨w.heap.size + 1, 1, none⟩ = some (.slice A' rb.num.length c') ∧ w'.cell? ⟨w.heap.size + 1, 2, none⟩ = some (.slice B' rb.den.length d')) := ⟨fun w' h => ⟨h, pw_cell_below h ba0, pw_cell_below h ba1, pw_cell_below h ba2, pw_cell_below h bb0, pw_cell_below h bb1, pw_cell_below h bb2⟩⟩
  have HA6 : Aside0 (∀ w', Below w18.heap.size w18 w' → ratK.K w' ra [.bool ra.neg, .slice A ra.num.length c, .slice B ra.den.length d]) := ⟨fun w' h => ratK.K_below h (ratK.K_below HB18.out HRA.out)⟩
  have HQ6 : Aside0 (∀ w', Below w18.heap.size w18 w' → ratK.K w' rb [.bool rb.neg, .slice A' rb.num.length c', .slice B' rb.den.length d']) := ⟨fun w' h => ratK.K_below h (ratK.K_below HB18.out HRB.out)⟩
  go_cut [13] (fun v wc => ∃ (g : Nat) (A : Option Addr) (c : Nat) (B : Option Addr) (d : Nat), v = .pointer (some ⟨g, 0, none⟩) ∧ Aside0 (CutPost w18 wc g (repr qq) A c B d))
  case first =>
    go_region_held3 (fun w' => Below w18.heap.size w18 w' ∧ w'.cell? ⟨w.heap.size, 0, none⟩ = some (.bool ra.neg) ∧ w'.cell? ⟨w.heap.size, 1, none⟩ = some (.slice A ra.num.length c) ∧ w'.cell? ⟨w.heap.size, 2, none⟩ = some (.slice B ra.den.length d) ∧ w'.cell? ⟨w.heap.size + 1, 0, none⟩ = some (.bool rb.neg) ∧ w'.cell? ⟨w.heap.size + 1, 1, none⟩ = some (.slice A' rb.num.length c') ∧ w'.cell? ⟨w.heap.size + 1, 2, none⟩ = some (.slice B' rb.den.length d'))
      ((refine H6.out _ ?_; first | assumption | exact below_drew hBW | exact below_drew (below_alloc hBW _) | (apply heldB; assumption; assumption) | (refine below_alloc ?_ _; first | assumption | exact below_drew hBW | (apply And.left; assumption)) | (refine below3 ?_ ?_; assumption; first | exact Nat.le_refl _ | (apply Below.size; assumption))))
      (first | (go_at_call_of 27 (Value.agg #[.bool ra.neg, .slice A ra.num.length c, .slice B ra.den.length d]); (with_reducible refine (toQ_K ra _ (HA6.out _ ?_) HSA.out).mono ?_); (apply And.left; assumption); rintro e wa ⟨Aa, ca, Ba, da, rfl, hoa, hba⟩; have hBwa : Below w18.heap.size w18 wa := (by (apply heldB; assumption; assumption)); (first | (have hk : Blk wa w18.heap.size _ _ := newbox hba; have hlwa := hk.lt; obtain ⟨⟨z0, z1, z2⟩, q0, q1, q2⟩ := bfacts hk) | (have hk : Blk wa w18.heap.size _ _ := newboxd hba; have hlwa := hk.lt; obtain ⟨⟨z0, z1, z2⟩, q0, q1, q2⟩ := bfacts hk) | (have hk := newbox hba; have hlwa := hk.lt; obtain ⟨⟨z0, z1, z2⟩, q0, q1, q2⟩ := bfacts hk) | (have hk := hk.below hba hk.lt; have hlwa := hk.lt; obtain ⟨⟨z0, z1, z2⟩, q0, q1, q2⟩ := bfacts hk) | skip)) | (go_at_call_of 27 (Value.agg #[.bool rb.neg, .slice A' rb.num.length c', .slice B' rb.den.length d']); (with_reducible refine (toQ_K rb _ (HQ6.out _ ?_) HSB.out).mono ?_); (apply And.left; assumption); rintro e wb ⟨Ab, cb, Bb, db, rfl, hob, hbb⟩; have hBwb : Below w18.heap.size w18 wb := (by (apply heldB; assumption; assumption)); have hab : Below wa.heap.size wa wb := (by first | exact hbb | exact (below_alloc (Below.refl wa.heap.size wa) _).trans (hbb.mono (by simp))); (first | (have hk : Blk wb w18.heap.size _ _ := newbox hbb; have hlwb := hk.lt; obtain ⟨⟨z0, z1, z2⟩, q0, q1, q2⟩ := bfacts hk) | (have hk : Blk wb w18.heap.size _ _ := newboxd hbb; have hlwb := hk.lt; obtain ⟨⟨z0, z1, z2⟩, q0, q1, q2⟩ := bfacts hk) | (have hk := newbox hbb; have hlwb := hk.lt; obtain ⟨⟨z0, z1, z2⟩, q0, q1, q2⟩ := bfacts hk) | (have hk := hk.below hbb hk.lt; have hlwb := hk.lt; obtain ⟨⟨z0, z1, z2⟩, q0, q1, q2⟩ := bfacts hk) | skip)) | (go_at_call 46; (with_reducible refine (RatAdd_K ra rb qq _ ?_ ?_ HLA.out HLB.out HSS.out HQ.out).mono ?_); (first | exact ratK.K_below hab (ratK.K_of_M hoa) | exact ratK.K_below (below_alloc hab _) (ratK.K_of_M hoa)); (first | exact ratK.K_of_M hob | exact ratK.K_below (below_alloc (Below.refl wb.heap.size wb) _) (ratK.K_of_M hob)); rintro e wm ⟨Am, cm, Bm, dm, rfl, hom, hbm⟩; have hBwm : Below w18.heap.size w18 wm := (by (apply heldB; assumption; assumption)); (first | (have hk : Blk wm w18.heap.size _ _ := newbox hbm; have hlwm := hk.lt; obtain ⟨⟨z0, z1, z2⟩, q0, q1, q2⟩ := bfacts hk) | (have hk : Blk wm w18.heap.size _ _ := newboxd hbm; have hlwm := hk.lt; obtain ⟨⟨z0, z1, z2⟩, q0, q1, q2⟩ := bfacts hk) | (have hk := newbox hbm; have hlwm := hk.lt; obtain ⟨⟨z0, z1, z2⟩, q0, q1, q2⟩ := bfacts hk) | (have hk := hk.below hbm hk.lt; have hlwm := hk.lt; obtain ⟨⟨z0, z1, z2⟩, q0, q1, q2⟩ := bfacts hk) | skip)))
    all_goals (go_wp2_with fail; go_meet)
    all_goals (first | exact ⟨_, _, _, _, _, rfl, ⟨cut_last hBwm hom (by first | exact hBwb.size | exact Nat.le_trans hBwb.size (by simp))⟩⟩ | exact ⟨_, _, _, _, _, rfl, ⟨cut_early hBwm hom (by first | exact hlwb | simp) (by first | exact Nat.le_refl _ | exact hBwa.size | exact hBwb.size) hk⟩⟩)
  clear H6 HA6 HQ6 hBW
  obtain ⟨g13, A_g13, c_g13, B_g13, d_g13, rfl, hC⟩ := hcut
  generalize wc = w19 at hC ⊢
  obtain ⟨hb, hWg13, hk, hM⟩ := hC.out
  clear hC
  have HN0 := Aside0.mk (fresh_M (w0 := w) hM HB18.out.size)
  have HB19 := Aside0.mk (HB18.out.trans (hb.mono HB18.out.size))
  have S19 := hb.size
  have HW19 := Aside0.mk (Kd.M_below HW18.out hb)
  clear HW18
  have HXa19 := Aside0.mk (HXa18.out.below hb HXa18.out.lt)
  have HXb19 := Aside0.mk (HXb18.out.below hb HXb18.out.lt)
  have HXw_19 := Aside0.mk (HXw_18.out.below hb HXw_18.out.lt)
  clear HXa18 HXb18 HXw_18
  have HXh_19 := Aside0.mk hk
  have Lh_ := hk.lt
  have HH19 := HN0
  clear hb hk hM HN0 HB18
  clear ba0 ba1 ba2 bb0 bb1 bb2 bw_0 bw_1 bw_2
  obtain ⟨ba0, ba1, ba2⟩ := box3 HXa19.out
  obtain ⟨bb0, bb1, bb2⟩ := box3 HXb19.out
  obtain ⟨bw_0, bw_1, bw_2⟩ := box3 HXw_19.out
  obtain ⟨bh_0, bh_1, bh_2⟩ := box3 HXh_19.out
  go_wp2_with fail
  refine (eqQ_K (repr qq) _ (Kd.K_of_M _ HH19.out) (Kd.K_of_M _ HW19.out)).mono ?_
  rintro e w20 ⟨rfl, hb⟩
  have HB20 := Aside0.mk (HB19.out.trans (hb.mono HB19.out.size))
  have S20 := hb.size
  have HW20 := Aside0.mk (Kd.M_below HW19.out hb)
  have HH20 := Aside0.mk (Kd.M_below HH19.out hb)
  clear HW19 HH19
  have HXa20 := Aside0.mk (HXa19.out.below hb HXa19.out.lt)
  have HXb20 := Aside0.mk (HXb19.out.below hb HXb19.out.lt)
  have HXw_20 := Aside0.mk (HXw_19.out.below hb HXw_19.out.lt)
  have HXh_20 := Aside0.mk (HXh_19.out.below hb HXh_19.out.lt)
  clear HXa19 HXb19 HXw_19 HXh_19
  clear hb HB19
  go_wp2
  go_ret
  exact ⟨rfl, HB20.out⟩
end Go.Proofs.Ytjmgemmieedkiaa.Hand
