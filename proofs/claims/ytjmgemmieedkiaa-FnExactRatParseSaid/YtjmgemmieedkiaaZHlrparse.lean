/- The law FnExactRatParse: true at all texts. Conditions: the library's variable holds some number. -/
import Derived.Test.YtjmgemmieedkiaaZHlrat2
import Derived.Test.YtjmgemmieedkiaaZHrat6
import Derived.Test.YtjmgemmieedkiaaZHlrat
import Derived.Test.YtjmgemmieedkiaaZHsparse
set_option linter.unusedVariables false
set_option linter.unusedSimpArgs false
namespace Go.Proofs.Ytjmgemmieedkiaa.Hand
open Go.RowKit Go.Proofs.YtjmgemmieedkiaaW.PrintWords Go.Proofs.YtjmgemmieedkiaaW.PrintLast Go.Proofs.YtjmgemmieedkiaaW.PrintMore
set_option maxHeartbeats 4000000 in
set_option maxRecDepth 100000 in
theorem lawRatParse (s : ByteArray) (m : Int) (w : World) (hm : w.cell? ⟨0, 0, none⟩ = some (.int .i64 m)) (hs9 : s.size ≤ 9223372036854775807) :
    Calls Try.prog 13 #[.string s] w fun e w' => e = .returned (.bool true) ∧ Below w.heap.size w w' := by
  have hu' := Try.underlying34
  have HM := Aside0.mk hm
  clear hm
  by_cases hs : s.size ≤ 1048576
  rotate_left
  · have d1 : decide ((1048576 : Int) < (s.size : Int)) = true := decide_eq_true (by omega)
    have d2 : decide (1048576 < s.size) = true := decide_eq_true (by omega)
    go_enter Try.func13, Try.ntmps13
    go_wp2
    go_ret
    exact ⟨rfl, Below.refl _ _⟩
  have d1 : decide ((1048576 : Int) < (s.size : Int)) = false := decide_eq_false (by omega)
  have d2 : decide (1048576 < s.size) = false := decide_eq_false (by omega)
  obtain ⟨qq, code, hp⟩ := parseIs_ex (sb s)
  have HP := Aside0.mk hp
  have hsz := parseC_size hp
  have hcc : (code != code) = false := by simp
  have HSZ := Aside0.mk hs
  clear hp hs
  obtain ⟨n0_, hn0_⟩ : ∃ v : Int, v = ((1 + ((repr qq).num.length + (repr qq).den.length) : Nat) : Int) := ⟨_, rfl⟩
  have n0_0 : 0 ≤ n0_ := by omega
  have n0_d : decide (n0_ < 0) = false := decide_eq_false (by omega)
  have n0_e : (n0_ != n0_) = false := by simp
  have Hn0_ := Aside0.mk hn0_
  clear hn0_
  go_enter Try.func13, Try.ntmps13
  have HB0 := Aside0.mk (Below.refl w.heap.size w)
  go_wp2_with fail
  refine (spec_RatParse_K s qq code _ HSZ.out HP.out).mono ?_
  rintro e w1 ⟨A1, c1, B1, d1, rfl, ho, hb⟩
  have HN0 := Aside0.mk (fresh_M (w0 := w) ho HB0.out.size)
  clear ho
  have HB1 := Aside0.mk (HB0.out.trans (hb.mono HB0.out.size))
  have S1 := hb.size
  clear hb HB0
  have HW1 := HN0
  clear HN0
  go_wp2_with fail
  have hb := below_alloc (Below.refl w1.heap.size w1) (.cells #[.bool (repr qq).neg, .slice A1 (repr qq).num.length c1, .slice B1 (repr qq).den.length d1] 34)
  have hk := Blk.new w1 34 #[.bool (repr qq).neg, .slice A1 (repr qq).num.length c1, .slice B1 (repr qq).den.length d1]
  generalize w1.alloc (.cells #[.bool (repr qq).neg, .slice A1 (repr qq).num.length c1, .slice B1 (repr qq).den.length d1] 34) = w2 at hb hk ⊢
  have HB2 := Aside0.mk (HB1.out.trans (hb.mono HB1.out.size))
  have S2 := hb.size
  have HW2 := Aside0.mk (Kd.M_below HW1.out hb)
  clear HW1
  have HXw_2 := Aside0.mk hk
  have Lw_ := hk.lt
  clear hb hk HB1
  refine (RatParse_K s qq code m _ HSZ.out (pw_cell_below HB2.out HM.out) HP.out).mono ?_
  rintro e w3 ⟨A2, c2, B2, d2, rfl, ho, hb⟩
  have HN0 := Aside0.mk (fresh_M (w0 := w) ho HB2.out.size)
  clear ho
  have HB3 := Aside0.mk (HB2.out.trans (hb.mono HB2.out.size))
  have S3 := hb.size
  have HW3 := Aside0.mk (Kd.M_below HW2.out hb)
  clear HW2
  have HXw_3 := Aside0.mk (HXw_2.out.below hb HXw_2.out.lt)
  clear HXw_2
  clear hb HB2
  have HG3 := HN0
  clear HN0
  obtain ⟨bw_0, bw_1, bw_2⟩ := box3 HXw_3.out
  go_upto_region 5 with fail
  have hb := below_alloc (Below.refl w3.heap.size w3) (.cells #[.bool (repr qq).neg, .slice A2 (repr qq).num.length c2, .slice B2 (repr qq).den.length d2] 34)
  have hk := Blk.new w3 34 #[.bool (repr qq).neg, .slice A2 (repr qq).num.length c2, .slice B2 (repr qq).den.length d2]
  generalize w3.alloc (.cells #[.bool (repr qq).neg, .slice A2 (repr qq).num.length c2, .slice B2 (repr qq).den.length d2] 34) = w4 at hb hk ⊢
  have HB4 := Aside0.mk (HB3.out.trans (hb.mono HB3.out.size))
  have S4 := hb.size
  have HW4 := Aside0.mk (Kd.M_below HW3.out hb)
  have HG4 := Aside0.mk (Kd.M_below HG3.out hb)
  clear HW3 HG3
  have HXw_4 := Aside0.mk (HXw_3.out.below hb HXw_3.out.lt)
  clear HXw_3
  have HXg_4 := Aside0.mk hk
  have Lg_ := hk.lt
  clear hb hk HB3
  clear bw_0 bw_1 bw_2
  obtain ⟨bw_0, bw_1, bw_2⟩ := box3 HXw_4.out
  obtain ⟨bg_0, bg_1, bg_2⟩ := box3 HXg_4.out
  go_wp2_with fail
  refine (eqQ_K (repr qq) _ (Kd.K_of_M _ HG4.out) (Kd.K_of_M _ HW4.out)).mono ?_
  rintro e w5 ⟨rfl, hb⟩
  have HB5 := Aside0.mk (HB4.out.trans (hb.mono HB4.out.size))
  have S5 := hb.size
  have HW5 := Aside0.mk (Kd.M_below HW4.out hb)
  have HG5 := Aside0.mk (Kd.M_below HG4.out hb)
  clear HW4 HG4
  have HXw_5 := Aside0.mk (HXw_4.out.below hb HXw_4.out.lt)
  have HXg_5 := Aside0.mk (HXg_4.out.below hb HXg_4.out.lt)
  clear HXw_4 HXg_4
  clear hb HB4
  clear bw_0 bw_1 bw_2 bg_0 bg_1 bg_2
  obtain ⟨bw_0, bw_1, bw_2⟩ := box3 HXw_5.out
  obtain ⟨bg_0, bg_1, bg_2⟩ := box3 HXg_5.out
  go_wp2_with fail
  refine (markQ_K w.heap.size _ (repr qq) (1) 1 n0_ _ HG5.out HB5.out.size (by rfl) Hn0_.out (by omega)).mono ?_
  rintro e w6 ⟨rfl, hm, hb, hk⟩
  have HB6 := Aside0.mk (HB5.out.trans hb)
  have S6 := hk.1
  have HW6 := Aside0.mk (Kd.M_kept HW5.out hk (fun k h1 h2 => iv_far (by omega) h1 h2))
  clear HW5
  have HXw_6 := Aside0.mk (blk_kept2 HXw_5.out hk (fun h => by have := h.lo; have := h.hi; omega))
  have HXg_6 := Aside0.mk (blk_kept2 HXg_5.out hk (fun h => by have := h.lo; have := h.hi; omega))
  clear HXw_5 HXg_5
  have HG6 := Aside0.mk hm
  clear hm hb hk HB5 HG5
  clear bw_0 bw_1 bw_2 bg_0 bg_1 bg_2
  obtain ⟨bw_0, bw_1, bw_2⟩ := box3 HXw_6.out
  obtain ⟨bg_0, bg_1, bg_2⟩ := box3 HXg_6.out
  go_wp2_with fail
  refine (heldQ_K (repr qq) (1) 1 n0_ _ (Kd.K_of_M _ HG6.out) (by rfl) Hn0_.out (by omega)).mono ?_
  rintro e w7 ⟨rfl, hb⟩
  have HB7 := Aside0.mk (HB6.out.trans (hb.mono HB6.out.size))
  have S7 := hb.size
  have HW7 := Aside0.mk (Kd.M_below HW6.out hb)
  have HG7 := Aside0.mk (Kd.M_below HG6.out hb)
  clear HW6 HG6
  have HXw_7 := Aside0.mk (HXw_6.out.below hb HXw_6.out.lt)
  have HXg_7 := Aside0.mk (HXg_6.out.below hb HXg_6.out.lt)
  clear HXw_6 HXg_6
  clear hb HB6
  clear HXg_7
  clear HG7
  clear bw_0 bw_1 bw_2 bg_0 bg_1 bg_2
  obtain ⟨bw_0, bw_1, bw_2⟩ := box3 HXw_7.out
  go_wp2_with fail
  refine (RatParse_K s qq code m _ HSZ.out (pw_cell_below HB7.out HM.out) HP.out).mono ?_
  rintro e w8 ⟨A3, c3, B3, d3, rfl, ho, hb⟩
  have HN0 := Aside0.mk (fresh_M (w0 := w) ho HB7.out.size)
  clear ho
  have HB8 := Aside0.mk (HB7.out.trans (hb.mono HB7.out.size))
  have S8 := hb.size
  have HW8 := Aside0.mk (Kd.M_below HW7.out hb)
  clear HW7
  have HXw_8 := Aside0.mk (HXw_7.out.below hb HXw_7.out.lt)
  clear HXw_7
  clear hb HB7
  have HH8 := HN0
  clear HN0
  clear bw_0 bw_1 bw_2
  obtain ⟨bw_0, bw_1, bw_2⟩ := box3 HXw_8.out
  go_upto_region 16 with fail
  have hb := below_alloc (Below.refl w8.heap.size w8) (.cells #[.bool (repr qq).neg, .slice A3 (repr qq).num.length c3, .slice B3 (repr qq).den.length d3] 34)
  have hk := Blk.new w8 34 #[.bool (repr qq).neg, .slice A3 (repr qq).num.length c3, .slice B3 (repr qq).den.length d3]
  generalize w8.alloc (.cells #[.bool (repr qq).neg, .slice A3 (repr qq).num.length c3, .slice B3 (repr qq).den.length d3] 34) = w9 at hb hk ⊢
  have HB9 := Aside0.mk (HB8.out.trans (hb.mono HB8.out.size))
  have S9 := hb.size
  have HW9 := Aside0.mk (Kd.M_below HW8.out hb)
  have HH9 := Aside0.mk (Kd.M_below HH8.out hb)
  clear HW8 HH8
  have HXw_9 := Aside0.mk (HXw_8.out.below hb HXw_8.out.lt)
  clear HXw_8
  have HXh_9 := Aside0.mk hk
  have Lh_ := hk.lt
  clear hb hk HB8
  clear bw_0 bw_1 bw_2
  obtain ⟨bw_0, bw_1, bw_2⟩ := box3 HXw_9.out
  obtain ⟨bh_0, bh_1, bh_2⟩ := box3 HXh_9.out
  go_wp2_with fail
  refine (eqQ_K (repr qq) _ (Kd.K_of_M _ HH9.out) (Kd.K_of_M _ HW9.out)).mono ?_
  rintro e w10 ⟨rfl, hb⟩
  have HB10 := Aside0.mk (HB9.out.trans (hb.mono HB9.out.size))
  have S10 := hb.size
  have HW10 := Aside0.mk (Kd.M_below HW9.out hb)
  have HH10 := Aside0.mk (Kd.M_below HH9.out hb)
  clear HW9 HH9
  have HXw_10 := Aside0.mk (HXw_9.out.below hb HXw_9.out.lt)
  have HXh_10 := Aside0.mk (HXh_9.out.below hb HXh_9.out.lt)
  clear HXw_9 HXh_9
  clear hb HB9
  go_wp2
  go_ret
  exact ⟨rfl, HB10.out⟩
end Go.Proofs.Ytjmgemmieedkiaa.Hand
