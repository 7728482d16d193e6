/- The texts of rationals: the program's Rat.text and RatText, the document's l1Text and RatText. Conditions: the rational can be read, its elements are limbs, and it has at most 2^20 limbs. -/
import Derived.Test.YtjmgemmieedkiaaZHntext
import Derived.Test.YtjmgemmieedkiaaZHsr2
import Derived.Test.YtjmgemmieedkiaaZHlrat
set_option linter.unusedVariables false
set_option linter.unusedSimpArgs false
namespace Go.Proofs.Ytjmgemmieedkiaa.Hand
open Go.RowKit Go.Proofs.YtjmgemmieedkiaaW.PrintWords Go.Proofs.YtjmgemmieedkiaaW.PrintLast Go.Proofs.YtjmgemmieedkiaaW.PrintMore
/-- The text of a rational, as bytes. -/
def ratText (q : Rat) : List Int := (if (repr q).neg then [45] else []) ++ decL q.num.natAbs ++ (if q.den = 1 then [] else 47 :: decL q.den)
theorem str_append (a b : List Int) : strOfNums a ++ strOfNums b = strOfNums (a ++ b) := by
  unfold strOfNums
  apply ByteArray.ext
  simp
theorem str_size (l : List Int) : (strOfNums l).size = l.length := by
  unfold strOfNums
  simp [ByteArray.size]
theorem dec_size (n : Nat) (h : (lim n).length ≤ 137438953472) : (strOfNums (decL n)).size ≤ 1374389534721 := by
  rw [str_size]
  have := decL_length_le (lim_len_bound (limbs_lim n) rfl)
  omega
set_option maxHeartbeats 1000000 in
set_option maxRecDepth 100000 in
theorem rtext_calls (q : Rat) (A : Option Addr) (c : Nat) (B : Option Addr) (d : Nat) (w : World) (hr : ratK.K w (repr q) [.bool (repr q).neg, .slice A (repr q).num.length c, .slice B (repr q).den.length d])
    (hn : (repr q).num.length ≤ 137438953472 ∧ (repr q).den.length ≤ 137438953472) :
    Calls Try.prog 67 #[.agg #[.bool (repr q).neg, .slice A (repr q).num.length c, .slice B (repr q).den.length d]] w fun e w' => e = .returned (.string (strOfNums (ratText q))) ∧ Below w.heap.size w w' := by
  have hu := Try.underlying34
  have HR := Aside0.mk hr
  have HN := Aside0.mk hn
  clear hr hn
  obtain ⟨s, hs⟩ : ∃ s, s = (repr q).neg := ⟨_, rfl⟩
  obtain ⟨ln, hln⟩ : ∃ n, n = (repr q).num.length := ⟨_, rfl⟩
  obtain ⟨ld, hld⟩ : ∃ n, n = (repr q).den.length := ⟨_, rfl⟩
  rw [← hs, ← hln, ← hld] at HR ⊢
  have HRT := Aside0.mk (show ratText q = (if s then [45] else []) ++ decL q.num.natAbs ++ (if q.den = 1 then [] else 47 :: decL q.den) by rw [hs]; rfl)
  obtain ⟨A1, c1, B1, d1, e1, k1, k2, k3, k4⟩ := ratK_form HR.out
  simp only [List.cons.injEq, Value.slice.injEq, and_true] at e1
  obtain ⟨z1, ⟨rfl, z2, rfl⟩, rfl, z3, rfl⟩ := e1
  have H1 := Aside0.mk k2
  have H2 := Aside0.mk k4
  rw [← hln] at H1
  rw [← hld] at H2
  obtain ⟨sN, hsN⟩ : ∃ s, s = strOfNums (decL q.num.natAbs) := ⟨_, rfl⟩
  obtain ⟨sD, hsD⟩ : ∃ s, s = strOfNums (decL q.den) := ⟨_, rfl⟩
  have zN : sN.size ≤ 1374389534721 := by rw [hsN]; exact dec_size _ HN.out.1
  have zD : sD.size ≤ 1374389534721 := by rw [hsD]; exact dec_size _ HN.out.2
  have c1 : ¬ (9223372036854775807 < 1 + sN.size) := by omega
  have c2 : ¬ (9223372036854775807 < 1 + sD.size) := by omega
  have c3 : ¬ (9223372036854775807 < sN.size + (1 + sD.size)) := by omega
  have c4 : ¬ (9223372036854775807 < 1 + sN.size + (1 + sD.size)) := by omega
  have HSN := Aside0.mk hsN
  have HSD := Aside0.mk hsD
  have HLN := Aside0.mk hln
  have HLD := Aside0.mk hld
  have hbx := Blk.new w 34 #[.bool s, .slice A ln c, .slice B ld d]
  have hbw := below_alloc (Below.refl w.heap.size w) (.cells #[.bool s, .slice A ln c, .slice B ld d] 34)
  have HBX := Aside0.mk hbx
  have HBW := Aside0.mk hbw
  clear hs hln hld k1 k2 k3 k4 hbx hbw HR z1 z2 z3 hsN hsD zN zD
  cases s
  · by_cases hd : q.den = 1
    · have HD := Aside0.mk (show decide (q.den = 1) = true from decide_eq_true hd)
      rw [if_pos hd, if_neg (by decide)] at HRT
      have HRS := Aside0.mk (show sN = strOfNums (ratText q) by rw [HRT.out, HSN.out, List.nil_append, List.append_nil])
      clear hd
      go_enter Try.func67, Try.ntmps67
      go_wp2_with fail
      have hnt := ntext_calls A c q.num.natAbs (w.alloc (.cells #[.bool false, .slice A ln c, .slice B ld d] 34)) (by rw [show (lim q.num.natAbs).length = ln from HLN.out.symm]; exact Kd.C_below H1.out HBW.out) HN.out.1
      rw [show (lim q.num.natAbs).length = ln from HLN.out.symm, ← HSN.out] at hnt
      refine hnt.mono ?_
      rintro e w1 ⟨rfl, hb⟩
      have HB1 := Aside0.mk (HBW.out.trans (hb.mono HBW.out.size))
      obtain ⟨x0, x1, x2⟩ := box3 (HBX.out.below hb HBX.out.lt)
      have HX1 := Aside0.mk (HBX.out.below hb HBX.out.lt)
      clear hb hnt HBW
      go_wp2_with fail
      have hone := one_calls B d (repr q).den true w1 (by rw [← HLD.out]; exact Kd.C_below H2.out HB1.out) (limbs_lim _) (plain_lim _) (by rw [val_den]; exact HD.out)
      rw [← HLD.out] at hone
      refine hone.mono ?_
      rintro e w2 ⟨rfl, hb⟩
      have HB2 := Aside0.mk (HB1.out.trans (hb.mono HB1.out.size))
      obtain ⟨x0, x1, x2⟩ := box3 (HX1.out.below hb HX1.out.lt)
      clear hb hone HB1
      go_wp2
      go_ret
      exact ⟨by rw [← HRS.out]; rfl, HB2.out⟩
    · have HD := Aside0.mk (show decide (q.den = 1) = false from decide_eq_false hd)
      rw [if_neg hd, if_neg (by decide)] at HRT
      have HRS := Aside0.mk (show sN ++ ({ data := #[47] } ++ sD) = strOfNums (ratText q) by rw [HRT.out, HSN.out, HSD.out, List.nil_append, ← str_append]; rfl)
      clear hd
      go_enter Try.func67, Try.ntmps67
      go_wp2_with fail
      have hnt := ntext_calls A c q.num.natAbs (w.alloc (.cells #[.bool false, .slice A ln c, .slice B ld d] 34)) (by rw [show (lim q.num.natAbs).length = ln from HLN.out.symm]; exact Kd.C_below H1.out HBW.out) HN.out.1
      rw [show (lim q.num.natAbs).length = ln from HLN.out.symm, ← HSN.out] at hnt
      refine hnt.mono ?_
      rintro e w1 ⟨rfl, hb⟩
      have HB1 := Aside0.mk (HBW.out.trans (hb.mono HBW.out.size))
      obtain ⟨x0, x1, x2⟩ := box3 (HBX.out.below hb HBX.out.lt)
      have HX1 := Aside0.mk (HBX.out.below hb HBX.out.lt)
      clear hb hnt HBW
      go_wp2_with fail
      have hone := one_calls B d (repr q).den false w1 (by rw [← HLD.out]; exact Kd.C_below H2.out HB1.out) (limbs_lim _) (plain_lim _) (by rw [val_den]; exact HD.out)
      rw [← HLD.out] at hone
      refine hone.mono ?_
      rintro e w2 ⟨rfl, hb⟩
      have HB2 := Aside0.mk (HB1.out.trans (hb.mono HB1.out.size))
      obtain ⟨x0, x1, x2⟩ := box3 (HX1.out.below hb HX1.out.lt)
      clear hb hone HB1
      go_wp2_with fail
      have hdt := ntext_calls B d q.den w2 (by rw [show (lim q.den).length = ld from HLD.out.symm]; exact Kd.C_below H2.out HB2.out) HN.out.2
      rw [show (lim q.den).length = ld from HLD.out.symm, ← HSD.out] at hdt
      refine hdt.mono ?_
      rintro e w3 ⟨rfl, hb⟩
      have HB3 := Aside0.mk (HB2.out.trans (hb.mono HB2.out.size))
      clear hb hdt HB2
      go_wp2
      go_ret
      exact ⟨by rw [← HRS.out]; rfl, HB3.out⟩
  · by_cases hd : q.den = 1
    · have HD := Aside0.mk (show decide (q.den = 1) = true from decide_eq_true hd)
      rw [if_pos hd, if_pos (by decide)] at HRT
      have HRS := Aside0.mk (show { data := #[45] } ++ sN = strOfNums (ratText q) by rw [HRT.out, HSN.out, List.append_nil]; rw [← str_append]; rfl)
      clear hd
      go_enter Try.func67, Try.ntmps67
      go_wp2_with fail
      have hnt := ntext_calls A c q.num.natAbs (w.alloc (.cells #[.bool true, .slice A ln c, .slice B ld d] 34)) (by rw [show (lim q.num.natAbs).length = ln from HLN.out.symm]; exact Kd.C_below H1.out HBW.out) HN.out.1
      rw [show (lim q.num.natAbs).length = ln from HLN.out.symm, ← HSN.out] at hnt
      refine hnt.mono ?_
      rintro e w1 ⟨rfl, hb⟩
      have HB1 := Aside0.mk (HBW.out.trans (hb.mono HBW.out.size))
      obtain ⟨x0, x1, x2⟩ := box3 (HBX.out.below hb HBX.out.lt)
      have HX1 := Aside0.mk (HBX.out.below hb HBX.out.lt)
      clear hb hnt HBW
      go_wp2_with fail
      have hone := one_calls B d (repr q).den true w1 (by rw [← HLD.out]; exact Kd.C_below H2.out HB1.out) (limbs_lim _) (plain_lim _) (by rw [val_den]; exact HD.out)
      rw [← HLD.out] at hone
      refine hone.mono ?_
      rintro e w2 ⟨rfl, hb⟩
      have HB2 := Aside0.mk (HB1.out.trans (hb.mono HB1.out.size))
      obtain ⟨x0, x1, x2⟩ := box3 (HX1.out.below hb HX1.out.lt)
      clear hb hone HB1
      go_wp2
      go_ret
      exact ⟨by rw [← HRS.out]; rfl, HB2.out⟩
    · have HD := Aside0.mk (show decide (q.den = 1) = false from decide_eq_false hd)
      rw [if_neg hd, if_pos (by decide)] at HRT
      have HRS := Aside0.mk (show { data := #[45] } ++ sN ++ ({ data := #[47] } ++ sD) = strOfNums (ratText q) by rw [HRT.out, HSN.out, HSD.out]; rw [← str_append, ← str_append]; rfl)
      clear hd
      go_enter Try.func67, Try.ntmps67
      go_wp2_with fail
      have hnt := ntext_calls A c q.num.natAbs (w.alloc (.cells #[.bool true, .slice A ln c, .slice B ld d] 34)) (by rw [show (lim q.num.natAbs).length = ln from HLN.out.symm]; exact Kd.C_below H1.out HBW.out) HN.out.1
      rw [show (lim q.num.natAbs).length = ln from HLN.out.symm, ← HSN.out] at hnt
      refine hnt.mono ?_
      rintro e w1 ⟨rfl, hb⟩
      have HB1 := Aside0.mk (HBW.out.trans (hb.mono HBW.out.size))
      obtain ⟨x0, x1, x2⟩ := box3 (HBX.out.below hb HBX.out.lt)
      have HX1 := Aside0.mk (HBX.out.below hb HBX.out.lt)
      clear hb hnt HBW
      go_wp2_with fail
      have hone := one_calls B d (repr q).den false w1 (by rw [← HLD.out]; exact Kd.C_below H2.out HB1.out) (limbs_lim _) (plain_lim _) (by rw [val_den]; exact HD.out)
      rw [← HLD.out] at hone
      refine hone.mono ?_
      rintro e w2 ⟨rfl, hb⟩
      have HB2 := Aside0.mk (HB1.out.trans (hb.mono HB1.out.size))
      obtain ⟨x0, x1, x2⟩ := box3 (HX1.out.below hb HX1.out.lt)
      clear hb hone HB1
      go_wp2_with fail
      have hdt := ntext_calls B d q.den w2 (by rw [show (lim q.den).length = ld from HLD.out.symm]; exact Kd.C_below H2.out HB2.out) HN.out.2
      rw [show (lim q.den).length = ld from HLD.out.symm, ← HSD.out] at hdt
      refine hdt.mono ?_
      rintro e w3 ⟨rfl, hb⟩
      have HB3 := Aside0.mk (HB2.out.trans (hb.mono HB2.out.size))
      clear hb hdt HB2
      go_wp2
      go_ret
      exact ⟨by rw [← HRS.out]; rfl, HB3.out⟩
end Go.Proofs.Ytjmgemmieedkiaa.Hand
