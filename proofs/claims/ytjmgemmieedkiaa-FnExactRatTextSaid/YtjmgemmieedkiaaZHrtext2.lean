/- The texts of rationals: the document's l1Text, and RatText of both. Conditions: the rational can be read, its elements are limbs, and it has at most 2^37 limbs in each list. -/
import Derived.Test.YtjmgemmieedkiaaZHrtext
import Derived.Test.YtjmgemmieedkiaaZHrat7
set_option linter.unusedVariables false
set_option linter.unusedSimpArgs false
namespace Go.Proofs.Ytjmgemmieedkiaa.Hand
open Go.RowKit Go.Proofs.YtjmgemmieedkiaaW.PrintWords Go.Proofs.YtjmgemmieedkiaaW.PrintLast Go.Proofs.YtjmgemmieedkiaaW.PrintMore
theorem l1BitsT (A : Option Addr) (c : Nat) (l : List Int) (w : World) (hr : (Kd.int .u32).C w A l.length l) (hl : Limbs l) (hn : l.length ≤ 1099511627776) :
    Calls Try.prog 49 #[.slice A l.length c] w fun e w' => ∃ A1 c1, e = .returned (.slice A1 (bin (val l)).length c1) ∧ Kd.bool.C w' A1 (bin (val l)).length (bin (val l)) ∧ Below w.heap.size w w' := by
  refine (l1Bits_calls A c l w hr hl hn).mono ?_
  rintro e w' ⟨v, rfl, ho, hb⟩
  obtain ⟨A1, c1, rfl⟩ := Kd.R_slice ho
  exact ⟨A1, c1, rfl, (Kd.R_reads' ho).2.2, hb⟩
theorem l1DecimalX (A : Option Addr) (c n : Nat) (w : World) (hr : Kd.bool.C w A (bin n).length (bin n)) (hn : (bin n).length ≤ 1099511627776) :
    Calls Try.prog 103 #[.slice A (bin n).length c] w fun e w' => e = .returned (.string (strOfNums (decL n))) ∧ Below w.heap.size w w' := by
  have h := l1Decimal_calls A c (bin n) w hr hn
  rw [bval_bin] at h
  exact h
/-- Is the denominator one? By its limbs. -/
theorem den_cases (q : Rat) : ((repr q).den.length = 1 ∧ rd (repr q).den 0 = 1 ∧ q.den = 1) ∨ ((repr q).den.length ≠ 1 ∧ q.den ≠ 1) ∨ ((repr q).den.length = 1 ∧ rd (repr q).den 0 ≠ 1 ∧ q.den ≠ 1) := by
  have hv := val_den q
  by_cases h : (repr q).den.length = 1
  · obtain ⟨x, hx⟩ : ∃ x, (repr q).den = [x] := by
      match (repr q).den, h with
      | [x], _ => exact ⟨x, rfl⟩
    have hl := (repr_limbs q).2 x (by rw [hx]; simp)
    rw [hx] at hv ⊢
    have e : rd [x] 0 = x := rfl
    rw [e]
    have hv' : x.toNat = q.den := by simpa [val] using hv
    by_cases h1 : x = 1
    · left; exact ⟨rfl, h1, by rw [← hv', h1]; rfl⟩
    · right; right; exact ⟨rfl, h1, by omega⟩
  · right; left
    refine ⟨h, fun h1 => h ?_⟩
    show (lim q.den).length = 1
    rw [h1, lim_pos (by omega)]
    simp [lim_zero]
set_option maxHeartbeats 1000000 in
set_option maxRecDepth 100000 in
theorem l1Text_calls (q : Rat) (A : Option Addr) (c : Nat) (B : Option Addr) (d : Nat) (w : World) (hr : ratK.K w (repr q) [.bool (repr q).neg, .slice A (repr q).num.length c, .slice B (repr q).den.length d])
    (hn : (repr q).num.length ≤ 17179869184 ∧ (repr q).den.length ≤ 17179869184) :
    Calls Try.prog 65 #[.agg #[.bool (repr q).neg, .slice A (repr q).num.length c, .slice B (repr q).den.length d]] w fun e w' => e = .returned (.string (strOfNums (ratText q))) ∧ Below w.heap.size w w' := by
  have hu := Try.underlying34
  have HR := Aside0.mk hr
  have HN := Aside0.mk hn
  clear hr hn
  obtain ⟨s, hs⟩ : ∃ s, s = (repr q).neg := ⟨_, rfl⟩
  obtain ⟨ln, hln⟩ : ∃ n, n = (repr q).num.length := ⟨_, rfl⟩
  obtain ⟨ld, hld⟩ : ∃ n, n = (repr q).den.length := ⟨_, rfl⟩
  rw [← hs, ← hln, ← hld] at HR ⊢
  have HRT := Aside0.mk (show ratText q = (if s then [45] else []) ++ decL q.num.natAbs ++ (if q.den = 1 then [] else 47 :: decL q.den) by rw [hs]; rfl)
  obtain ⟨A1, c1, B1, d1, e1, k1, k2, k3, k4⟩ := ratK_form HR.out
  simp only [List.cons.injEq, Value.slice.injEq, and_true] at e1
  obtain ⟨z1, ⟨rfl, z2, rfl⟩, rfl, z3, rfl⟩ := e1
  have H1 := Aside0.mk k2
  have H2 := Aside0.mk k4
  rw [← hln] at H1
  rw [← hld] at H2
  obtain ⟨sN, hsN⟩ : ∃ s, s = strOfNums (decL q.num.natAbs) := ⟨_, rfl⟩
  obtain ⟨sD, hsD⟩ : ∃ s, s = strOfNums (decL q.den) := ⟨_, rfl⟩
  have zN : sN.size ≤ 1374389534721 := by rw [hsN]; exact dec_size _ (show (repr q).num.length ≤ _ by have := HN.out.1; omega)
  have zD : sD.size ≤ 1374389534721 := by rw [hsD]; exact dec_size _ (show (repr q).den.length ≤ _ by have := HN.out.2; omega)
  have c1 : ¬ (9223372036854775807 < 1 + sN.size) := by omega
  have c2 : ¬ (9223372036854775807 < 1 + sD.size) := by omega
  have c3 : ¬ (9223372036854775807 < sN.size + (1 + sD.size)) := by omega
  have c4 : ¬ (9223372036854775807 < 1 + sN.size + (1 + sD.size)) := by omega
  have c5 : ¬ (9223372036854775807 < sN.size + 1) := by omega
  have c6 : ¬ (9223372036854775807 < 1 + sN.size + 1) := by omega
  have c7 : ¬ (9223372036854775807 < sN.size + 1 + sD.size) := by omega
  have c8 : ¬ (9223372036854775807 < 1 + sN.size + 1 + sD.size) := by omega
  have HSN := Aside0.mk hsN
  have HSD := Aside0.mk hsD
  have HLN := Aside0.mk hln
  have HLD := Aside0.mk hld
  have hbx := Blk.new w 34 #[.bool s, .slice A ln c, .slice B ld d]
  have hbw := below_alloc (Below.refl w.heap.size w) (.cells #[.bool s, .slice A ln c, .slice B ld d] 34)
  have HBX := Aside0.mk hbx
  have HBW := Aside0.mk hbw
  clear hs hln hld k1 k2 k3 k4 hbx hbw HR z1 z2 z3 hsN hsD zN zD
  have HBN := Aside0.mk (show (bin q.num.natAbs).length ≤ 1099511627776 by
    have h := bin_val_length (repr_limbs q).1
    rw [val_num] at h
    have := HN.out; omega)
  have HBD := Aside0.mk (show (bin q.den).length ≤ 1099511627776 by
    have h := bin_val_length (repr_limbs q).2
    rw [val_den] at h
    have := HN.out; omega)
  obtain ⟨dx, hdx⟩ : ∃ x, x = rd (repr q).den 0 := ⟨_, rfl⟩
  have HDX := Aside0.mk hdx
  have hcs := den_cases q
  rw [← hdx, ← HLD.out] at hcs
  clear hdx
  cases s
  · rcases hcs with ⟨hle, hd1, hd⟩ | ⟨hle, hd⟩ | ⟨hle, hd1, hd⟩
    · rw [if_pos hd, if_neg (by decide)] at HRT
      have HRS := Aside0.mk (show sN = strOfNums (ratText q) by rw [HRT.out, HSN.out, List.nil_append, List.append_nil])
      have hl1 : ((ld : Int) == 1) = true := by rw [beq_iff_eq]; omega
      have HLE := Aside0.mk hle
      have hd2 : (dx == 1) = true := by rw [hd1]; rfl
      clear hd hle hd1
      go_enter Try.func65, Try.ntmps65
      go_wp2_with fail
      have hbt := l1BitsT A c (repr q).num (w.alloc (.cells #[.bool false, .slice A ln c, .slice B ld d] 34)) (by rw [← HLN.out]; exact Kd.C_below H1.out HBW.out) (limbs_lim _) (by have := HN.out; omega)
      rw [← HLN.out, val_num] at hbt
      refine hbt.mono ?_
      rintro e w1 ⟨Ab, cb, rfl, hbb, hb⟩
      have HB1 := Aside0.mk (HBW.out.trans (hb.mono HBW.out.size))
      have HX1 := Aside0.mk (HBX.out.below hb HBX.out.lt)
      have HBB := Aside0.mk hbb
      clear hb hbt hbb HBW
      go_wp2_with fail
      have hnt := l1DecimalX Ab cb q.num.natAbs w1 HBB.out HBN.out
      rw [← HSN.out] at hnt
      refine hnt.mono ?_
      rintro e w2 ⟨rfl, hb⟩
      have HB2 := Aside0.mk (HB1.out.trans (hb.mono HB1.out.size))
      have HX2 := Aside0.mk (HX1.out.below hb HX1.out.lt)
      obtain ⟨x0, x1, x2⟩ := box3 HX2.out
      obtain ⟨ad, e1, hx⟩ := Kd.at_int (Kd.C_below H2.out HB2.out) 0 (by omega) (by have := HLE.out; omega)
      subst e1
      have hx' : w2.cell? ad = some (.int .u32 dx) := by rw [HDX.out]; simpa [Addr.add] using hx
      have q1 : (0 : Int) < (ld : Int) := by have := HLE.out; omega
      clear hx
      clear hb hnt HBB HB1 HX1
      go_wp2
      go_ret
      exact ⟨by rw [← HRS.out]; rfl, HB2.out⟩
    · rw [if_neg hd, if_neg (by decide)] at HRT
      have HRS := Aside0.mk (show sN ++ { data := #[47] } ++ sD = strOfNums (ratText q) by rw [HRT.out, HSN.out, HSD.out, List.nil_append, ← str_append, ByteArray.append_assoc, show strOfNums (47 :: decL q.den) = { data := #[47] } ++ strOfNums (decL q.den) from (str_append [47] _).symm])
      have hl1 : ((ld : Int) == 1) = false := by rw [beq_eq_false_iff_ne]; omega
      clear hd hle
      go_enter Try.func65, Try.ntmps65
      go_wp2_with fail
      have hbt := l1BitsT A c (repr q).num (w.alloc (.cells #[.bool false, .slice A ln c, .slice B ld d] 34)) (by rw [← HLN.out]; exact Kd.C_below H1.out HBW.out) (limbs_lim _) (by have := HN.out; omega)
      rw [← HLN.out, val_num] at hbt
      refine hbt.mono ?_
      rintro e w1 ⟨Ab, cb, rfl, hbb, hb⟩
      have HB1 := Aside0.mk (HBW.out.trans (hb.mono HBW.out.size))
      have HX1 := Aside0.mk (HBX.out.below hb HBX.out.lt)
      have HBB := Aside0.mk hbb
      clear hb hbt hbb HBW
      go_wp2_with fail
      have hnt := l1DecimalX Ab cb q.num.natAbs w1 HBB.out HBN.out
      rw [← HSN.out] at hnt
      refine hnt.mono ?_
      rintro e w2 ⟨rfl, hb⟩
      have HB2 := Aside0.mk (HB1.out.trans (hb.mono HB1.out.size))
      have HX2 := Aside0.mk (HX1.out.below hb HX1.out.lt)
      obtain ⟨x0, x1, x2⟩ := box3 HX2.out
      clear hb hnt HBB HB1 HX1
      go_wp2_with fail
      have hbt := l1BitsT B d (repr q).den w2 (by rw [← HLD.out]; exact Kd.C_below H2.out HB2.out) (limbs_lim _) (by have := HN.out; omega)
      rw [← HLD.out, val_den] at hbt
      refine hbt.mono ?_
      rintro e w3 ⟨Ab, cb, rfl, hbb, hb⟩
      have HB3 := Aside0.mk (HB2.out.trans (hb.mono HB2.out.size))
      have HBB := Aside0.mk hbb
      clear hb hbt hbb HB2
      go_wp2_with fail
      have hnt := l1DecimalX Ab cb q.den w3 HBB.out HBD.out
      rw [← HSD.out] at hnt
      refine hnt.mono ?_
      rintro e w4 ⟨rfl, hb⟩
      have HB4 := Aside0.mk (HB3.out.trans (hb.mono HB3.out.size))
      clear hb hnt HBB HB3
      go_wp2
      go_ret
      exact ⟨by rw [← HRS.out]; rfl, HB4.out⟩
    · rw [if_neg hd, if_neg (by decide)] at HRT
      have HRS := Aside0.mk (show sN ++ { data := #[47] } ++ sD = strOfNums (ratText q) by rw [HRT.out, HSN.out, HSD.out, List.nil_append, ← str_append, ByteArray.append_assoc, show strOfNums (47 :: decL q.den) = { data := #[47] } ++ strOfNums (decL q.den) from (str_append [47] _).symm])
      have hl1 : ((ld : Int) == 1) = true := by rw [beq_iff_eq]; omega
      have HLE := Aside0.mk hle
      have hd2 : (dx == 1) = false := by simpa using hd1
      clear hd hle hd1
      go_enter Try.func65, Try.ntmps65
      go_wp2_with fail
      have hbt := l1BitsT A c (repr q).num (w.alloc (.cells #[.bool false, .slice A ln c, .slice B ld d] 34)) (by rw [← HLN.out]; exact Kd.C_below H1.out HBW.out) (limbs_lim _) (by have := HN.out; omega)
      rw [← HLN.out, val_num] at hbt
      refine hbt.mono ?_
      rintro e w1 ⟨Ab, cb, rfl, hbb, hb⟩
      have HB1 := Aside0.mk (HBW.out.trans (hb.mono HBW.out.size))
      have HX1 := Aside0.mk (HBX.out.below hb HBX.out.lt)
      have HBB := Aside0.mk hbb
      clear hb hbt hbb HBW
      go_wp2_with fail
      have hnt := l1DecimalX Ab cb q.num.natAbs w1 HBB.out HBN.out
      rw [← HSN.out] at hnt
      refine hnt.mono ?_
      rintro e w2 ⟨rfl, hb⟩
      have HB2 := Aside0.mk (HB1.out.trans (hb.mono HB1.out.size))
      have HX2 := Aside0.mk (HX1.out.below hb HX1.out.lt)
      obtain ⟨x0, x1, x2⟩ := box3 HX2.out
      obtain ⟨ad, e1, hx⟩ := Kd.at_int (Kd.C_below H2.out HB2.out) 0 (by omega) (by have := HLE.out; omega)
      subst e1
      have hx' : w2.cell? ad = some (.int .u32 dx) := by rw [HDX.out]; simpa [Addr.add] using hx
      have q1 : (0 : Int) < (ld : Int) := by have := HLE.out; omega
      clear hx
      clear hb hnt HBB HB1 HX1
      go_wp2_with fail
      have hbt := l1BitsT (some ad) d (repr q).den w2 (by rw [← HLD.out]; exact Kd.C_below H2.out HB2.out) (limbs_lim _) (by have := HN.out; omega)
      rw [← HLD.out, val_den] at hbt
      refine hbt.mono ?_
      rintro e w3 ⟨Ab, cb, rfl, hbb, hb⟩
      have HB3 := Aside0.mk (HB2.out.trans (hb.mono HB2.out.size))
      have HBB := Aside0.mk hbb
      clear hb hbt hbb HB2
      go_wp2_with fail
      have hnt := l1DecimalX Ab cb q.den w3 HBB.out HBD.out
      rw [← HSD.out] at hnt
      refine hnt.mono ?_
      rintro e w4 ⟨rfl, hb⟩
      have HB4 := Aside0.mk (HB3.out.trans (hb.mono HB3.out.size))
      clear hb hnt HBB HB3
      go_wp2
      go_ret
      exact ⟨by rw [← HRS.out]; rfl, HB4.out⟩
  · rcases hcs with ⟨hle, hd1, hd⟩ | ⟨hle, hd⟩ | ⟨hle, hd1, hd⟩
    · rw [if_pos hd, if_pos (by decide)] at HRT
      have HRS := Aside0.mk (show { data := #[45] } ++ sN = strOfNums (ratText q) by rw [HRT.out, HSN.out, List.append_nil, ← str_append]; rfl)
      have hl1 : ((ld : Int) == 1) = true := by rw [beq_iff_eq]; omega
      have HLE := Aside0.mk hle
      have hd2 : (dx == 1) = true := by rw [hd1]; rfl
      clear hd hle hd1
      go_enter Try.func65, Try.ntmps65
      go_wp2_with fail
      have hbt := l1BitsT A c (repr q).num (w.alloc (.cells #[.bool true, .slice A ln c, .slice B ld d] 34)) (by rw [← HLN.out]; exact Kd.C_below H1.out HBW.out) (limbs_lim _) (by have := HN.out; omega)
      rw [← HLN.out, val_num] at hbt
      refine hbt.mono ?_
      rintro e w1 ⟨Ab, cb, rfl, hbb, hb⟩
      have HB1 := Aside0.mk (HBW.out.trans (hb.mono HBW.out.size))
      have HX1 := Aside0.mk (HBX.out.below hb HBX.out.lt)
      have HBB := Aside0.mk hbb
      clear hb hbt hbb HBW
      go_wp2_with fail
      have hnt := l1DecimalX Ab cb q.num.natAbs w1 HBB.out HBN.out
      rw [← HSN.out] at hnt
      refine hnt.mono ?_
      rintro e w2 ⟨rfl, hb⟩
      have HB2 := Aside0.mk (HB1.out.trans (hb.mono HB1.out.size))
      have HX2 := Aside0.mk (HX1.out.below hb HX1.out.lt)
      obtain ⟨x0, x1, x2⟩ := box3 HX2.out
      obtain ⟨ad, e1, hx⟩ := Kd.at_int (Kd.C_below H2.out HB2.out) 0 (by omega) (by have := HLE.out; omega)
      subst e1
      have hx' : w2.cell? ad = some (.int .u32 dx) := by rw [HDX.out]; simpa [Addr.add] using hx
      have q1 : (0 : Int) < (ld : Int) := by have := HLE.out; omega
      clear hx
      clear hb hnt HBB HB1 HX1
      go_wp2
      go_ret
      exact ⟨by rw [← HRS.out]; rfl, HB2.out⟩
    · rw [if_neg hd, if_pos (by decide)] at HRT
      have HRS := Aside0.mk (show { data := #[45] } ++ sN ++ { data := #[47] } ++ sD = strOfNums (ratText q) by rw [HRT.out, HSN.out, HSD.out, ← str_append, ← str_append, ByteArray.append_assoc, ByteArray.append_assoc, ByteArray.append_assoc, show strOfNums (47 :: decL q.den) = { data := #[47] } ++ strOfNums (decL q.den) from (str_append [47] _).symm]; rfl)
      have hl1 : ((ld : Int) == 1) = false := by rw [beq_eq_false_iff_ne]; omega
      clear hd hle
      go_enter Try.func65, Try.ntmps65
      go_wp2_with fail
      have hbt := l1BitsT A c (repr q).num (w.alloc (.cells #[.bool true, .slice A ln c, .slice B ld d] 34)) (by rw [← HLN.out]; exact Kd.C_below H1.out HBW.out) (limbs_lim _) (by have := HN.out; omega)
      rw [← HLN.out, val_num] at hbt
      refine hbt.mono ?_
      rintro e w1 ⟨Ab, cb, rfl, hbb, hb⟩
      have HB1 := Aside0.mk (HBW.out.trans (hb.mono HBW.out.size))
      have HX1 := Aside0.mk (HBX.out.below hb HBX.out.lt)
      have HBB := Aside0.mk hbb
      clear hb hbt hbb HBW
      go_wp2_with fail
      have hnt := l1DecimalX Ab cb q.num.natAbs w1 HBB.out HBN.out
      rw [← HSN.out] at hnt
      refine hnt.mono ?_
      rintro e w2 ⟨rfl, hb⟩
      have HB2 := Aside0.mk (HB1.out.trans (hb.mono HB1.out.size))
      have HX2 := Aside0.mk (HX1.out.below hb HX1.out.lt)
      obtain ⟨x0, x1, x2⟩ := box3 HX2.out
      clear hb hnt HBB HB1 HX1
      go_wp2_with fail
      have hbt := l1BitsT B d (repr q).den w2 (by rw [← HLD.out]; exact Kd.C_below H2.out HB2.out) (limbs_lim _) (by have := HN.out; omega)
      rw [← HLD.out, val_den] at hbt
      refine hbt.mono ?_
      rintro e w3 ⟨Ab, cb, rfl, hbb, hb⟩
      have HB3 := Aside0.mk (HB2.out.trans (hb.mono HB2.out.size))
      have HBB := Aside0.mk hbb
      clear hb hbt hbb HB2
      go_wp2_with fail
      have hnt := l1DecimalX Ab cb q.den w3 HBB.out HBD.out
      rw [← HSD.out] at hnt
      refine hnt.mono ?_
      rintro e w4 ⟨rfl, hb⟩
      have HB4 := Aside0.mk (HB3.out.trans (hb.mono HB3.out.size))
      clear hb hnt HBB HB3
      go_wp2
      go_ret
      exact ⟨by rw [← HRS.out]; rfl, HB4.out⟩
    · rw [if_neg hd, if_pos (by decide)] at HRT
      have HRS := Aside0.mk (show { data := #[45] } ++ sN ++ { data := #[47] } ++ sD = strOfNums (ratText q) by rw [HRT.out, HSN.out, HSD.out, ← str_append, ← str_append, ByteArray.append_assoc, ByteArray.append_assoc, ByteArray.append_assoc, show strOfNums (47 :: decL q.den) = { data := #[47] } ++ strOfNums (decL q.den) from (str_append [47] _).symm]; rfl)
      have hl1 : ((ld : Int) == 1) = true := by rw [beq_iff_eq]; omega
      have HLE := Aside0.mk hle
      have hd2 : (dx == 1) = false := by simpa using hd1
      clear hd hle hd1
      go_enter Try.func65, Try.ntmps65
      go_wp2_with fail
      have hbt := l1BitsT A c (repr q).num (w.alloc (.cells #[.bool true, .slice A ln c, .slice B ld d] 34)) (by rw [← HLN.out]; exact Kd.C_below H1.out HBW.out) (limbs_lim _) (by have := HN.out; omega)
      rw [← HLN.out, val_num] at hbt
      refine hbt.mono ?_
      rintro e w1 ⟨Ab, cb, rfl, hbb, hb⟩
      have HB1 := Aside0.mk (HBW.out.trans (hb.mono HBW.out.size))
      have HX1 := Aside0.mk (HBX.out.below hb HBX.out.lt)
      have HBB := Aside0.mk hbb
      clear hb hbt hbb HBW
      go_wp2_with fail
      have hnt := l1DecimalX Ab cb q.num.natAbs w1 HBB.out HBN.out
      rw [← HSN.out] at hnt
      refine hnt.mono ?_
      rintro e w2 ⟨rfl, hb⟩
      have HB2 := Aside0.mk (HB1.out.trans (hb.mono HB1.out.size))
      have HX2 := Aside0.mk (HX1.out.below hb HX1.out.lt)
      obtain ⟨x0, x1, x2⟩ := box3 HX2.out
      obtain ⟨ad, e1, hx⟩ := Kd.at_int (Kd.C_below H2.out HB2.out) 0 (by omega) (by have := HLE.out; omega)
      subst e1
      have hx' : w2.cell? ad = some (.int .u32 dx) := by rw [HDX.out]; simpa [Addr.add] using hx
      have q1 : (0 : Int) < (ld : Int) := by have := HLE.out; omega
      clear hx
      clear hb hnt HBB HB1 HX1
      go_wp2_with fail
      have hbt := l1BitsT (some ad) d (repr q).den w2 (by rw [← HLD.out]; exact Kd.C_below H2.out HB2.out) (limbs_lim _) (by have := HN.out; omega)
      rw [← HLD.out, val_den] at hbt
      refine hbt.mono ?_
      rintro e w3 ⟨Ab, cb, rfl, hbb, hb⟩
      have HB3 := Aside0.mk (HB2.out.trans (hb.mono HB2.out.size))
      have HBB := Aside0.mk hbb
      clear hb hbt hbb HB2
      go_wp2_with fail
      have hnt := l1DecimalX Ab cb q.den w3 HBB.out HBD.out
      rw [← HSD.out] at hnt
      refine hnt.mono ?_
      rintro e w4 ⟨rfl, hb⟩
      have HB4 := Aside0.mk (HB3.out.trans (hb.mono HB3.out.size))
      clear hb hnt HBB HB3
      go_wp2
      go_ret
      exact ⟨by rw [← HRS.out]; rfl, HB4.out⟩
/-- The text of a triple: nothing, where it is not valid. -/
def TextIs (r : Rt) (s : ByteArray) : Prop := (okR r = false ∧ s = { data := #[] }) ∨ ∃ q, r = repr q ∧ s = strOfNums (ratText q)
theorem textIs_ex {r : Rt} (h : LimbsR r) : ∃ s, TextIs r s := by
  cases e : okR r with
  | false => exact ⟨_, .inl ⟨e, rfl⟩⟩
  | true =>
    obtain ⟨q, hq⟩ := repr_of_okR h.1 h.2 e
    exact ⟨_, .inr ⟨q, hq, rfl⟩⟩
set_option maxHeartbeats 1000000 in
set_option maxRecDepth 100000 in
theorem RatText_K (r : Rt) (s : ByteArray) (A : Option Addr) (c : Nat) (B : Option Addr) (d : Nat) (w : World) (hr : ratK.K w r [.bool r.neg, .slice A r.num.length c, .slice B r.den.length d]) (hl : LimbsR r)
    (hn : r.num.length ≤ 17179869184 ∧ r.den.length ≤ 17179869184) (hs : TextIs r s) :
    Calls Try.prog 31 #[.agg #[.bool r.neg, .slice A r.num.length c, .slice B r.den.length d]] w fun e w' => e = .returned (.string s) ∧ Below w.heap.size w w' := by
  have hu := Try.underlying34
  have HR := Aside0.mk hr
  have HN := Aside0.mk hn
  have HL := Aside0.mk hl
  clear hr hn hl
  rcases hs with ⟨hok, hs⟩ | ⟨q, hq, hs⟩
  · subst hs
    have HOK := Aside0.mk hok
    clear hok
    go_enter Try.func31, Try.ntmps31
    go_wp2_with fail
    have f0 := (Blk.new w 34 #[.bool r.neg, .slice A r.num.length c, .slice B r.den.length d]).alloc (.cells #[.bool r.neg, .slice A r.num.length c, .slice B r.den.length d] 34)
    have f1 := Blk.new (w.alloc (.cells #[.bool r.neg, .slice A r.num.length c, .slice B r.den.length d] 34)) 34 #[.bool r.neg, .slice A r.num.length c, .slice B r.den.length d]
    have fb := below_alloc (below_alloc (Below.refl w.heap.size w) (.cells #[.bool r.neg, .slice A r.num.length c, .slice B r.den.length d] 34)) (.cells #[.bool r.neg, .slice A r.num.length c, .slice B r.den.length d] 34)
    generalize (w.alloc (.cells #[.bool r.neg, .slice A r.num.length c, .slice B r.den.length d] 34)).alloc (.cells #[.bool r.neg, .slice A r.num.length c, .slice B r.den.length d] 34) = W at f0 f1 fb ⊢
    rw [show (w.alloc (.cells #[.bool r.neg, .slice A r.num.length c, .slice B r.den.length d] 34)).heap.size = w.heap.size + 1 from by simp] at f1
    have HF0 := Aside0.mk f0
    have HFB := Aside0.mk fb
    have HF1 := Aside0.mk f1
    clear f0 fb f1
    refine (ok1_calls (w.heap.size + 1) r _ _ _ false _ HF1.out (ratK.K_below HFB.out HR.out) ⟨HL.out.1, HL.out.2, by have := HN.out.1; omega, by have := HN.out.2; omega⟩ HOK.out).mono ?_
    rintro e w1 ⟨rfl, hb⟩
    have HB1 := Aside0.mk (HFB.out.trans (hb.mono HFB.out.size))
    clear hb
    go_wp2
    go_ret
    exact ⟨rfl, HB1.out⟩
  · subst hq
    have hok := okR_repr q
    have HOK := Aside0.mk hok
    clear hok
    have HS := Aside0.mk hs
    clear hs
    go_enter Try.func31, Try.ntmps31
    go_wp2_with fail
    have f0 := (Blk.new w 34 #[.bool (repr q).neg, .slice A (repr q).num.length c, .slice B (repr q).den.length d]).alloc (.cells #[.bool (repr q).neg, .slice A (repr q).num.length c, .slice B (repr q).den.length d] 34)
    have f1 := Blk.new (w.alloc (.cells #[.bool (repr q).neg, .slice A (repr q).num.length c, .slice B (repr q).den.length d] 34)) 34 #[.bool (repr q).neg, .slice A (repr q).num.length c, .slice B (repr q).den.length d]
    have fb := below_alloc (below_alloc (Below.refl w.heap.size w) (.cells #[.bool (repr q).neg, .slice A (repr q).num.length c, .slice B (repr q).den.length d] 34)) (.cells #[.bool (repr q).neg, .slice A (repr q).num.length c, .slice B (repr q).den.length d] 34)
    generalize (w.alloc (.cells #[.bool (repr q).neg, .slice A (repr q).num.length c, .slice B (repr q).den.length d] 34)).alloc (.cells #[.bool (repr q).neg, .slice A (repr q).num.length c, .slice B (repr q).den.length d] 34) = W at f0 f1 fb ⊢
    rw [show (w.alloc (.cells #[.bool (repr q).neg, .slice A (repr q).num.length c, .slice B (repr q).den.length d] 34)).heap.size = w.heap.size + 1 from by simp] at f1
    have HF0 := Aside0.mk f0
    have HFB := Aside0.mk fb
    have HF1 := Aside0.mk f1
    clear f0 fb f1
    refine (ok1_calls (w.heap.size + 1) (repr q) _ _ _ true _ HF1.out (ratK.K_below HFB.out HR.out) ⟨HL.out.1, HL.out.2, by have := HN.out.1; omega, by have := HN.out.2; omega⟩ HOK.out).mono ?_
    rintro e w1 ⟨rfl, hb⟩
    have HB1 := Aside0.mk (HFB.out.trans (hb.mono HFB.out.size))
    obtain ⟨x0, x1, x2⟩ := box3 (HF0.out.below hb HF0.out.lt)
    clear hb
    go_wp2_with fail
    refine (rtext_calls q _ _ _ _ _ (ratK.K_below HB1.out HR.out) (by have := HN.out; omega)).mono ?_
    rintro e w2 ⟨rfl, hb⟩
    have HB2 := Aside0.mk (HB1.out.trans (hb.mono HB1.out.size))
    clear hb
    go_wp2
    go_ret
    exact ⟨by rw [HS.out]; rfl, HB2.out⟩
set_option maxHeartbeats 1000000 in
set_option maxRecDepth 100000 in
theorem spec_RatText_K (r : Rt) (s : ByteArray) (A : Option Addr) (c : Nat) (B : Option Addr) (d : Nat) (w : World) (hr : ratK.K w r [.bool r.neg, .slice A r.num.length c, .slice B r.den.length d]) (hl : LimbsR r)
    (hn : r.num.length ≤ 17179869184 ∧ r.den.length ≤ 17179869184) (hs : TextIs r s) :
    Calls Try.prog 30 #[.agg #[.bool r.neg, .slice A r.num.length c, .slice B r.den.length d]] w fun e w' => e = .returned (.string s) ∧ Below w.heap.size w w' := by
  have hu := Try.underlying34
  have HR := Aside0.mk hr
  have HN := Aside0.mk hn
  have HL := Aside0.mk hl
  clear hr hn hl
  rcases hs with ⟨hok, hs⟩ | ⟨q, hq, hs⟩
  · subst hs
    have HOK := Aside0.mk hok
    clear hok
    go_enter Try.func30, Try.ntmps30
    go_wp2_with fail
    have f0 := Blk.new w 34 #[.bool r.neg, .slice A r.num.length c, .slice B r.den.length d]
    have fb := below_alloc (Below.refl w.heap.size w) (.cells #[.bool r.neg, .slice A r.num.length c, .slice B r.den.length d] 34)
    generalize w.alloc (.cells #[.bool r.neg, .slice A r.num.length c, .slice B r.den.length d] 34) = W at f0 fb ⊢
    have HF0 := Aside0.mk f0
    have HFB := Aside0.mk fb
    clear f0 fb
    refine (spec_RatOk_calls _ _ _ _ r false _ (ratK.K_below HFB.out HR.out) HL.out.1 HL.out.2 (by have := HN.out.1; omega) (by have := HN.out.2; omega) HOK.out).mono ?_
    rintro e w1 ⟨rfl, hb⟩
    have HB1 := Aside0.mk (HFB.out.trans (hb.mono HFB.out.size))
    clear hb
    go_wp2
    go_ret
    exact ⟨rfl, HB1.out⟩
  · subst hq
    have hok := okR_repr q
    have HOK := Aside0.mk hok
    clear hok
    have HS := Aside0.mk hs
    clear hs
    go_enter Try.func30, Try.ntmps30
    go_wp2_with fail
    have f0 := Blk.new w 34 #[.bool (repr q).neg, .slice A (repr q).num.length c, .slice B (repr q).den.length d]
    have fb := below_alloc (Below.refl w.heap.size w) (.cells #[.bool (repr q).neg, .slice A (repr q).num.length c, .slice B (repr q).den.length d] 34)
    generalize w.alloc (.cells #[.bool (repr q).neg, .slice A (repr q).num.length c, .slice B (repr q).den.length d] 34) = W at f0 fb ⊢
    have HF0 := Aside0.mk f0
    have HFB := Aside0.mk fb
    clear f0 fb
    refine (spec_RatOk_calls _ _ _ _ (repr q) true _ (ratK.K_below HFB.out HR.out) HL.out.1 HL.out.2 (by have := HN.out.1; omega) (by have := HN.out.2; omega) HOK.out).mono ?_
    rintro e w1 ⟨rfl, hb⟩
    have HB1 := Aside0.mk (HFB.out.trans (hb.mono HFB.out.size))
    obtain ⟨x0, x1, x2⟩ := box3 (HF0.out.below hb HF0.out.lt)
    clear hb
    go_wp2_with fail
    refine (l1Text_calls q _ _ _ _ _ (ratK.K_below HB1.out HR.out) (by have := HN.out; omega)).mono ?_
    rintro e w2 ⟨rfl, hb⟩
    have HB2 := Aside0.mk (HB1.out.trans (hb.mono HB1.out.size))
    clear hb
    go_wp2
    go_ret
    exact ⟨by rw [HS.out]; rfl, HB2.out⟩
end Go.Proofs.Ytjmgemmieedkiaa.Hand
