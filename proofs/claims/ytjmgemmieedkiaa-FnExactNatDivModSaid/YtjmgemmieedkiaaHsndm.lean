/- The document's NatDivMod: the plain lists of quotient and remainder, or two empty lists and false where the divisor is zero. Conditions: the lists can be read, their elements are limbs, and they have at most 2^38 limbs each. -/
import Derived.Test.YtjmgemmieedkiaaHsnat
set_option linter.unusedVariables false
set_option linter.unusedSimpArgs false
namespace Go.Proofs.Ytjmgemmieedkiaa.Hand
open Go.RowKit Go.Proofs.YtjmgemmieedkiaaW.PrintWords Go.Proofs.YtjmgemmieedkiaaW.PrintLast Go.Proofs.YtjmgemmieedkiaaW.PrintMore

theorem bin_le {a b k : Nat} (h : a ≤ b) (hb : (bin b).length ≤ k) : (bin a).length ≤ k := by
  refine bin_length_le ?_
  have := bval_lt (bin b)
  rw [bval_bin] at this
  exact Nat.lt_of_le_of_lt h (Nat.lt_of_lt_of_le this (Nat.pow_le_pow_right (by omega) hb))

/-- What the document's NatDivMod hands back. -/
def SDivPost (base : Nat) (w0 : World) (q r : List Int) (b : Bool) (e : Ending) (w' : World) : Prop :=
  ∃ v1 v2, e = .returned (.tuple #[v1, v2, .bool b]) ∧ (Kd.int .u32).R 49 w' base (fun _ => True) v1 q ∧ (Kd.int .u32).R 49 w' base (fun _ => True) v2 r ∧ Below base w0 w'

theorem spec_NatDivMod_calls (A A' : Option Addr) (c c' : Nat) (l l' : List Int) (w : World) (hr : (Kd.int .u32).C w A l.length l) (hr' : (Kd.int .u32).C w A' l'.length l')
    (hl : Limbs l) (hl' : Limbs l') (hn : l.length ≤ 274877906944) (hn' : l'.length ≤ 274877906944) :
    Calls Try.prog 21 #[.slice A l.length c, .slice A' l'.length c'] w (SDivPost w.heap.size w (if val l' = 0 then [] else lim (val l / val l')) (if val l' = 0 then [] else lim (val l % val l')) (decide (val l' ≠ 0))) := by
  have HR := Aside0.mk hr
  have HR' := Aside0.mk hr'
  have hb1 := bin_val_length hl
  have hb2 := bin_val_length hl'
  obtain ⟨x, hx⟩ : ∃ x, x = bin (val l) := ⟨_, rfl⟩
  obtain ⟨y, hy⟩ : ∃ y, y = bin (val l') := ⟨_, rfl⟩
  rw [← hx] at hb1
  rw [← hy] at hb2
  have HX := Aside0.mk hx
  have HY := Aside0.mk hy
  by_cases h0 : val l' = 0
  · rw [if_pos h0, if_pos h0, show decide (val l' ≠ 0) = false from decide_eq_false (fun h => h h0)]
    have hy0 : y.length = 0 := by rw [hy, List.length_eq_zero_iff, bin_nil_iff]; exact h0
    have hyb : ((y.length : Int) == 0) = true := by rw [beq_iff_eq]; omega
    clear hr hr' hx hy hy0
    go_enter Try.func21, Try.ntmps21
    go_wp2_with fail
    refine (l1Bits_calls _ _ l' _ HR'.out hl' (by omega)).mono ?_
    rintro e w1 ⟨v1, rfl, ho, hb⟩
    rw [← HY.out] at ho
    obtain ⟨A1, c1, rfl⟩ := Kd.R_slice ho
    have HB1 := Aside0.mk hb
    have hbs := hb.size
    clear ho hb
    go_wp2
    go_ret3
    refine ⟨_, _, rfl, ?_, ?_, below_alloc (below_alloc HB1.out _) _⟩
    · exact Kd.R_alloc (Kd.R_of_own (own_lit w1 w.heap.size 49 .u32 [] hbs (by simp)) (fun k hk => trivial)) _
    · have h2 := show (Kd.int .u32).R 49 ((w1.alloc (.cells #[] 49)).alloc (.cells #[] 49)) w.heap.size (fun _ => True) (.slice (some ⟨(w1.alloc (.cells #[] 49)).heap.size, 0, none⟩) 0 0) [] from
        Kd.R_of_own (own_lit (w1.alloc (.cells #[] 49)) w.heap.size 49 .u32 [] (by simp; omega) (by simp)) (fun k hk => trivial)
      rw [show (w1.alloc (.cells #[] 49)).heap.size = w1.heap.size + 1 from by simp] at h2
      exact h2
  · rw [if_neg h0, if_neg h0, show decide (val l' ≠ 0) = true from decide_eq_true h0]
    have hy0 : y.length ≠ 0 := by rw [hy]; intro h; exact h0 (bin_nil_iff.mp (List.length_eq_zero_iff.mp h))
    have hyb : ((y.length : Int) == 0) = false := by rw [beq_eq_false_iff_ne]; omega
    have hyp : BPlain y := by rw [hy]; exact bplain_bin _
    have hyn : y ≠ [] := by intro h; rw [h] at hy0; exact hy0 rfl
    have HYP := Aside0.mk (And.intro hyp hyn)
    clear hr hr' hx hy hy0 hyp hyn
    go_enter Try.func21, Try.ntmps21
    go_wp2_with fail
    refine (l1Bits_calls _ _ l' _ HR'.out hl' (by omega)).mono ?_
    rintro e w1 ⟨v1, rfl, ho, hb⟩
    rw [← HY.out] at ho
    obtain ⟨A1, c1, rfl⟩ := Kd.R_slice ho
    have HB1 := Aside0.mk hb
    have HO1 := Aside0.mk (Kd.R_reads' ho).2.2
    clear ho hb
    go_wp2_with fail
    refine (l1Bits_calls _ _ l _ (Kd.C_below HR.out HB1.out) hl (by omega)).mono ?_
    rintro e w2 ⟨v2, rfl, ho, hb⟩
    rw [← HX.out] at ho
    obtain ⟨A2, c2, rfl⟩ := Kd.R_slice ho
    have HB2 := Aside0.mk (HB1.out.trans (hb.mono HB1.out.size))
    have HC1 := Aside0.mk (Kd.C_below HO1.out hb)
    have HO2 := Aside0.mk (Kd.R_reads' ho).2.2
    clear ho hb HO1 HB1
    go_wp2_with fail
    refine (l1DivBits_calls _ _ _ _ x y _ HO2.out HC1.out (by omega) (by omega) HYP.out.1 HYP.out.2).mono ?_
    rintro e w3 ⟨vq, vr, rfl, hq, hr, hb⟩
    have hql : (bin (bval x / bval y)).length ≤ 32 * l.length := bin_le (Nat.div_le_self _ _) (by rw [HX.out, bval_bin]; exact bin_val_length hl)
    have hrl : (bin (bval x % bval y)).length ≤ 32 * l.length := bin_le (Nat.mod_le _ _) (by rw [HX.out, bval_bin]; exact bin_val_length hl)
    obtain ⟨zq, hzq⟩ : ∃ z, z = bin (bval x / bval y) := ⟨_, rfl⟩
    obtain ⟨zr, hzr⟩ : ∃ z, z = bin (bval x % bval y) := ⟨_, rfl⟩
    rw [← hzq] at hq hql
    rw [← hzr] at hr hrl
    obtain ⟨A3, c3, rfl⟩ := Kd.R_slice hq
    obtain ⟨A4, c4, rfl⟩ := Kd.R_slice hr
    have HB3 := Aside0.mk (HB2.out.trans (hb.mono HB2.out.size))
    have HQ3 := Aside0.mk (Kd.R_reads' hq).2
    have HR3 := Aside0.mk (Kd.R_reads' hr).2
    have HZQ := Aside0.mk (show bval zq = val l / val l' from by rw [hzq, bval_bin, HX.out, HY.out, bval_bin, bval_bin])
    have HZR := Aside0.mk (show bval zr = val l % val l' from by rw [hzr, bval_bin, HX.out, HY.out, bval_bin, bval_bin])
    clear hq hr hb hzq hzr HB2 HC1 HO2
    go_wp2_with fail
    refine (l1Limbs_calls _ _ zq _ HQ3.out.2 HQ3.out.1 (by omega)).mono ?_
    rintro e w4 ⟨v4, rfl, ho, hb⟩
    rw [HZQ.out] at ho
    have HO4 := Aside0.mk (Kd.R_lower ho HB3.out.size)
    have HB4 := Aside0.mk (HB3.out.trans (hb.mono HB3.out.size))
    have HR4 := Aside0.mk (And.intro HR3.out.1 (Kd.C_below HR3.out.2 hb))
    clear ho hb HQ3 HR3 HB3
    go_wp2_with fail
    refine (l1Limbs_calls _ _ zr _ HR4.out.2 HR4.out.1 (by omega)).mono ?_
    rintro e w5 ⟨v5, rfl, ho, hb⟩
    rw [HZR.out] at ho
    have HO5 := Aside0.mk (Kd.R_lower ho HB4.out.size)
    have HO45 := Aside0.mk (Kd.R_below HO4.out hb)
    have HB5 := Aside0.mk (HB4.out.trans (hb.mono HB4.out.size))
    clear ho hb HR4 HB4 HO4
    go_wp2
    go_ret3
    exact ⟨_, _, rfl, HO45.out, HO5.out, HB5.out⟩
end Go.Proofs.Ytjmgemmieedkiaa.Hand
