/- The document's NatMul, NatDivMod and NatGcd: the plain lists of product, quotient and remainder, and greatest common divisor. Conditions: the lists can be read, their elements are limbs, and they have at most 2^38 limbs each. -/
import Derived.Test.YtjmgemmieedkiaaHslimb
import Derived.Test.YtjmgemmieedkiaaHsmul
import Derived.Test.YtjmgemmieedkiaaHsdiv
import Derived.Test.YtjmgemmieedkiaaHsgcd
set_option linter.unusedVariables false
set_option linter.unusedSimpArgs false
namespace Go.Proofs.Ytjmgemmieedkiaa.Hand
open Go.RowKit Go.Proofs.YtjmgemmieedkiaaW.PrintWords Go.Proofs.YtjmgemmieedkiaaW.PrintLast Go.Proofs.YtjmgemmieedkiaaW.PrintMore

theorem bin_val_length {l : List Int} (hl : Limbs l) : (bin (val l)).length ≤ 32 * l.length := bin_length_le (by rw [two_pow_32]; exact val_lt hl)

theorem spec_NatMul_calls (A A' : Option Addr) (c c' : Nat) (l l' : List Int) (w : World) (hr : (Kd.int .u32).C w A l.length l) (hr' : (Kd.int .u32).C w A' l'.length l')
    (hl : Limbs l) (hl' : Limbs l') (hn : l.length ≤ 274877906944) (hn' : l'.length ≤ 274877906944) :
    Calls Try.prog 15 #[.slice A l.length c, .slice A' l'.length c'] w fun e w' => ∃ v, e = .returned v ∧ (Kd.int .u32).R 49 w' w.heap.size (fun _ => True) v (lim (val l * val l')) ∧ Below w.heap.size w w' := by
  have HR := Aside0.mk hr
  have HR' := Aside0.mk hr'
  have hb1 := bin_val_length hl
  have hb2 := bin_val_length hl'
  obtain ⟨x, hx⟩ : ∃ x, x = bin (val l) := ⟨_, rfl⟩
  obtain ⟨y, hy⟩ : ∃ y, y = bin (val l') := ⟨_, rfl⟩
  rw [← hx] at hb1
  rw [← hy] at hb2
  have HX := Aside0.mk hx
  have HY := Aside0.mk hy
  clear hr hr' hx hy
  go_enter Try.func15, Try.ntmps15
  go_wp2_with fail
  refine (l1Bits_calls _ _ l _ HR.out hl (by omega)).mono ?_
  rintro e w1 ⟨v1, rfl, ho, hb⟩
  rw [← HX.out] at ho
  obtain ⟨A1, c1, rfl⟩ := Kd.R_slice ho
  have HB1 := Aside0.mk hb
  have HO1 := Aside0.mk (Kd.R_reads' ho).2
  clear ho hb
  go_wp2_with fail
  refine (l1Bits_calls _ _ l' _ (Kd.C_below HR'.out HB1.out) hl' (by omega)).mono ?_
  rintro e w2 ⟨v2, rfl, ho, hb⟩
  rw [← HY.out] at ho
  obtain ⟨A2, c2, rfl⟩ := Kd.R_slice ho
  have HB2 := Aside0.mk (HB1.out.trans (hb.mono HB1.out.size))
  have HC1 := Aside0.mk (Kd.C_below HO1.out.2 hb)
  have HO2 := Aside0.mk (Kd.R_reads' ho).2
  clear ho hb HO1 HB1
  go_wp2_with fail
  refine (l1MulBits_calls _ _ _ _ x y _ HC1.out HO2.out.2 (by omega) (by omega)).mono ?_
  rintro e w3 ⟨v3, rfl, ho, hb⟩
  have hpl : (bin (bval x * bval y)).length ≤ 32 * l.length + 32 * l'.length := by
    rw [HX.out, HY.out, bval_bin, bval_bin]
    refine bin_length_le ?_
    rw [Nat.pow_add, two_pow_32, two_pow_32]
    exact Nat.mul_lt_mul_of_lt_of_le (val_lt hl) (Nat.le_of_lt (val_lt hl')) (Nat.pow_pos (by omega))
  obtain ⟨z, hz⟩ : ∃ z, z = bin (bval x * bval y) := ⟨_, rfl⟩
  rw [← hz] at ho hpl
  obtain ⟨A3, c3, rfl⟩ := Kd.R_slice ho
  have HB3 := Aside0.mk (HB2.out.trans (hb.mono HB2.out.size))
  have HO3 := Aside0.mk (Kd.R_reads' ho).2
  have HZ := Aside0.mk (show bval z = val l * val l' from by rw [hz, bval_bin, HX.out, HY.out, bval_bin, bval_bin])
  clear ho hb hz HB2 HC1 HO2
  go_wp2_with fail
  refine (l1Limbs_calls _ _ z _ HO3.out.2 HO3.out.1 (by omega)).mono ?_
  rintro e w4 ⟨v4, rfl, ho, hb⟩
  rw [HZ.out] at ho
  have HO4 := Aside0.mk (Kd.R_lower ho HB3.out.size)
  have HB4 := Aside0.mk (HB3.out.trans (hb.mono HB3.out.size))
  clear ho hb
  go_wp2
  go_ret
  exact ⟨_, rfl, HO4.out, HB4.out⟩

theorem spec_NatGcd_calls (A A' : Option Addr) (c c' : Nat) (l l' : List Int) (w : World) (hr : (Kd.int .u32).C w A l.length l) (hr' : (Kd.int .u32).C w A' l'.length l')
    (hl : Limbs l) (hl' : Limbs l') (hn : l.length ≤ 274877906944) (hn' : l'.length ≤ 274877906944) :
    Calls Try.prog 23 #[.slice A l.length c, .slice A' l'.length c'] w fun e w' => ∃ v, e = .returned v ∧ (Kd.int .u32).R 49 w' w.heap.size (fun _ => True) v (lim (Nat.gcd (val l) (val l'))) ∧ Below w.heap.size w w' := by
  have HR := Aside0.mk hr
  have HR' := Aside0.mk hr'
  have hb1 := bin_val_length hl
  have hb2 := bin_val_length hl'
  obtain ⟨x, hx⟩ : ∃ x, x = bin (val l) := ⟨_, rfl⟩
  obtain ⟨y, hy⟩ : ∃ y, y = bin (val l') := ⟨_, rfl⟩
  rw [← hx] at hb1
  rw [← hy] at hb2
  have HX := Aside0.mk hx
  have HY := Aside0.mk hy
  clear hr hr' hx hy
  go_enter Try.func23, Try.ntmps23
  go_wp2_with fail
  refine (l1Bits_calls _ _ l _ HR.out hl (by omega)).mono ?_
  rintro e w1 ⟨v1, rfl, ho, hb⟩
  rw [← HX.out] at ho
  obtain ⟨A1, c1, rfl⟩ := Kd.R_slice ho
  have HB1 := Aside0.mk hb
  have HO1 := Aside0.mk (Kd.R_reads' ho).2
  clear ho hb
  go_wp2_with fail
  refine (l1Bits_calls _ _ l' _ (Kd.C_below HR'.out HB1.out) hl' (by omega)).mono ?_
  rintro e w2 ⟨v2, rfl, ho, hb⟩
  rw [← HY.out] at ho
  obtain ⟨A2, c2, rfl⟩ := Kd.R_slice ho
  have HB2 := Aside0.mk (HB1.out.trans (hb.mono HB1.out.size))
  have HC1 := Aside0.mk (Kd.C_below HO1.out.2 hb)
  have HO2 := Aside0.mk (Kd.R_reads' ho).2
  have HCC := Aside0.mk HO1.out.1
  clear ho hb HO1 HB1
  go_wp2_with fail
  refine (l1GcdBits_calls _ _ _ _ x y _ HC1.out HO2.out.2 HCC.out HO2.out.1 (by omega) (by omega) (by rw [HX.out]; exact bplain_bin _) (by rw [HY.out]; exact bplain_bin _)).mono ?_
  rintro e w3 ⟨A3, c3, rfl, hc3, ho, hb⟩
  have hpl : (bin (Nat.gcd (bval x) (bval y))).length ≤ x.length + y.length := by
    refine bin_length_le ?_
    have k1 := bval_lt x
    have k2 := bval_lt y
    rcases Nat.eq_zero_or_pos (bval x) with h | h
    · rw [h, Nat.gcd_zero_left]
      exact Nat.lt_of_lt_of_le k2 (Nat.pow_le_pow_right (by omega) (by omega))
    · have := Nat.gcd_le_left (bval y) h
      exact Nat.lt_of_le_of_lt this (Nat.lt_of_lt_of_le k1 (Nat.pow_le_pow_right (by omega) (by omega)))
  obtain ⟨z, hz⟩ : ∃ z, z = bin (Nat.gcd (bval x) (bval y)) := ⟨_, rfl⟩
  rw [← hz] at ho hpl hc3 ⊢
  have HB3 := Aside0.mk (HB2.out.trans (hb.mono HB2.out.size))
  have HO3 := Aside0.mk (And.intro hc3 ho)
  have HZ := Aside0.mk (show bval z = Nat.gcd (val l) (val l') from by rw [hz, bval_bin, HX.out, HY.out, bval_bin, bval_bin])
  clear ho hb hz hc3 HB2 HC1 HO2
  go_wp2_with fail
  refine (l1Limbs_calls _ _ z _ HO3.out.2 HO3.out.1 (by omega)).mono ?_
  rintro e w4 ⟨v4, rfl, ho, hb⟩
  rw [HZ.out] at ho
  have HO4 := Aside0.mk (Kd.R_lower ho HB3.out.size)
  have HB4 := Aside0.mk (HB3.out.trans (hb.mono HB3.out.size))
  clear ho hb
  go_wp2
  go_ret
  exact ⟨_, rfl, HO4.out, HB4.out⟩
end Go.Proofs.Ytjmgemmieedkiaa.Hand
