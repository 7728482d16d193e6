/- The law FnExactNatMul: true at all lists of limbs. Conditions: the lists can be read and their elements are limbs. -/
import Derived.Test.YtjmgemmieedkiaaHlaw
import Derived.Test.YtjmgemmieedkiaaHsnat
import Derived.Test.YtjmgemmieedkiaaHa
set_option linter.unusedVariables false
set_option linter.unusedSimpArgs false
namespace Go.Proofs.Ytjmgemmieedkiaa.Hand
open Go.RowKit Go.Proofs.YtjmgemmieedkiaaW.PrintWords Go.Proofs.YtjmgemmieedkiaaW.PrintLast Go.Proofs.YtjmgemmieedkiaaW.PrintMore

/-- A new row lies between the sizes before and behind the call. -/
theorem fresh_row {w0 wi wj : World} {e : Nat} {v : Value} {l : List Int} (h : (Kd.int .u32).R e wj wi.heap.size (fun _ => True) v l) (hb : w0.heap.size ≤ wi.heap.size) : (Kd.int .u32).R e wj w0.heap.size (fun k => wi.heap.size ≤ k ∧ k < wj.heap.size) v l :=
  Kd.R_lower (Kd.R_mono (Kd.R_bound h) (fun k hk => ⟨hk.2.1, hk.2.2.1⟩)) hb
theorem apart_grown {w0 w w' : World} {e : Nat} {okx oky : Nat → Prop} {vx vy : Value} {lx ly : List Int} (hx : (Kd.int .u32).R e w w0.heap.size okx vx lx) (hy : (Kd.int .u32).R e w w0.heap.size oky vy ly) (hg : w.grownBy w' vx.ownBlock) (hd : ∀ k, okx k → ¬ oky k) : (Kd.int .u32).R e w' w0.heap.size oky vy ly :=
  Kd.R_grown hy hg (fun k hk he => hd k (hx.1 k he.symm) hk)
theorem below_mark {w0 w w' : World} {e : Nat} {okx : Nat → Prop} {vx : Value} {lx : List Int} (hb : Below w0.heap.size w0 w) (hx : (Kd.int .u32).R e w w0.heap.size okx vx lx) (hg : w.grownBy w' vx.ownBlock) : Below w0.heap.size w0 w' :=
  pw_below_grown hb _ hb.size hg (fun k hk => own_base (Kd.own_of_R hx) k hk)
theorem read_of {w : World} {e base : Nat} {ok : Nat → Prop} {A : Option Addr} {n c : Nat} {l : List Int} (h : (Kd.int .u32).R e w base ok (.slice A n c) l) : (Kd.int .u32).C w A l.length l := (Kd.R_reads' h).2.2
theorem cap_of {w : World} {e base : Nat} {ok : Nat → Prop} {A : Option Addr} {n c : Nat} {l : List Int} (h : (Kd.int .u32).R e w base ok (.slice A n c) l) : l.length ≤ c := by
  have := (Kd.R_reads' h).2.1
  have := (Kd.R_reads' h).1
  omega

set_option maxHeartbeats 4000000 in
set_option maxRecDepth 100000 in
theorem lawNatMul (A A' : Option Addr) (c c' : Nat) (l l' : List Int) (w : World) (hr : (Kd.int .u32).C w A l.length l) (hr' : (Kd.int .u32).C w A' l'.length l') (hl : Limbs l) (hl' : Limbs l') :
    Calls Try.prog 4 #[.slice A l.length c, .slice A' l'.length c'] w fun e w' => e = .returned (.bool true) ∧ Below w.heap.size w w' := by
  have HR := Aside0.mk hr
  have HR' := Aside0.mk hr'
  clear hr hr'
  by_cases h1 : 1048576 < l.length
  · have d1 : (1048576 : Int) < (l.length : Int) := by omega
    go_enter Try.func4, Try.ntmps4
    go_wp2
    go_ret
    exact ⟨rfl, Below.refl _ _⟩
  by_cases h2 : 1048576 < l'.length
  · have d1 : ¬ (1048576 : Int) < (l.length : Int) := by omega
    have d2 : (1048576 : Int) < (l'.length : Int) := by omega
    go_enter Try.func4, Try.ntmps4
    go_wp2
    go_ret
    exact ⟨rfl, Below.refl _ _⟩
  have d1 : ¬ (1048576 : Int) < (l.length : Int) := by omega
  have d2 : ¬ (1048576 : Int) < (l'.length : Int) := by omega
  have hzl : (lim (val l * val l')).length ≤ l.length + l'.length := by
    refine lim_length_le ?_
    rw [Nat.pow_add]
    exact Nat.mul_lt_mul_of_lt_of_le (val_lt hl) (Nat.le_of_lt (val_lt hl')) (Nat.pow_pos (by omega))
  obtain ⟨z, hz⟩ : ∃ z, z = lim (val l * val l') := ⟨_, rfl⟩
  rw [← hz] at hzl
  have HZ := Aside0.mk hz
  clear hz
  go_enter Try.func4, Try.ntmps4
  go_wp2_with fail
  refine (toU_calls _ _ l _ HR.out (by omega)).mono ?_
  rintro e w1 ⟨v, rfl, ho, hb⟩
  obtain ⟨A1, c1, rfl⟩ := Kd.R_slice ho
  have HB1 := Aside0.mk hb
  have HO1 := Aside0.mk (fresh_row (w0 := w) ho (Nat.le_refl _))
  clear ho hb
  go_wp2_with fail
  refine (toU_calls _ _ l' _ (Kd.C_below HR'.out HB1.out) (by omega)).mono ?_
  rintro e w2 ⟨v, rfl, ho, hb⟩
  obtain ⟨A2, c2, rfl⟩ := Kd.R_slice ho
  have HB2 := Aside0.mk (HB1.out.trans (hb.mono HB1.out.size))
  have HO2 := Aside0.mk (fresh_row (w0 := w) ho HB1.out.size)
  have HO1' := Aside0.mk (Kd.R_below HO1.out hb)
  clear ho hb HO1
  go_wp2_with fail
  refine (spec_NatMul_calls _ _ _ _ l l' _ (read_of HO1'.out) (read_of HO2.out) hl hl' (by omega) (by omega)).mono ?_
  rintro e w3 ⟨v, rfl, ho, hb⟩
  rw [← HZ.out] at ho
  obtain ⟨Aw, cw, rfl⟩ := Kd.R_slice ho
  have HB3 := Aside0.mk (HB2.out.trans (hb.mono HB2.out.size))
  have HW3 := Aside0.mk (fresh_row (w0 := w) ho HB2.out.size)
  have S3 := hb.size
  clear ho hb HO1' HO2 HB1 HB2
  go_wp2_with fail
  refine (toU_calls _ _ l _ (Kd.C_below HR.out HB3.out) (by omega)).mono ?_
  rintro e w4 ⟨v, rfl, ho, hb⟩
  obtain ⟨Ax, cx, rfl⟩ := Kd.R_slice ho
  have HB4 := Aside0.mk (HB3.out.trans (hb.mono HB3.out.size))
  have HX4 := Aside0.mk (fresh_row (w0 := w) ho HB3.out.size)
  have HW4 := Aside0.mk (Kd.R_below HW3.out hb)
  have S4 := hb.size
  clear ho hb HB3 HW3
  go_wp2_with fail
  refine (toU_calls _ _ l' _ (Kd.C_below HR'.out HB4.out) (by omega)).mono ?_
  rintro e w5 ⟨v, rfl, ho, hb⟩
  obtain ⟨Ay, cy, rfl⟩ := Kd.R_slice ho
  have HB5 := Aside0.mk (HB4.out.trans (hb.mono HB4.out.size))
  have HY5 := Aside0.mk (fresh_row (w0 := w) ho HB4.out.size)
  have HW5 := Aside0.mk (Kd.R_below HW4.out hb)
  have HX5 := Aside0.mk (Kd.R_below HX4.out hb)
  have S5 := hb.size
  clear ho hb HB4 HW4 HX4
  go_wp2_with fail
  refine (NatMul_calls _ _ _ _ l l' _ (read_of HX5.out) (cap_of HX5.out) (read_of HY5.out) (cap_of HY5.out) hl hl' (by omega) (by omega)).mono ?_
  rintro e w6 ⟨v, rfl, ho, hb⟩
  rw [← HZ.out] at ho
  obtain ⟨Ag, cg, rfl⟩ := Kd.R_slice ho
  have HB6 := Aside0.mk (HB5.out.trans (hb.mono HB5.out.size))
  have HG6 := Aside0.mk (fresh_row (w0 := w) ho HB5.out.size)
  have HW6 := Aside0.mk (Kd.R_below HW5.out hb)
  have HX6 := Aside0.mk (Kd.R_below HX5.out hb)
  have HY6 := Aside0.mk (Kd.R_below HY5.out hb)
  have S6 := hb.size
  clear ho hb HB5 HW5 HX5 HY5
  go_wp2_with fail
  refine (eqU_calls _ _ _ _ z z _ (read_of HG6.out) (read_of HW6.out)).mono ?_
  rintro e w7 ⟨rfl, hd⟩
  rw [show decide (z = z) = true from decide_eq_true rfl]
  -- HALF
  have HB7 := Aside0.mk (HB6.out.trans ((hd.below).mono HB6.out.size))
  have HW7 := Aside0.mk (Kd.R_below HW6.out (hd.below))
  have HX7 := Aside0.mk (Kd.R_below HX6.out (hd.below))
  have HY7 := Aside0.mk (Kd.R_below HY6.out (hd.below))
  have HG7 := Aside0.mk (Kd.R_below HG6.out (hd.below))
  have S7 := (hd.below).size
  clear HB6 HW6 HX6 HY6 HG6
  clear hd
  go_wp2_with fail
  refine (toU_calls _ _ l _ (Kd.C_below HR.out HB7.out) (by omega)).mono ?_
  rintro e w8 ⟨v, rfl, ho, hb⟩
  obtain ⟨AT, cT, rfl⟩ := Kd.R_slice ho
  have HN := Aside0.mk (fresh_row (w0 := w) ho HB7.out.size)
  clear ho
  have HB8 := Aside0.mk (HB7.out.trans ((hb).mono HB7.out.size))
  have HW8 := Aside0.mk (Kd.R_below HW7.out (hb))
  have HX8 := Aside0.mk (Kd.R_below HX7.out (hb))
  have HY8 := Aside0.mk (Kd.R_below HY7.out (hb))
  have HG8 := Aside0.mk (Kd.R_below HG7.out (hb))
  have S8 := (hb).size
  clear HB7 HW7 HX7 HY7 HG7
  clear hb
  have HT8 := HN
  clear HN
  go_wp2_with fail
  refine (eqU_calls _ _ _ _ l l _ (read_of HX8.out) (read_of HT8.out)).mono ?_
  rintro e w9 ⟨rfl, hd⟩
  rw [show decide (l = l) = true from decide_eq_true rfl]
  have HB9 := Aside0.mk (HB8.out.trans ((hd.below).mono HB8.out.size))
  have HW9 := Aside0.mk (Kd.R_below HW8.out (hd.below))
  have HX9 := Aside0.mk (Kd.R_below HX8.out (hd.below))
  have HY9 := Aside0.mk (Kd.R_below HY8.out (hd.below))
  have HG9 := Aside0.mk (Kd.R_below HG8.out (hd.below))
  have HT9 := Aside0.mk (Kd.R_below HT8.out (hd.below))
  have S9 := (hd.below).size
  clear HB8 HW8 HX8 HY8 HG8 HT8
  clear hd
  clear HT9
  go_wp2_with fail
  refine (toU_calls _ _ l' _ (Kd.C_below HR'.out HB9.out) (by omega)).mono ?_
  rintro e w10 ⟨v, rfl, ho, hb⟩
  obtain ⟨AT2, cT2, rfl⟩ := Kd.R_slice ho
  have HN := Aside0.mk (fresh_row (w0 := w) ho HB9.out.size)
  clear ho
  have HB10 := Aside0.mk (HB9.out.trans ((hb).mono HB9.out.size))
  have HW10 := Aside0.mk (Kd.R_below HW9.out (hb))
  have HX10 := Aside0.mk (Kd.R_below HX9.out (hb))
  have HY10 := Aside0.mk (Kd.R_below HY9.out (hb))
  have HG10 := Aside0.mk (Kd.R_below HG9.out (hb))
  have S10 := (hb).size
  clear HB9 HW9 HX9 HY9 HG9
  clear hb
  have HT210 := HN
  clear HN
  go_wp2_with fail
  refine (eqU_calls _ _ _ _ l' l' _ (read_of HY10.out) (read_of HT210.out)).mono ?_
  rintro e w11 ⟨rfl, hd⟩
  rw [show decide (l' = l') = true from decide_eq_true rfl]
  have HB11 := Aside0.mk (HB10.out.trans ((hd.below).mono HB10.out.size))
  have HW11 := Aside0.mk (Kd.R_below HW10.out (hd.below))
  have HX11 := Aside0.mk (Kd.R_below HX10.out (hd.below))
  have HY11 := Aside0.mk (Kd.R_below HY10.out (hd.below))
  have HG11 := Aside0.mk (Kd.R_below HG10.out (hd.below))
  have HT211 := Aside0.mk (Kd.R_below HT210.out (hd.below))
  have S11 := (hd.below).size
  clear HB10 HW10 HX10 HY10 HG10 HT210
  clear hd
  clear HT211
  go_wp2_with fail
  refine (markU_calls _ w.heap.size _ l (1) _ HX11.out (by omega)).mono ?_
  rintro e w12 ⟨rfl, hm, hg⟩
  have HB12 := Aside0.mk (below_mark HB11.out HX11.out hg)
  have HW12 := Aside0.mk (apart_grown HX11.out HW11.out hg (fun k hk hk' => by have := hk.1; have := hk.2; have := hk'.1; have := hk'.2; omega))
  have HY12 := Aside0.mk (apart_grown HX11.out HY11.out hg (fun k hk hk' => by have := hk.1; have := hk.2; have := hk'.1; have := hk'.2; omega))
  have HG12 := Aside0.mk (apart_grown HX11.out HG11.out hg (fun k hk hk' => by have := hk.1; have := hk.2; have := hk'.1; have := hk'.2; omega))
  have HX12 := Aside0.mk hm
  clear hm hg HB11 HW11 HX11 HY11 HG11
  clear HX12
  go_wp2_with fail
  refine (markU_calls _ w.heap.size _ l' (1 + l.length) _ HY12.out (by omega)).mono ?_
  rintro e w13 ⟨rfl, hm, hg⟩
  have HB13 := Aside0.mk (below_mark HB12.out HY12.out hg)
  have HW13 := Aside0.mk (apart_grown HY12.out HW12.out hg (fun k hk hk' => by have := hk.1; have := hk.2; have := hk'.1; have := hk'.2; omega))
  have HG13 := Aside0.mk (apart_grown HY12.out HG12.out hg (fun k hk hk' => by have := hk.1; have := hk.2; have := hk'.1; have := hk'.2; omega))
  have HY13 := Aside0.mk hm
  clear hm hg HB12 HW12 HY12 HG12
  clear HY13
  obtain ⟨k1, hk1⟩ : ∃ k1 : Int, k1 = ((1 + l.length + l'.length : Nat) : Int) := ⟨_, rfl⟩
  rw [← hk1]
  have k0 : 0 ≤ k1 := by omega
  have kd : decide (k1 < 0) = false := decide_eq_false (by omega)
  clear hk1
  go_wp2_with fail
  refine (eqU_calls _ _ _ _ z z _ (read_of HG13.out) (read_of HW13.out)).mono ?_
  rintro e w14 ⟨rfl, hd⟩
  rw [show decide (z = z) = true from decide_eq_true rfl]
  have HB14 := Aside0.mk (HB13.out.trans ((hd.below).mono HB13.out.size))
  have HW14 := Aside0.mk (Kd.R_below HW13.out (hd.below))
  have HG14 := Aside0.mk (Kd.R_below HG13.out (hd.below))
  have S14 := (hd.below).size
  clear HB13 HW13 HG13
  clear hd
  have hzl2 : 1 + z.length < 4294967296 := by omega
  go_wp2_with fail
  refine (markU_calls _ w.heap.size _ z (1) _ HG14.out (by omega)).mono ?_
  rintro e w15 ⟨rfl, hm, hg⟩
  have HB15 := Aside0.mk (below_mark HB14.out HG14.out hg)
  have HW15 := Aside0.mk (apart_grown HG14.out HW14.out hg (fun k hk hk' => by have := hk.1; have := hk.2; have := hk'.1; have := hk'.2; omega))
  have HG15 := Aside0.mk hm
  clear hm hg HB14 HW14 HG14
  obtain ⟨k2, hk2⟩ : ∃ k2 : Int, k2 = ((1 + z.length : Nat) : Int) := ⟨_, rfl⟩
  rw [← hk2]
  have k20 : 0 ≤ k2 := by omega
  have HK2 := Aside0.mk hk2
  have hml : (markL 1 z.length).length = z.length := by simp [markL]
  have HML := Aside0.mk hml
  have kne : (k2 != k2) = false := by simp
  clear hk2 hml
  go_wp2_with fail
  have hh := heldU_calls _ cg 1 z.length _ (read_of HG15.out) (by omega)
  rw [HML.out, ← HK2.out] at hh
  refine hh.mono ?_
  rintro e w16 ⟨rfl, hd⟩
  have HB16 := Aside0.mk (HB15.out.trans ((hd.below).mono HB15.out.size))
  have HW16 := Aside0.mk (Kd.R_below HW15.out (hd.below))
  have HG16 := Aside0.mk (Kd.R_below HG15.out (hd.below))
  have S16 := (hd.below).size
  clear HB15 HW15 HG15
  clear hd hh
  clear HG16
  go_wp2_with fail
  refine (toU_calls _ _ l _ (Kd.C_below HR.out HB16.out) (by omega)).mono ?_
  rintro e w17 ⟨v, rfl, ho, hb⟩
  obtain ⟨AP, cP, rfl⟩ := Kd.R_slice ho
  have HN := Aside0.mk (fresh_row (w0 := w) ho HB16.out.size)
  clear ho
  have HB17 := Aside0.mk (HB16.out.trans ((hb).mono HB16.out.size))
  have HW17 := Aside0.mk (Kd.R_below HW16.out (hb))
  have S17 := (hb).size
  clear HB16 HW16
  clear hb
  have HP17 := HN
  clear HN
  go_wp2_with fail
  refine (toU_calls _ _ l' _ (Kd.C_below HR'.out HB17.out) (by omega)).mono ?_
  rintro e w18 ⟨v, rfl, ho, hb⟩
  obtain ⟨AQ, cQ, rfl⟩ := Kd.R_slice ho
  have HN := Aside0.mk (fresh_row (w0 := w) ho HB17.out.size)
  clear ho
  have HB18 := Aside0.mk (HB17.out.trans ((hb).mono HB17.out.size))
  have HW18 := Aside0.mk (Kd.R_below HW17.out (hb))
  have HP18 := Aside0.mk (Kd.R_below HP17.out (hb))
  have S18 := (hb).size
  clear HB17 HW17 HP17
  clear hb
  have HQ18 := HN
  clear HN
  go_wp2_with fail
  refine (NatMul_calls _ _ _ _ l l' _ (read_of HP18.out) (cap_of HP18.out) (read_of HQ18.out) (cap_of HQ18.out) hl hl' (by omega) (by omega)).mono ?_
  rintro e w19 ⟨v, rfl, ho, hb⟩
  rw [← HZ.out] at ho
  obtain ⟨Ah, ch, rfl⟩ := Kd.R_slice ho
  have HN := Aside0.mk (fresh_row (w0 := w) ho HB18.out.size)
  clear ho
  have HB19 := Aside0.mk (HB18.out.trans ((hb).mono HB18.out.size))
  have HW19 := Aside0.mk (Kd.R_below HW18.out (hb))
  have HP19 := Aside0.mk (Kd.R_below HP18.out (hb))
  have HQ19 := Aside0.mk (Kd.R_below HQ18.out (hb))
  have S19 := (hb).size
  clear HB18 HW18 HP18 HQ18
  clear hb
  have HH19 := HN
  go_wp2_with fail
  refine (eqU_calls _ _ _ _ z z _ (read_of HH19.out) (read_of HW19.out)).mono ?_
  rintro e w20 ⟨rfl, hd⟩
  rw [show decide (z = z) = true from decide_eq_true rfl]
  have HB20 := Aside0.mk (HB19.out.trans ((hd.below).mono HB19.out.size))
  have HW20 := Aside0.mk (Kd.R_below HW19.out (hd.below))
  have HP20 := Aside0.mk (Kd.R_below HP19.out (hd.below))
  have HQ20 := Aside0.mk (Kd.R_below HQ19.out (hd.below))
  have HH20 := Aside0.mk (Kd.R_below HH19.out (hd.below))
  have S20 := (hd.below).size
  clear HB19 HW19 HP19 HQ19 HH19
  clear hd
  go_wp2
  go_ret
  exact ⟨rfl, HB20.out⟩
end Go.Proofs.Ytjmgemmieedkiaa.Hand
