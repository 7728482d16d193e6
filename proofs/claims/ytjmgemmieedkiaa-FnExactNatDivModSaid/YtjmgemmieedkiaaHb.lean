/- The exported functions NatDivMod and NatGcd. Conditions: both lists can be read, their elements are limbs, and they have at most 2^40 limbs each. -/
import Derived.Test.YtjmgemmieedkiaaHa
import Derived.Test.YtjmgemmieedkiaaHgcd
set_option linter.unusedVariables false
set_option linter.unusedSimpArgs false
namespace Go.Proofs.Ytjmgemmieedkiaa.Hand
open Go.RowKit Go.Proofs.YtjmgemmieedkiaaW.PrintWords Go.Proofs.YtjmgemmieedkiaaW.PrintLast Go.Proofs.YtjmgemmieedkiaaW.PrintMore

/-- What NatDivMod hands back. -/
def DivModPost (base : Nat) (w0 : World) (q r : List Int) (b : Bool) (e : Ending) (w' : World) : Prop :=
  ∃ v1 v2, e = .returned (.tuple #[v1, v2, .bool b]) ∧ (Kd.int .u32).R 49 w' base (fun k => some k ≠ v2.ownBlock) v1 q ∧ (Kd.int .u32).R 49 w' base (fun k => some k ≠ v1.ownBlock) v2 r ∧ Below base w0 w'

theorem trimL_nil_iff {l : List Int} (hl : Limbs l) : (trimL l).length = 0 ↔ val l = 0 := by
  rw [List.length_eq_zero_iff, trimL_eq hl, lim_nil_iff]
theorem trimN_eq {l : List Int} : trimN l = (trimL l).length := by rw [trimL_length]

theorem NatDivMod_calls (A A' : Option Addr) (c c' : Nat) (l l' : List Int) (w : World) (hr : (Kd.int .u32).C w A l.length l) (hc : l.length ≤ c) (hr' : (Kd.int .u32).C w A' l'.length l') (hc' : l'.length ≤ c')
    (hl : Limbs l) (hl' : Limbs l') (hn : l.length ≤ 1099511627776) :
    Calls Try.prog 22 #[.slice A l.length c, .slice A' l'.length c'] w (DivModPost w.heap.size w (if val l' = 0 then [] else lim (val l / val l')) (if val l' = 0 then [] else lim (val l % val l')) (decide (val l' ≠ 0))) := by
  have HR := Aside0.mk hr
  have HR' := Aside0.mk hr'
  have HC := Aside0.mk hc
  have HC' := Aside0.mk hc'
  clear hr hc hr' hc'
  by_cases h0 : val l' = 0
  · have hz : trimN l' = 0 := by rw [trimN_eq]; exact (trimL_nil_iff hl').mpr h0
    have hzi : ((trimN l' : Nat) : Int) = 0 := by omega
    have hzb : (((trimN l' : Nat) : Int) == 0) = true := by rw [beq_iff_eq]; exact hzi
    rw [if_pos h0, if_pos h0, show decide (val l' ≠ 0) = false from decide_eq_false (fun h => h h0)]
    clear hzi hz
    go_enter Try.func22, Try.ntmps22
    go_wp2_with fail
    refine (natOf_calls _ _ _ _ HR'.out HC'.out).mono ?_
    rintro e w1 ⟨rfl, hb⟩
    have HB1 := Aside0.mk hb
    clear hb
    go_wp2
    go_ret3
    exact ⟨_, _, rfl, Kd.R_nil .., Kd.R_nil .., HB1.out⟩
  · have hz : trimN l' ≠ 0 := by rw [trimN_eq]; exact fun h => h0 ((trimL_nil_iff hl').mp h)
    have hzi : ((trimN l' : Nat) : Int) ≠ 0 := by omega
    have hzb : (((trimN l' : Nat) : Int) == 0) = false := by rw [beq_eq_false_iff_ne]; exact hzi
    rw [if_neg h0, if_neg h0, show decide (val l' ≠ 0) = true from decide_eq_true h0]
    go_enter Try.func22, Try.ntmps22
    go_wp2_with fail
    refine (natOf_calls _ _ _ _ HR'.out HC'.out).mono ?_
    rintro e w1 ⟨rfl, hb⟩
    have HB1 := Aside0.mk hb
    clear hb
    go_wp2_with fail
    refine (natOf_calls _ _ _ _ (Kd.C_below HR.out HB1.out) HC.out).mono ?_
    rintro e w2 ⟨rfl, hb⟩
    have HB2 := Aside0.mk (HB1.out.trans (hb.mono HB1.out.size))
    clear hb
    go_wp2_with fail
    have hm := div_calls A A' c c' (trimL l) (trimL l') w2 (C_trimL (Kd.C_below HR.out HB2.out)) (C_trimL (Kd.C_below HR'.out HB2.out)) (limbs_trimL hl) (limbs_trimL hl') (plain_trimL _) (plain_trimL _) (by intro h; rw [← trimL_length, h] at hz; exact hz rfl) (by rw [trimL_length]; exact Nat.le_trans (trimN_le l) hn)
    rw [trimL_length, trimL_length, val_trimL, val_trimL] at hm
    refine hm.mono ?_
    rintro e w3 ⟨v1, v2, rfl, ho1, ho2, hb⟩
    obtain ⟨A1, c1, rfl⟩ := Kd.R_slice ho1
    obtain ⟨A2, c2, rfl⟩ := Kd.R_slice ho2
    have HO1 := Aside0.mk (Kd.R_lower ho1 HB2.out.size)
    have HO2 := Aside0.mk (Kd.R_lower ho2 HB2.out.size)
    have HB := Aside0.mk (HB2.out.trans (hb.mono HB2.out.size))
    clear ho1 ho2 hb hm
    go_wp2
    go_ret3
    exact ⟨_, _, rfl, HO1.out, HO2.out, HB.out⟩

theorem NatGcd_calls (A A' : Option Addr) (c c' : Nat) (l l' : List Int) (w : World) (hr : (Kd.int .u32).C w A l.length l) (hc : l.length ≤ c) (hr' : (Kd.int .u32).C w A' l'.length l') (hc' : l'.length ≤ c')
    (hl : Limbs l) (hl' : Limbs l') (hn : l.length ≤ 1099511627776) (hn' : l'.length ≤ 1099511627776) :
    Calls Try.prog 24 #[.slice A l.length c, .slice A' l'.length c'] w fun e w' => ∃ v, e = .returned v ∧ (Kd.int .u32).R 49 w' w.heap.size (fun _ => True) v (lim (Nat.gcd (val l) (val l'))) ∧ Below w.heap.size w w' := by
  have HR := Aside0.mk hr
  have HR' := Aside0.mk hr'
  have HC := Aside0.mk hc
  have HC' := Aside0.mk hc'
  clear hr hc hr' hc'
  go_enter Try.func24, Try.ntmps24
  go_wp2_with fail
  refine (natOf_calls _ _ _ _ HR.out HC.out).mono ?_
  rintro e w1 ⟨rfl, hb⟩
  have HB1 := Aside0.mk hb
  clear hb
  go_wp2_with fail
  refine (natOf_calls _ _ _ _ (Kd.C_below HR'.out HB1.out) HC'.out).mono ?_
  rintro e w2 ⟨rfl, hb⟩
  have HB2 := Aside0.mk (HB1.out.trans (hb.mono HB1.out.size))
  clear hb
  go_wp2_with fail
  have hm := gcd_calls A A' c c' (trimL l) (trimL l') w2 (C_trimL (Kd.C_below HR.out HB2.out)) (C_trimL (Kd.C_below HR'.out HB2.out)) (limbs_trimL hl) (limbs_trimL hl') (plain_trimL _) (plain_trimL _)
    (by rw [trimL_length]; exact Nat.le_trans (trimN_le l) hn) (by rw [trimL_length]; exact Nat.le_trans (trimN_le l') hn')
  rw [trimL_length, trimL_length, val_trimL, val_trimL] at hm
  refine hm.mono ?_
  rintro e w3 ⟨v, rfl, ho, hb⟩
  have HO := Aside0.mk (Kd.R_lower ho HB2.out.size)
  have HB := Aside0.mk (HB2.out.trans (hb.mono HB2.out.size))
  clear ho hb hm
  go_wp2
  go_ret
  exact ⟨_, rfl, HO.out, HB.out⟩
end Go.Proofs.Ytjmgemmieedkiaa.Hand
