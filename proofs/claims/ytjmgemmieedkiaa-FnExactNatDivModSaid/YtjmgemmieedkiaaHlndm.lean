/- The law FnExactNatDivMod: true at all lists of limbs. Conditions: the lists can be read and their elements are limbs. -/
import Derived.Test.YtjmgemmieedkiaaHkit
import Derived.Test.YtjmgemmieedkiaaHsndm
import Derived.Test.YtjmgemmieedkiaaHb
set_option linter.unusedVariables false
set_option linter.unusedSimpArgs false
namespace Go.Proofs.Ytjmgemmieedkiaa.Hand
open Go.RowKit Go.Proofs.YtjmgemmieedkiaaW.PrintWords Go.Proofs.YtjmgemmieedkiaaW.PrintLast Go.Proofs.YtjmgemmieedkiaaW.PrintMore

/-- What the two functions hand back, by name. -/
def DmIs (l l' zq zr : List Int) (zb : Bool) : Prop := zq = (if val l' = 0 then [] else lim (val l / val l')) ∧ zr = (if val l' = 0 then [] else lim (val l % val l')) ∧ zb = decide (val l' ≠ 0)
theorem spec_NatDivMod_K {A A' : Option Addr} {n n' c c' : Nat} (l l' zq zr : List Int) (zb : Bool) (w : World) (hr : natK.K w l [.slice A n c]) (hr' : natK.K w l' [.slice A' n' c']) (hl : Limbs l) (hl' : Limbs l') (hn : l.length ≤ 1048576) (hn' : l'.length ≤ 1048576) (hz : DmIs l l' zq zr zb) :
    Calls Try.prog 21 #[.slice A n c, .slice A' n' c'] w fun e w' => ∃ A1 c1 A2 c2, e = .returned (.tuple #[.slice A1 zq.length c1, .slice A2 zr.length c2, .bool zb]) ∧ (natK.M w' w.heap.size (fun _ => True) zq [.slice A1 zq.length c1] ∧ natK.M w' w.heap.size (fun _ => True) zr [.slice A2 zr.length c2]) ∧ Below w.heap.size w w' := by
  obtain ⟨B, d, e, hc, h⟩ := hr
  obtain ⟨B', d', e', hc', h'⟩ := hr'
  injection e with e _
  injection e with e1 e2 e3
  injection e' with e' _
  injection e' with e1' e2' e3'
  subst e1 e2 e3 e1' e2' e3'
  obtain ⟨rfl, rfl, rfl⟩ := hz
  refine (spec_NatDivMod_calls _ _ _ _ l l' w h h' hl hl' (by omega) (by omega)).mono ?_
  rintro e w' ⟨v1, v2, rfl, h1, h2, hb⟩
  obtain ⟨A1, c1, rfl⟩ := Kd.R_slice h1
  obtain ⟨A2, c2, rfl⟩ := Kd.R_slice h2
  exact ⟨A1, c1, A2, c2, rfl, ⟨natK_made h1, natK_made h2⟩, hb⟩
theorem impl_NatDivMod_K {A A' : Option Addr} {n n' c c' : Nat} (l l' zq zr : List Int) (zb : Bool) (w : World) (hr : natK.K w l [.slice A n c]) (hr' : natK.K w l' [.slice A' n' c']) (hl : Limbs l) (hl' : Limbs l') (hn : l.length ≤ 1048576) (hn' : l'.length ≤ 1048576) (hz : DmIs l l' zq zr zb) :
    Calls Try.prog 22 #[.slice A n c, .slice A' n' c'] w fun e w' => ∃ A1 c1 A2 c2, e = .returned (.tuple #[.slice A1 zq.length c1, .slice A2 zr.length c2, .bool zb]) ∧ (∃ P, natK.M w' w.heap.size P zq [.slice A1 zq.length c1] ∧ natK.M w' w.heap.size (fun k => ¬ P k) zr [.slice A2 zr.length c2]) ∧ Below w.heap.size w w' := by
  obtain ⟨B, d, e, hc, h⟩ := hr
  obtain ⟨B', d', e', hc', h'⟩ := hr'
  injection e with e _
  injection e with e1 e2 e3
  injection e' with e' _
  injection e' with e1' e2' e3'
  subst e1 e2 e3 e1' e2' e3'
  obtain ⟨rfl, rfl, rfl⟩ := hz
  refine (NatDivMod_calls _ _ _ _ l l' w h hc h' hc' hl hl' (by omega)).mono ?_
  rintro e w' ⟨v1, v2, rfl, h1, h2, hb⟩
  obtain ⟨A1, c1, rfl⟩ := Kd.R_slice h1
  obtain ⟨A2, c2, rfl⟩ := Kd.R_slice h2
  exact ⟨A1, c1, A2, c2, rfl, ⟨fun k => some k = (Value.slice A1 _ c1).ownBlock, natK_made (Kd.R_mono (Kd.R_tight2 rfl h1) (fun k hk => hk.1)), natK_made (Kd.R_mono h2 (fun k hk he => hk he))⟩, hb⟩
theorem dm_len {l : List Int} {z : List Int} {x m : Nat} (hl : Limbs l) (hz : z = (if m = 0 then [] else lim x)) (hx : x ≤ val l) : z.length ≤ l.length := by
  subst hz
  split
  · simp
  · exact lim_length_le (Nat.lt_of_le_of_lt hx (val_lt hl))

set_option maxHeartbeats 4000000 in
set_option maxRecDepth 100000 in
theorem lawNatDivMod (A A' : Option Addr) (c c' : Nat) (l l' : List Int) (w : World) (hr : natK.K w l [.slice A l.length c]) (hr' : natK.K w l' [.slice A' l'.length c']) (hl : Limbs l) (hl' : Limbs l') :
    Calls Try.prog 5 #[.slice A l.length c, .slice A' l'.length c'] w fun e w' => e = .returned (.bool true) ∧ Below w.heap.size w w' := by
  have HR := Aside0.mk hr
  have HR' := Aside0.mk hr'
  clear hr hr'
  by_cases h1 : 1048576 < l.length
  · have d1 : (1048576 : Int) < (l.length : Int) := by omega
    go_enter Try.func5, Try.ntmps5
    go_wp2
    go_ret
    exact ⟨rfl, Below.refl _ _⟩
  by_cases h2 : 1048576 < l'.length
  · have d1 : ¬ (1048576 : Int) < (l.length : Int) := by omega
    have d2 : (1048576 : Int) < (l'.length : Int) := by omega
    go_enter Try.func5, Try.ntmps5
    go_wp2
    go_ret
    exact ⟨rfl, Below.refl _ _⟩
  have d1 : ¬ (1048576 : Int) < (l.length : Int) := by omega
  have d2 : ¬ (1048576 : Int) < (l'.length : Int) := by omega
  obtain ⟨zq, zr, zb, hz⟩ : ∃ zq zr zb, DmIs l l' zq zr zb := ⟨_, _, _, rfl, rfl, rfl⟩
  have hq : zq.length ≤ l.length := dm_len hl hz.1 (Nat.div_le_self _ _)
  have hr : zr.length ≤ l.length := dm_len hl hz.2.1 (Nat.mod_le _ _)
  have hbb : (zb != zb) = false := by simp
  have HZ := Aside0.mk hz
  clear hz
  obtain ⟨n0_, hn0_⟩ : ∃ v : Int, v = ((1 + l.length : Nat) : Int) := ⟨_, rfl⟩
  have n0_0 : 0 ≤ n0_ := by omega
  have n0_d : decide (n0_ < 0) = false := decide_eq_false (by omega)
  have n0_e : (n0_ != n0_) = false := by simp
  have Hn0_ := Aside0.mk hn0_
  clear hn0_
  obtain ⟨n1_, hn1_⟩ : ∃ v : Int, v = ((1 + l.length + l'.length : Nat) : Int) := ⟨_, rfl⟩
  have n1_0 : 0 ≤ n1_ := by omega
  have n1_d : decide (n1_ < 0) = false := decide_eq_false (by omega)
  have n1_e : (n1_ != n1_) = false := by simp
  have Hn1_ := Aside0.mk hn1_
  clear hn1_
  obtain ⟨n2_, hn2_⟩ : ∃ v : Int, v = ((1 + zq.length : Nat) : Int) := ⟨_, rfl⟩
  have n2_0 : 0 ≤ n2_ := by omega
  have n2_d : decide (n2_ < 0) = false := decide_eq_false (by omega)
  have n2_e : (n2_ != n2_) = false := by simp
  have Hn2_ := Aside0.mk hn2_
  clear hn2_
  obtain ⟨n3_, hn3_⟩ : ∃ v : Int, v = ((1 + zq.length + zr.length : Nat) : Int) := ⟨_, rfl⟩
  have n3_0 : 0 ≤ n3_ := by omega
  have n3_d : decide (n3_ < 0) = false := decide_eq_false (by omega)
  have n3_e : (n3_ != n3_) = false := by simp
  have Hn3_ := Aside0.mk hn3_
  clear hn3_
  go_enter Try.func5, Try.ntmps5
  have HB0 := Aside0.mk (Below.refl w.heap.size w)
  go_wp2_with fail
  refine (toN_K l _ (Kd.K_below _ HB0.out HR.out) (by omega)).mono ?_
  rintro e w1 ⟨A1, c1, rfl, ho, hb⟩
  have HN0 := Aside0.mk (fresh_M (w0 := w) ho HB0.out.size)
  clear ho
  have HB1 := Aside0.mk (HB0.out.trans (hb.mono HB0.out.size))
  have S1 := hb.size
  clear hb HB0
  have HTA1 := HN0
  clear HN0
  go_wp2_with fail
  refine (toN_K l' _ (Kd.K_below _ HB1.out HR'.out) (by omega)).mono ?_
  rintro e w2 ⟨A2, c2, rfl, ho, hb⟩
  have HN0 := Aside0.mk (fresh_M (w0 := w) ho HB1.out.size)
  clear ho
  have HB2 := Aside0.mk (HB1.out.trans (hb.mono HB1.out.size))
  have S2 := hb.size
  have HTA2 := Aside0.mk (Kd.M_below HTA1.out hb)
  clear HTA1
  clear hb HB1
  have HTB2 := HN0
  clear HN0
  go_wp2_with fail
  refine (spec_NatDivMod_K l l' zq zr zb _ (Kd.K_of_M _ HTA2.out) (Kd.K_of_M _ HTB2.out) hl hl' (by omega) (by omega) HZ.out).mono ?_
  rintro e w3 ⟨A3, c3, A4, c4, rfl, ⟨ho1, ho2⟩, hb⟩
  have HN0 := Aside0.mk (fresh_M (w0 := w) ho1 HB2.out.size)
  have HN1 := Aside0.mk (fresh_M (w0 := w) ho2 HB2.out.size)
  clear ho1 ho2
  have HB3 := Aside0.mk (HB2.out.trans (hb.mono HB2.out.size))
  have S3 := hb.size
  have HTA3 := Aside0.mk (Kd.M_below HTA2.out hb)
  have HTB3 := Aside0.mk (Kd.M_below HTB2.out hb)
  clear HTA2 HTB2
  clear hb HB2
  have HW03 := HN0
  clear HN0
  have HW13 := HN1
  clear HN1
  clear HTA3
  clear HTB3
  go_wp2_with fail
  refine (toN_K l _ (Kd.K_below _ HB3.out HR.out) (by omega)).mono ?_
  rintro e w4 ⟨A5, c5, rfl, ho, hb⟩
  have HN0 := Aside0.mk (fresh_M (w0 := w) ho HB3.out.size)
  clear ho
  have HB4 := Aside0.mk (HB3.out.trans (hb.mono HB3.out.size))
  have S4 := hb.size
  have HW04 := Aside0.mk (Kd.M_below HW03.out hb)
  have HW14 := Aside0.mk (Kd.M_below HW13.out hb)
  clear HW03 HW13
  clear hb HB3
  have HX4 := HN0
  clear HN0
  go_wp2_with fail
  refine (toN_K l' _ (Kd.K_below _ HB4.out HR'.out) (by omega)).mono ?_
  rintro e w5 ⟨A6, c6, rfl, ho, hb⟩
  have HN0 := Aside0.mk (fresh_M (w0 := w) ho HB4.out.size)
  clear ho
  have HB5 := Aside0.mk (HB4.out.trans (hb.mono HB4.out.size))
  have S5 := hb.size
  have HW05 := Aside0.mk (Kd.M_below HW04.out hb)
  have HW15 := Aside0.mk (Kd.M_below HW14.out hb)
  have HX5 := Aside0.mk (Kd.M_below HX4.out hb)
  clear HW04 HW14 HX4
  clear hb HB4
  have HY5 := HN0
  clear HN0
  go_wp2_with fail
  refine (impl_NatDivMod_K l l' zq zr zb _ (Kd.K_of_M _ HX5.out) (Kd.K_of_M _ HY5.out) hl hl' (by omega) (by omega) HZ.out).mono ?_
  rintro e w6 ⟨A7, c7, A8, c8, rfl, ⟨P, ho1, ho2⟩, hb⟩
  have HN0 := Aside0.mk (fresh_M (w0 := w) ho1 HB5.out.size)
  have HN1 := Aside0.mk (fresh_M (w0 := w) ho2 HB5.out.size)
  clear ho1 ho2
  have HB6 := Aside0.mk (HB5.out.trans (hb.mono HB5.out.size))
  have S6 := hb.size
  have HW06 := Aside0.mk (Kd.M_below HW05.out hb)
  have HW16 := Aside0.mk (Kd.M_below HW15.out hb)
  have HX6 := Aside0.mk (Kd.M_below HX5.out hb)
  have HY6 := Aside0.mk (Kd.M_below HY5.out hb)
  clear HW05 HW15 HX5 HY5
  clear hb HB5
  have HG06 := HN0
  clear HN0
  have HG16 := HN1
  clear HN1
  go_wp2_with fail
  refine (eqN_K zq _ (Kd.K_of_M _ HG06.out) (Kd.K_of_M _ HW06.out)).mono ?_
  rintro e w7 ⟨rfl, hb⟩
  have HB7 := Aside0.mk (HB6.out.trans (hb.mono HB6.out.size))
  have S7 := hb.size
  have HW07 := Aside0.mk (Kd.M_below HW06.out hb)
  have HW17 := Aside0.mk (Kd.M_below HW16.out hb)
  have HX7 := Aside0.mk (Kd.M_below HX6.out hb)
  have HY7 := Aside0.mk (Kd.M_below HY6.out hb)
  have HG07 := Aside0.mk (Kd.M_below HG06.out hb)
  have HG17 := Aside0.mk (Kd.M_below HG16.out hb)
  clear HW06 HW16 HX6 HY6 HG06 HG16
  clear hb HB6
  go_wp2_with fail
  refine (eqN_K zr _ (Kd.K_of_M _ HG17.out) (Kd.K_of_M _ HW17.out)).mono ?_
  rintro e w8 ⟨rfl, hb⟩
  have HB8 := Aside0.mk (HB7.out.trans (hb.mono HB7.out.size))
  have S8 := hb.size
  have HW08 := Aside0.mk (Kd.M_below HW07.out hb)
  have HW18 := Aside0.mk (Kd.M_below HW17.out hb)
  have HX8 := Aside0.mk (Kd.M_below HX7.out hb)
  have HY8 := Aside0.mk (Kd.M_below HY7.out hb)
  have HG08 := Aside0.mk (Kd.M_below HG07.out hb)
  have HG18 := Aside0.mk (Kd.M_below HG17.out hb)
  clear HW07 HW17 HX7 HY7 HG07 HG17
  clear hb HB7
  go_wp2_with fail
  refine (toN_K l _ (Kd.K_below _ HB8.out HR.out) (by omega)).mono ?_
  rintro e w9 ⟨A9, c9, rfl, ho, hb⟩
  have HN0 := Aside0.mk (fresh_M (w0 := w) ho HB8.out.size)
  clear ho
  have HB9 := Aside0.mk (HB8.out.trans (hb.mono HB8.out.size))
  have S9 := hb.size
  have HW09 := Aside0.mk (Kd.M_below HW08.out hb)
  have HW19 := Aside0.mk (Kd.M_below HW18.out hb)
  have HX9 := Aside0.mk (Kd.M_below HX8.out hb)
  have HY9 := Aside0.mk (Kd.M_below HY8.out hb)
  have HG09 := Aside0.mk (Kd.M_below HG08.out hb)
  have HG19 := Aside0.mk (Kd.M_below HG18.out hb)
  clear HW08 HW18 HX8 HY8 HG08 HG18
  clear hb HB8
  have HT9 := HN0
  clear HN0
  go_wp2_with fail
  refine (eqN_K l _ (Kd.K_of_M _ HX9.out) (Kd.K_of_M _ HT9.out)).mono ?_
  rintro e w10 ⟨rfl, hb⟩
  have HB10 := Aside0.mk (HB9.out.trans (hb.mono HB9.out.size))
  have S10 := hb.size
  have HW010 := Aside0.mk (Kd.M_below HW09.out hb)
  have HW110 := Aside0.mk (Kd.M_below HW19.out hb)
  have HX10 := Aside0.mk (Kd.M_below HX9.out hb)
  have HY10 := Aside0.mk (Kd.M_below HY9.out hb)
  have HG010 := Aside0.mk (Kd.M_below HG09.out hb)
  have HG110 := Aside0.mk (Kd.M_below HG19.out hb)
  have HT10 := Aside0.mk (Kd.M_below HT9.out hb)
  clear HW09 HW19 HX9 HY9 HG09 HG19 HT9
  clear hb HB9
  clear HT10
  go_wp2_with fail
  refine (toN_K l' _ (Kd.K_below _ HB10.out HR'.out) (by omega)).mono ?_
  rintro e w11 ⟨A10, c10, rfl, ho, hb⟩
  have HN0 := Aside0.mk (fresh_M (w0 := w) ho HB10.out.size)
  clear ho
  have HB11 := Aside0.mk (HB10.out.trans (hb.mono HB10.out.size))
  have S11 := hb.size
  have HW011 := Aside0.mk (Kd.M_below HW010.out hb)
  have HW111 := Aside0.mk (Kd.M_below HW110.out hb)
  have HX11 := Aside0.mk (Kd.M_below HX10.out hb)
  have HY11 := Aside0.mk (Kd.M_below HY10.out hb)
  have HG011 := Aside0.mk (Kd.M_below HG010.out hb)
  have HG111 := Aside0.mk (Kd.M_below HG110.out hb)
  clear HW010 HW110 HX10 HY10 HG010 HG110
  clear hb HB10
  have HT11 := HN0
  clear HN0
  go_wp2_with fail
  refine (eqN_K l' _ (Kd.K_of_M _ HY11.out) (Kd.K_of_M _ HT11.out)).mono ?_
  rintro e w12 ⟨rfl, hb⟩
  have HB12 := Aside0.mk (HB11.out.trans (hb.mono HB11.out.size))
  have S12 := hb.size
  have HW012 := Aside0.mk (Kd.M_below HW011.out hb)
  have HW112 := Aside0.mk (Kd.M_below HW111.out hb)
  have HX12 := Aside0.mk (Kd.M_below HX11.out hb)
  have HY12 := Aside0.mk (Kd.M_below HY11.out hb)
  have HG012 := Aside0.mk (Kd.M_below HG011.out hb)
  have HG112 := Aside0.mk (Kd.M_below HG111.out hb)
  have HT12 := Aside0.mk (Kd.M_below HT11.out hb)
  clear HW011 HW111 HX11 HY11 HG011 HG111 HT11
  clear hb HB11
  clear HT12
  go_wp2_with fail
  refine (markN_K w.heap.size _ l (1) 1 n0_ _ HX12.out HB12.out.size (by rfl) Hn0_.out (by omega)).mono ?_
  rintro e w13 ⟨rfl, hm, hb, hk⟩
  have HB13 := Aside0.mk (HB12.out.trans hb)
  have S13 := hk.1
  have HW013 := Aside0.mk (Kd.M_kept HW012.out hk (fun k h1 h2 => iv_far (by omega) h1 h2))
  have HW113 := Aside0.mk (Kd.M_kept HW112.out hk (fun k h1 h2 => iv_far (by omega) h1 h2))
  have HY13 := Aside0.mk (Kd.M_kept HY12.out hk (fun k h1 h2 => iv_far (by omega) h1 h2))
  have HG013 := Aside0.mk (Kd.M_kept HG012.out hk (fun k h1 h2 => iv_far (by omega) h1 h2))
  have HG113 := Aside0.mk (Kd.M_kept HG112.out hk (fun k h1 h2 => iv_far (by omega) h1 h2))
  clear HW012 HW112 HY12 HG012 HG112
  have HX13 := Aside0.mk hm
  clear hm hb hk HB12 HX12
  go_wp2_with fail
  refine (markN_K w.heap.size _ l' (1 + l.length) n0_ n1_ _ HY13.out HB13.out.size Hn0_.out Hn1_.out (by omega)).mono ?_
  rintro e w14 ⟨rfl, hm, hb, hk⟩
  have HB14 := Aside0.mk (HB13.out.trans hb)
  have S14 := hk.1
  have HW014 := Aside0.mk (Kd.M_kept HW013.out hk (fun k h1 h2 => iv_far (by omega) h1 h2))
  have HW114 := Aside0.mk (Kd.M_kept HW113.out hk (fun k h1 h2 => iv_far (by omega) h1 h2))
  have HX14 := Aside0.mk (Kd.M_kept HX13.out hk (fun k h1 h2 => iv_far (by omega) h1 h2))
  have HG014 := Aside0.mk (Kd.M_kept HG013.out hk (fun k h1 h2 => iv_far (by omega) h1 h2))
  have HG114 := Aside0.mk (Kd.M_kept HG113.out hk (fun k h1 h2 => iv_far (by omega) h1 h2))
  clear HW013 HW113 HX13 HG013 HG113
  have HY14 := Aside0.mk hm
  clear hm hb hk HB13 HY13
  clear HX14
  clear HY14
  go_wp2_with fail
  refine (eqN_K zq _ (Kd.K_of_M _ HG014.out) (Kd.K_of_M _ HW014.out)).mono ?_
  rintro e w15 ⟨rfl, hb⟩
  have HB15 := Aside0.mk (HB14.out.trans (hb.mono HB14.out.size))
  have S15 := hb.size
  have HW015 := Aside0.mk (Kd.M_below HW014.out hb)
  have HW115 := Aside0.mk (Kd.M_below HW114.out hb)
  have HG015 := Aside0.mk (Kd.M_below HG014.out hb)
  have HG115 := Aside0.mk (Kd.M_below HG114.out hb)
  clear HW014 HW114 HG014 HG114
  clear hb HB14
  go_wp2_with fail
  refine (eqN_K zr _ (Kd.K_of_M _ HG115.out) (Kd.K_of_M _ HW115.out)).mono ?_
  rintro e w16 ⟨rfl, hb⟩
  have HB16 := Aside0.mk (HB15.out.trans (hb.mono HB15.out.size))
  have S16 := hb.size
  have HW016 := Aside0.mk (Kd.M_below HW015.out hb)
  have HW116 := Aside0.mk (Kd.M_below HW115.out hb)
  have HG016 := Aside0.mk (Kd.M_below HG015.out hb)
  have HG116 := Aside0.mk (Kd.M_below HG115.out hb)
  clear HW015 HW115 HG015 HG115
  clear hb HB15
  go_wp2_with fail
  refine (markN_K w.heap.size _ zq (1) 1 n2_ _ HG016.out HB16.out.size (by rfl) Hn2_.out (by omega)).mono ?_
  rintro e w17 ⟨rfl, hm, hb, hk⟩
  have HB17 := Aside0.mk (HB16.out.trans hb)
  have S17 := hk.1
  have HW017 := Aside0.mk (Kd.M_kept HW016.out hk (fun k h1 h2 => iv_far (by omega) h1 h2))
  have HW117 := Aside0.mk (Kd.M_kept HW116.out hk (fun k h1 h2 => iv_far (by omega) h1 h2))
  have HG117 := Aside0.mk (Kd.M_kept HG116.out hk (fun k h1 h2 => iv_side h2 h1))
  clear HW016 HW116 HG116
  have HG017 := Aside0.mk hm
  clear hm hb hk HB16 HG016
  go_wp2_with fail
  refine (markN_K w.heap.size _ zr (1 + zq.length) n2_ n3_ _ HG117.out HB17.out.size Hn2_.out Hn3_.out (by omega)).mono ?_
  rintro e w18 ⟨rfl, hm, hb, hk⟩
  have HB18 := Aside0.mk (HB17.out.trans hb)
  have S18 := hk.1
  have HW018 := Aside0.mk (Kd.M_kept HW017.out hk (fun k h1 h2 => iv_far (by omega) h1 h2))
  have HW118 := Aside0.mk (Kd.M_kept HW117.out hk (fun k h1 h2 => iv_far (by omega) h1 h2))
  have HG018 := Aside0.mk (Kd.M_kept HG017.out hk (fun k h1 h2 => iv_side h1 h2))
  clear HW017 HW117 HG017
  have HG118 := Aside0.mk hm
  clear hm hb hk HB17 HG117
  go_wp2_with fail
  refine (heldN_K zq (1) 1 n2_ _ (Kd.K_of_M _ HG018.out) (by rfl) Hn2_.out (by omega)).mono ?_
  rintro e w19 ⟨rfl, hb⟩
  have HB19 := Aside0.mk (HB18.out.trans (hb.mono HB18.out.size))
  have S19 := hb.size
  have HW019 := Aside0.mk (Kd.M_below HW018.out hb)
  have HW119 := Aside0.mk (Kd.M_below HW118.out hb)
  have HG019 := Aside0.mk (Kd.M_below HG018.out hb)
  have HG119 := Aside0.mk (Kd.M_below HG118.out hb)
  clear HW018 HW118 HG018 HG118
  clear hb HB18
  go_wp2_with fail
  refine (heldN_K zr (1 + zq.length) n2_ n3_ _ (Kd.K_of_M _ HG119.out) Hn2_.out Hn3_.out (by omega)).mono ?_
  rintro e w20 ⟨rfl, hb⟩
  have HB20 := Aside0.mk (HB19.out.trans (hb.mono HB19.out.size))
  have S20 := hb.size
  have HW020 := Aside0.mk (Kd.M_below HW019.out hb)
  have HW120 := Aside0.mk (Kd.M_below HW119.out hb)
  have HG020 := Aside0.mk (Kd.M_below HG019.out hb)
  have HG120 := Aside0.mk (Kd.M_below HG119.out hb)
  clear HW019 HW119 HG019 HG119
  clear hb HB19
  clear HG020
  clear HG120
  go_wp2_with fail
  refine (toN_K l _ (Kd.K_below _ HB20.out HR.out) (by omega)).mono ?_
  rintro e w21 ⟨A11, c11, rfl, ho, hb⟩
  have HN0 := Aside0.mk (fresh_M (w0 := w) ho HB20.out.size)
  clear ho
  have HB21 := Aside0.mk (HB20.out.trans (hb.mono HB20.out.size))
  have S21 := hb.size
  have HW021 := Aside0.mk (Kd.M_below HW020.out hb)
  have HW121 := Aside0.mk (Kd.M_below HW120.out hb)
  clear HW020 HW120
  clear hb HB20
  have HX21 := HN0
  clear HN0
  go_wp2_with fail
  refine (toN_K l' _ (Kd.K_below _ HB21.out HR'.out) (by omega)).mono ?_
  rintro e w22 ⟨A12, c12, rfl, ho, hb⟩
  have HN0 := Aside0.mk (fresh_M (w0 := w) ho HB21.out.size)
  clear ho
  have HB22 := Aside0.mk (HB21.out.trans (hb.mono HB21.out.size))
  have S22 := hb.size
  have HW022 := Aside0.mk (Kd.M_below HW021.out hb)
  have HW122 := Aside0.mk (Kd.M_below HW121.out hb)
  have HX22 := Aside0.mk (Kd.M_below HX21.out hb)
  clear HW021 HW121 HX21
  clear hb HB21
  have HY22 := HN0
  clear HN0
  go_wp2_with fail
  refine (impl_NatDivMod_K l l' zq zr zb _ (Kd.K_of_M _ HX22.out) (Kd.K_of_M _ HY22.out) hl hl' (by omega) (by omega) HZ.out).mono ?_
  rintro e w23 ⟨A13, c13, A14, c14, rfl, ⟨P, ho1, ho2⟩, hb⟩
  have HN0 := Aside0.mk (fresh_M (w0 := w) ho1 HB22.out.size)
  have HN1 := Aside0.mk (fresh_M (w0 := w) ho2 HB22.out.size)
  clear ho1 ho2
  have HB23 := Aside0.mk (HB22.out.trans (hb.mono HB22.out.size))
  have S23 := hb.size
  have HW023 := Aside0.mk (Kd.M_below HW022.out hb)
  have HW123 := Aside0.mk (Kd.M_below HW122.out hb)
  have HX23 := Aside0.mk (Kd.M_below HX22.out hb)
  have HY23 := Aside0.mk (Kd.M_below HY22.out hb)
  clear HW022 HW122 HX22 HY22
  clear hb HB22
  have HG023 := HN0
  clear HN0
  have HG123 := HN1
  clear HN1
  go_wp2_with fail
  refine (eqN_K zq _ (Kd.K_of_M _ HG023.out) (Kd.K_of_M _ HW023.out)).mono ?_
  rintro e w24 ⟨rfl, hb⟩
  have HB24 := Aside0.mk (HB23.out.trans (hb.mono HB23.out.size))
  have S24 := hb.size
  have HW024 := Aside0.mk (Kd.M_below HW023.out hb)
  have HW124 := Aside0.mk (Kd.M_below HW123.out hb)
  have HX24 := Aside0.mk (Kd.M_below HX23.out hb)
  have HY24 := Aside0.mk (Kd.M_below HY23.out hb)
  have HG024 := Aside0.mk (Kd.M_below HG023.out hb)
  have HG124 := Aside0.mk (Kd.M_below HG123.out hb)
  clear HW023 HW123 HX23 HY23 HG023 HG123
  clear hb HB23
  go_wp2_with fail
  refine (eqN_K zr _ (Kd.K_of_M _ HG124.out) (Kd.K_of_M _ HW124.out)).mono ?_
  rintro e w25 ⟨rfl, hb⟩
  have HB25 := Aside0.mk (HB24.out.trans (hb.mono HB24.out.size))
  have S25 := hb.size
  have HW025 := Aside0.mk (Kd.M_below HW024.out hb)
  have HW125 := Aside0.mk (Kd.M_below HW124.out hb)
  have HX25 := Aside0.mk (Kd.M_below HX24.out hb)
  have HY25 := Aside0.mk (Kd.M_below HY24.out hb)
  have HG025 := Aside0.mk (Kd.M_below HG024.out hb)
  have HG125 := Aside0.mk (Kd.M_below HG124.out hb)
  clear HW024 HW124 HX24 HY24 HG024 HG124
  clear hb HB24
  go_wp2
  go_ret
  exact ⟨rfl, HB25.out⟩
end Go.Proofs.Ytjmgemmieedkiaa.Hand
