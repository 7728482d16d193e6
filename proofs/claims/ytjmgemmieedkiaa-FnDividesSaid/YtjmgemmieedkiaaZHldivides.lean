/- The law FnDivides: true at all drawn bytes. Conditions: the bytes can be read. -/
import Derived.Test.YtjmgemmieedkiaaZHbytes
import Derived.Test.YtjmgemmieedkiaaZHscmp
import Derived.Deep.RegionHeld3
set_option linter.unusedVariables false
set_option linter.unusedSimpArgs false
namespace Go.Proofs.Ytjmgemmieedkiaa.Hand
open Go.RowKit Go.Proofs.YtjmgemmieedkiaaW.PrintWords Go.Proofs.YtjmgemmieedkiaaW.PrintLast Go.Proofs.YtjmgemmieedkiaaW.PrintMore
theorem sAdd_Q {s s' : Bool} {A A' B B' : Option Addr} {n c m d n' c' m' d' : Nat} (qa qb : Rat) (w : World) (ha : ratK.K w (repr qa) [.bool s, .slice A n c, .slice B m d]) (hb : ratK.K w (repr qb) [.bool s', .slice A' n' c', .slice B' m' d']) (hs : (repr qa).num.length + (repr qa).den.length + ((repr qb).num.length + (repr qb).den.length) ≤ 1048576) :
    Calls Try.prog 42 #[.agg #[.bool s, .slice A n c, .slice B m d], .agg #[.bool s', .slice A' n' c', .slice B' m' d']] w (RatPost w (qa + qb)) :=
  spec_RatAdd_K _ _ _ w ha hb (repr_limbs qa) (repr_limbs qb) hs (.inr ⟨qa, qb, rfl, rfl, rfl⟩)
theorem sCmp_Q {s s' : Bool} {A A' B B' : Option Addr} {n c m d n' c' m' d' : Nat} (qa qb : Rat) (z : Int) (w : World) (ha : ratK.K w (repr qa) [.bool s, .slice A n c, .slice B m d]) (hb : ratK.K w (repr qb) [.bool s', .slice A' n' c', .slice B' m' d']) (hs : (repr qa).num.length + (repr qa).den.length + ((repr qb).num.length + (repr qb).den.length) ≤ 1048576) (hz : sgnQ (qa - qb) = z) :
    Calls Try.prog 38 #[.agg #[.bool s, .slice A n c, .slice B m d], .agg #[.bool s', .slice A' n' c', .slice B' m' d']] w fun e w' => e = .returned (.int .i64 z) ∧ Below w.heap.size w w' :=
  spec_RatCmp_K _ _ _ w ha hb (repr_limbs qa) (repr_limbs qb) hs (.inr ⟨qa, qb, rfl, rfl, hz.symm⟩)
theorem repr_nat_num (m : Nat) : (repr (m : Rat)).num = lim m := by rw [repr_nat]
theorem repr_nat_size {m k : Nat} (h : (lim m).length ≤ k) : (repr (m : Rat)).num.length + (repr (m : Rat)).den.length ≤ k + 1 := by rw [repr_nat]; simpa using h
theorem lim_of_le {x : Nat} {l : List Int} {k : Nat} (hl : Limbs l) (hn : l.length ≤ k) (h : x ≤ val l) : (lim x).length ≤ k :=
  lim_length_le (Nat.lt_of_le_of_lt h (val_le_pow hl hn))
theorem gcd_len {la lb : List Int} (ha : Limbs la ∧ la.length ≤ 30) (hb : Limbs lb ∧ lb.length ≤ 30) : (lim (Nat.gcd (val la) (val lb))).length ≤ 60 := by
  rcases Nat.eq_zero_or_pos (val la) with h | h
  · exact Nat.le_trans (lim_of_le hb.1 hb.2 (by rw [h, Nat.gcd_zero_left]; exact Nat.le_refl _)) (by omega)
  · exact Nat.le_trans (lim_of_le ha.1 ha.2 (Nat.le_of_dvd h (Nat.gcd_dvd_left _ _))) (by omega)
theorem sgn_lt {a b : Nat} (h : a < b) : sgnQ ((a : Rat) - (b : Rat)) = -1 := by
  have e : ((a : Rat) - (b : Rat)) = (((a : Int) - (b : Int) : Int) : Rat) := by
    rw [Rat.intCast_sub]; rfl
  rw [e]
  have h1 : (repr (((a : Int) - (b : Int) : Int) : Rat)).neg = true := by
    show decide ((((a : Int) - (b : Int) : Int) : Rat).num < 0) = true
    rw [Rat.num_intCast]
    exact decide_eq_true (by omega)
  have h2 : (repr (((a : Int) - (b : Int) : Int) : Rat)).num.length ≠ 0 := by
    show (lim (((a : Int) - (b : Int) : Int) : Rat).num.natAbs).length ≠ 0
    rw [Rat.num_intCast]
    intro e2
    have := lim_nil_iff.1 (List.length_eq_zero_iff.1 e2)
    omega
  unfold sgnQ signI
  rw [h1, if_neg h2]
  rfl
theorem nat_back (a b : Nat) : (((a / b * b : Nat) : Rat) + ((a % b : Nat) : Rat)) = (a : Rat) := by
  rw [← Rat.natCast_add, Nat.div_add_mod']
theorem whole_N (A : Option Addr) (c : Nat) (x : Nat) (w : World) (hr : natK.K w (lim x) [.slice A (lim x).length c]) (hn : (lim x).length ≤ 1099511627776) :
    Calls Try.prog 41 #[.slice A (lim x).length c] w (RatPost w (x : Nat)) := by
  have h := whole_calls A c (lim x) w hr (limbs_lim x) hn
  rw [val_lim] at h
  exact h
set_option maxHeartbeats 8000000 in
set_option maxRecDepth 100000 in
theorem lawDivides (A : Option Addr) (c : Nat) (l : List Int) (w : World) (hr : (Kd.int .u8).C w A l.length l) (hl : Bytes l) :
    Calls Try.prog 12 #[.slice A l.length c] w fun e w' => e = .returned (.bool true) ∧ Below w.heap.size w w' := by
  have hu := Try.underlying34
  have hl9 : l.length ≤ 9223372036854775807 := hr.2.1
  have HR := Aside0.mk hr
  have HL := Aside0.mk hl
  clear hr hl
  by_cases hs : l.length ≤ 1048576
  rotate_left
  · have d1 : decide ((1048576 : Int) < (l.length : Int)) = true := decide_eq_true (by omega)
    have d2 : decide (1048576 < l.length) = true := decide_eq_true (by omega)
    go_enter Try.func12, Try.ntmps12
    go_wp2
    go_ret
    exact ⟨rfl, Below.refl _ _⟩
  have d1 : decide ((1048576 : Int) < (l.length : Int)) = false := decide_eq_false (by omega)
  have d2 : decide (1048576 < l.length) = false := decide_eq_false (by omega)
  go_enter Try.func12, Try.ntmps12
  go_wp2_with fail
  refine (drawNDM_calls A c l w HR.out HL.out).mono ?_
  rintro e w1 ⟨Aa, ca, la, Ab, cb, lb, rfl, hka, hkb, hla, hlb, hb⟩
  have Ha1 := Aside0.mk hka
  have Hb1 := Aside0.mk hkb
  have HLA := Aside0.mk hla
  have HLB := Aside0.mk hlb
  have HLA6 : Aside0 (Limbs la ∧ la.length ≤ 60) := ⟨hla.1, by omega⟩
  have HLB6 : Aside0 (Limbs lb ∧ lb.length ≤ 60) := ⟨hlb.1, by omega⟩
  have HB1 := Aside0.mk hb
  clear hka hkb hla hlb hb d1 d2 hs hl9
  have hsa : (repr ((val la : Nat) : Rat)).num.length + (repr ((val la : Nat) : Rat)).den.length ≤ 31 := repr_nat_size (lim_of_le HLA.out.1 HLA.out.2 (Nat.le_refl _))
  have hsb : (repr ((val lb : Nat) : Rat)).num.length + (repr ((val lb : Nat) : Rat)).den.length ≤ 31 := repr_nat_size (lim_of_le HLB.out.1 HLB.out.2 (Nat.le_refl _))
  have HSA := Aside0.mk hsa
  have HSB := Aside0.mk hsb
  clear hsa hsb
  go_wp2_with fail
  refine (whole_calls Aa ca la _ Ha1.out HLA.out.1 (by have := HLA.out.2; omega)).mono ?_
  rintro e w2 ⟨A1_, c1_, B1_, d1_, rfl, hM, hb⟩
  have HN0 := Aside0.mk (ratK.K_of_M hM)
  clear hM
  have HB2 := Aside0.mk (HB1.out.trans (hb.mono HB1.out.size))
  have Ha2 := Aside0.mk (natK.K_below hb Ha1.out)
  have Hb2 := Aside0.mk (natK.K_below hb Hb1.out)
  clear hb HB1 Ha1 Hb1
  have Hwa2 := HN0
  clear HN0
  go_upto_region 5 with fail
  have hb := below_alloc (Below.refl w2.heap.size w2) (.cells #[.bool (repr ((val la : Nat) : Rat)).neg, .slice A1_ (repr ((val la : Nat) : Rat)).num.length c1_, .slice B1_ (repr ((val la : Nat) : Rat)).den.length d1_] 34)
  have hk := Blk.new w2 34 #[.bool (repr ((val la : Nat) : Rat)).neg, .slice A1_ (repr ((val la : Nat) : Rat)).num.length c1_, .slice B1_ (repr ((val la : Nat) : Rat)).den.length d1_]
  generalize w2.alloc (.cells #[.bool (repr ((val la : Nat) : Rat)).neg, .slice A1_ (repr ((val la : Nat) : Rat)).num.length c1_, .slice B1_ (repr ((val la : Nat) : Rat)).den.length d1_] 34) = w3 at hb hk ⊢
  have HNB := Aside0.mk hk
  clear hk
  have HB3 := Aside0.mk (HB2.out.trans (hb.mono HB2.out.size))
  have Ha3 := Aside0.mk (natK.K_below hb Ha2.out)
  have Hb3 := Aside0.mk (natK.K_below hb Hb2.out)
  have Hwa3 := Aside0.mk (ratK.K_below hb Hwa2.out)
  clear hb HB2 Ha2 Hb2 Hwa2
  have HXxa3 := HNB
  clear HNB
  obtain ⟨bxa0, bxa1, bxa2⟩ := box3 HXxa3.out
  go_wp2_with fail
  refine (whole_calls Ab cb lb _ Hb3.out HLB.out.1 (by have := HLB.out.2; omega)).mono ?_
  rintro e w4 ⟨A2_, c2_, B2_, d2_, rfl, hM, hb⟩
  have HN0 := Aside0.mk (ratK.K_of_M hM)
  clear hM
  have HB4 := Aside0.mk (HB3.out.trans (hb.mono HB3.out.size))
  have Ha4 := Aside0.mk (natK.K_below hb Ha3.out)
  have Hb4 := Aside0.mk (natK.K_below hb Hb3.out)
  have Hwa4 := Aside0.mk (ratK.K_below hb Hwa3.out)
  have HXxa4 := Aside0.mk (HXxa3.out.below hb HXxa3.out.lt)
  clear hb HB3 Ha3 Hb3 Hwa3 HXxa3
  have Hwb4 := HN0
  clear HN0
  clear bxa0 bxa1 bxa2
  obtain ⟨bxa0, bxa1, bxa2⟩ := box3 HXxa4.out
  go_upto_region 6 with fail
  have hb := below_alloc (Below.refl w4.heap.size w4) (.cells #[.bool (repr ((val lb : Nat) : Rat)).neg, .slice A2_ (repr ((val lb : Nat) : Rat)).num.length c2_, .slice B2_ (repr ((val lb : Nat) : Rat)).den.length d2_] 34)
  have hk := Blk.new w4 34 #[.bool (repr ((val lb : Nat) : Rat)).neg, .slice A2_ (repr ((val lb : Nat) : Rat)).num.length c2_, .slice B2_ (repr ((val lb : Nat) : Rat)).den.length d2_]
  generalize w4.alloc (.cells #[.bool (repr ((val lb : Nat) : Rat)).neg, .slice A2_ (repr ((val lb : Nat) : Rat)).num.length c2_, .slice B2_ (repr ((val lb : Nat) : Rat)).den.length d2_] 34) = w5 at hb hk ⊢
  have HNB := Aside0.mk hk
  clear hk
  have HB5 := Aside0.mk (HB4.out.trans (hb.mono HB4.out.size))
  have Ha5 := Aside0.mk (natK.K_below hb Ha4.out)
  have Hb5 := Aside0.mk (natK.K_below hb Hb4.out)
  have Hwa5 := Aside0.mk (ratK.K_below hb Hwa4.out)
  have Hwb5 := Aside0.mk (ratK.K_below hb Hwb4.out)
  have HXxa5 := Aside0.mk (HXxa4.out.below hb HXxa4.out.lt)
  clear hb HB4 Ha4 Hb4 Hwa4 Hwb4 HXxa4
  have HXxb5 := HNB
  clear HNB
  have en : (repr ((val lb : Nat) : Rat)).num.length = (lim (val lb)).length := by rw [repr_nat_num]
  have HEN := Aside0.mk en
  clear en
  by_cases hvb : val lb = 0
  · have HVB := Aside0.mk hvb
    have hlb0 : (lim (val lb)).length = 0 := by rw [hvb, lim_zero]; rfl
    have hrb0 : (repr ((val lb : Nat) : Rat)).num.length = 0 := by rw [HEN.out]; exact hlb0
    clear hvb hlb0
    clear bxa0 bxa1 bxa2
    obtain ⟨bxa0, bxa1, bxa2⟩ := box3 HXxa5.out
    obtain ⟨bxb0, bxb1, bxb2⟩ := box3 HXxb5.out
    go_wp2_with fail
    refine (ndm_Z Aa Ab ca cb la lb _ Ha5.out Hb5.out HLA6.out HLB6.out HVB.out).mono ?_
    rintro e w6 ⟨vq, vr, rfl, hb⟩
    have HB6 := Aside0.mk (HB5.out.trans (hb.mono HB5.out.size))
    have Ha6 := Aside0.mk (natK.K_below hb Ha5.out)
    have Hb6 := Aside0.mk (natK.K_below hb Hb5.out)
    have Hwa6 := Aside0.mk (ratK.K_below hb Hwa5.out)
    have Hwb6 := Aside0.mk (ratK.K_below hb Hwb5.out)
    have HXxa6 := Aside0.mk (HXxa5.out.below hb HXxa5.out.lt)
    have HXxb6 := Aside0.mk (HXxb5.out.below hb HXxb5.out.lt)
    clear hb HB5 Ha5 Hb5 Hwa5 Hwb5 HXxa5 HXxb5
    by_cases hva : val la = 0
    · have hra0 : (repr ((val la : Nat) : Rat)).num.length = 0 := by rw [repr_nat_num, hva, lim_zero]; rfl
      have HVA := Aside0.mk hva
      clear hva
      clear bxa0 bxa1 bxa2 bxb0 bxb1 bxb2
      obtain ⟨bxa0, bxa1, bxa2⟩ := box3 HXxa6.out
      obtain ⟨bxb0, bxb1, bxb2⟩ := box3 HXxb6.out
      go_wp2_with fail
      have hx := ngcd_N Aa Ab ca cb la lb _ Ha6.out Hb6.out HLA6.out HLB6.out
      rw [HVA.out, HVB.out, Nat.gcd_zero_left] at hx
      refine (hx).mono ?_
      rintro e w7 ⟨A3_0, c3_0, rfl, h0, hb⟩
      have HN0 := Aside0.mk h0
      clear h0
      have HB7 := Aside0.mk (HB6.out.trans (hb.mono HB6.out.size))
      have Ha7 := Aside0.mk (natK.K_below hb Ha6.out)
      have Hb7 := Aside0.mk (natK.K_below hb Hb6.out)
      have Hwa7 := Aside0.mk (ratK.K_below hb Hwa6.out)
      have Hwb7 := Aside0.mk (ratK.K_below hb Hwb6.out)
      have HXxa7 := Aside0.mk (HXxa6.out.below hb HXxa6.out.lt)
      have HXxb7 := Aside0.mk (HXxb6.out.below hb HXxb6.out.lt)
      clear hb HB6 Ha6 Hb6 Hwa6 Hwb6 HXxa6 HXxb6
      have Hg7 := HN0
      clear HN0
      have z0 : (lim 0).length = 0 := by rw [lim_zero]; rfl
      clear bxa0 bxa1 bxa2 bxb0 bxb1 bxb2
      obtain ⟨bxa0, bxa1, bxa2⟩ := box3 HXxa7.out
      obtain ⟨bxb0, bxb1, bxb2⟩ := box3 HXxb7.out
      go_wp2
      go_ret
      exact ⟨rfl, HB7.out⟩
    · have hra0 : (((repr ((val la : Nat) : Rat)).num.length : Int) == 0) = false := by
        rw [beq_eq_false_iff_ne, repr_nat_num]
        intro e
        exact hva (lim_nil_iff.1 (List.length_eq_zero_iff.1 (by omega)))
      have HGP := Aside0.mk (show 0 < Nat.gcd (val la) (val lb) from Nat.gcd_pos_of_pos_left _ (by omega))
      clear hva
      obtain ⟨G, hG⟩ : ∃ G, G = Nat.gcd (val la) (val lb) := ⟨_, rfl⟩
      have hGp : 0 < G := by rw [hG]; exact HGP.out
      have hGa : G ∣ val la := by rw [hG]; exact Nat.gcd_dvd_left _ _
      have hGb : G ∣ val lb := by rw [hG]; exact Nat.gcd_dvd_right _ _
      have hco : Nat.gcd (val la / G) (val lb / G) = 1 := by rw [hG, Nat.gcd_div (Nat.gcd_dvd_left _ _) (Nat.gcd_dvd_right _ _)]; exact Nat.div_self HGP.out
      have HG := Aside0.mk hG
      have HGN := Aside0.mk (show G ≠ 0 by omega)
      have HMA := Aside0.mk (Nat.mod_eq_zero_of_dvd hGa)
      have HMB := Aside0.mk (Nat.mod_eq_zero_of_dvd hGb)
      have HCO := Aside0.mk hco
      have HGL : Aside0 (Limbs (lim G) ∧ (lim G).length ≤ 60) := ⟨limbs_lim _, by rw [hG]; exact gcd_len HLA.out HLB.out⟩
      have hgl : (((lim G).length : Int) == 0) = false := by
        rw [beq_eq_false_iff_ne]
        intro e
        exact HGN.out (lim_nil_iff.1 (List.length_eq_zero_iff.1 (by omega)))
      clear hG hGp hGa hGb hco
      clear bxa0 bxa1 bxa2 bxb0 bxb1 bxb2
      obtain ⟨bxa0, bxa1, bxa2⟩ := box3 HXxa6.out
      obtain ⟨bxb0, bxb1, bxb2⟩ := box3 HXxb6.out
      go_wp2_with fail
      have hx := ngcd_N Aa Ab ca cb la lb _ Ha6.out Hb6.out HLA6.out HLB6.out
      rw [← HG.out] at hx
      refine (hx).mono ?_
      rintro e w7 ⟨A3_0, c3_0, rfl, h0, hb⟩
      have HN0 := Aside0.mk h0
      clear h0
      have HB7 := Aside0.mk (HB6.out.trans (hb.mono HB6.out.size))
      have Ha7 := Aside0.mk (natK.K_below hb Ha6.out)
      have Hb7 := Aside0.mk (natK.K_below hb Hb6.out)
      have Hwa7 := Aside0.mk (ratK.K_below hb Hwa6.out)
      have Hwb7 := Aside0.mk (ratK.K_below hb Hwb6.out)
      have HXxa7 := Aside0.mk (HXxa6.out.below hb HXxa6.out.lt)
      have HXxb7 := Aside0.mk (HXxb6.out.below hb HXxb6.out.lt)
      clear hb HB6 Ha6 Hb6 Hwa6 Hwb6 HXxa6 HXxb6
      have Hg7 := HN0
      clear HN0
      clear bxa0 bxa1 bxa2 bxb0 bxb1 bxb2
      obtain ⟨bxa0, bxa1, bxa2⟩ := box3 HXxa7.out
      obtain ⟨bxb0, bxb1, bxb2⟩ := box3 HXxb7.out
      go_wp2_with fail
      have hx := ndm_N Aa A3_0 ca c3_0 la (lim G) _ Ha7.out Hg7.out HLA6.out HGL.out (by rw [val_lim]; exact HGN.out)
      rw [val_lim, HMA.out] at hx
      refine (hx).mono ?_
      rintro e w8 ⟨A4_0, c4_0, A4_1, c4_1, rfl, h0, h1, hb⟩
      have HN0 := Aside0.mk h0
      have HN1 := Aside0.mk h1
      clear h0 h1
      have HB8 := Aside0.mk (HB7.out.trans (hb.mono HB7.out.size))
      have Ha8 := Aside0.mk (natK.K_below hb Ha7.out)
      have Hb8 := Aside0.mk (natK.K_below hb Hb7.out)
      have Hwa8 := Aside0.mk (ratK.K_below hb Hwa7.out)
      have Hwb8 := Aside0.mk (ratK.K_below hb Hwb7.out)
      have Hg8 := Aside0.mk (natK.K_below hb Hg7.out)
      have HXxa8 := Aside0.mk (HXxa7.out.below hb HXxa7.out.lt)
      have HXxb8 := Aside0.mk (HXxb7.out.below hb HXxb7.out.lt)
      clear hb HB7 Ha7 Hb7 Hwa7 Hwb7 Hg7 HXxa7 HXxb7
      have Hp8 := HN0
      clear HN0
      have Hu8 := HN1
      clear HN1
      clear bxa0 bxa1 bxa2 bxb0 bxb1 bxb2
      obtain ⟨bxa0, bxa1, bxa2⟩ := box3 HXxa8.out
      obtain ⟨bxb0, bxb1, bxb2⟩ := box3 HXxb8.out
      go_wp2_with fail
      have hx := ndm_N Ab A3_0 cb c3_0 lb (lim G) _ Hb8.out Hg8.out HLB6.out HGL.out (by rw [val_lim]; exact HGN.out)
      rw [val_lim, HMB.out] at hx
      refine (hx).mono ?_
      rintro e w9 ⟨A5_0, c5_0, A5_1, c5_1, rfl, h0, h1, hb⟩
      have HN0 := Aside0.mk h0
      have HN1 := Aside0.mk h1
      clear h0 h1
      have HB9 := Aside0.mk (HB8.out.trans (hb.mono HB8.out.size))
      have Ha9 := Aside0.mk (natK.K_below hb Ha8.out)
      have Hb9 := Aside0.mk (natK.K_below hb Hb8.out)
      have Hwa9 := Aside0.mk (ratK.K_below hb Hwa8.out)
      have Hwb9 := Aside0.mk (ratK.K_below hb Hwb8.out)
      have Hg9 := Aside0.mk (natK.K_below hb Hg8.out)
      have Hp9 := Aside0.mk (natK.K_below hb Hp8.out)
      have Hu9 := Aside0.mk (natK.K_below hb Hu8.out)
      have HXxa9 := Aside0.mk (HXxa8.out.below hb HXxa8.out.lt)
      have HXxb9 := Aside0.mk (HXxb8.out.below hb HXxb8.out.lt)
      clear hb HB8 Ha8 Hb8 Hwa8 Hwb8 Hg8 Hp8 Hu8 HXxa8 HXxb8
      have Hs9 := HN0
      clear HN0
      have Hv9 := HN1
      clear HN1
      clear bxa0 bxa1 bxa2 bxb0 bxb1 bxb2
      obtain ⟨bxa0, bxa1, bxa2⟩ := box3 HXxa9.out
      obtain ⟨bxb0, bxb1, bxb2⟩ := box3 HXxb9.out
      go_wp2_with fail
      have hx := ngcd_N A4_0 A5_0 c4_0 c5_0 (lim (val la / G)) (lim (val lb / G)) _ Hp9.out Hs9.out ⟨limbs_lim _, Nat.le_trans (lim_of_le HLA.out.1 HLA.out.2 (Nat.div_le_self _ _)) (by omega)⟩ ⟨limbs_lim _, Nat.le_trans (lim_of_le HLB.out.1 HLB.out.2 (Nat.div_le_self _ _)) (by omega)⟩
      rw [val_lim, val_lim, HCO.out] at hx
      refine (hx).mono ?_
      rintro e w10 ⟨A6_0, c6_0, rfl, h0, hb⟩
      have HN0 := Aside0.mk h0
      clear h0
      have HB10 := Aside0.mk (HB9.out.trans (hb.mono HB9.out.size))
      have Ha10 := Aside0.mk (natK.K_below hb Ha9.out)
      have Hb10 := Aside0.mk (natK.K_below hb Hb9.out)
      have Hwa10 := Aside0.mk (ratK.K_below hb Hwa9.out)
      have Hwb10 := Aside0.mk (ratK.K_below hb Hwb9.out)
      have Hg10 := Aside0.mk (natK.K_below hb Hg9.out)
      have Hp10 := Aside0.mk (natK.K_below hb Hp9.out)
      have Hu10 := Aside0.mk (natK.K_below hb Hu9.out)
      have Hs10 := Aside0.mk (natK.K_below hb Hs9.out)
      have Hv10 := Aside0.mk (natK.K_below hb Hv9.out)
      have HXxa10 := Aside0.mk (HXxa9.out.below hb HXxa9.out.lt)
      have HXxb10 := Aside0.mk (HXxb9.out.below hb HXxb9.out.lt)
      clear hb HB9 Ha9 Hb9 Hwa9 Hwb9 Hg9 Hp9 Hu9 Hs9 Hv9 HXxa9 HXxb9
      have Ho10 := HN0
      clear HN0
      have z0 : (lim 0).length = 0 := by rw [lim_zero]; rfl
      have z1 : (lim 1).length = 1 := by rw [lim_pos (by omega)]; simp [lim_zero]
      have HO := natK_read Ho10.out
      obtain ⟨ad, eA, hx⟩ := Kd.at_int HO 0 (by omega) (by omega)
      subst eA
      have hx' : w10.cell? ad = some (.int .u32 1) := by
        have e : rd (lim 1) 0 = 1 := by rw [lim_pos (by omega)]; rfl
        rw [e] at hx
        simpa [Addr.add] using hx
      clear hx HO
      clear bxa0 bxa1 bxa2 bxb0 bxb1 bxb2
      obtain ⟨bxa0, bxa1, bxa2⟩ := box3 HXxa10.out
      obtain ⟨bxb0, bxb1, bxb2⟩ := box3 HXxb10.out
      go_wp2
      go_ret
      exact ⟨rfl, HB10.out⟩
  · have HVB := Aside0.mk hvb
    have hrb0 : (((repr ((val lb : Nat) : Rat)).num.length : Int) == 0) = false := by
      rw [beq_eq_false_iff_ne, HEN.out]
      intro e
      exact hvb (lim_nil_iff.1 (List.length_eq_zero_iff.1 (by omega)))
    have hrb1 : decide ((0 : Int) < ((repr ((val lb : Nat) : Rat)).num.length : Int)) = true := by
      rw [decide_eq_true_eq]
      have : (lim (val lb)).length ≠ 0 := fun e => hvb (lim_nil_iff.1 (List.length_eq_zero_iff.1 e))
      rw [HEN.out]
      omega
    have hrb2 : decide (0 < (repr ((val lb : Nat) : Rat)).num.length) = true := by
      rw [decide_eq_true_eq]
      have : (lim (val lb)).length ≠ 0 := fun e => hvb (lim_nil_iff.1 (List.length_eq_zero_iff.1 e))
      rw [HEN.out]
      omega
    have HQL := Aside0.mk (lim_of_le HLA.out.1 HLA.out.2 (Nat.div_le_self (val la) (val lb)))
    have HRL := Aside0.mk (lim_of_le HLA.out.1 HLA.out.2 (Nat.mod_le (val la) (val lb)))
    obtain ⟨X, hX⟩ : ∃ X, X = val la / val lb * val lb := ⟨_, rfl⟩
    obtain ⟨Y, hY⟩ : ∃ Y, Y = val la % val lb := ⟨_, rfl⟩
    have HX := Aside0.mk hX
    have HY := Aside0.mk hY
    clear hX hY
    rw [← HY.out] at HRL
    have HML := Aside0.mk (lim_of_le HLA.out.1 HLA.out.2 (Nat.div_mul_le_self (val la) (val lb)))
    rw [← HX.out] at HML
    have HLT := Aside0.mk (sgn_lt (Nat.mod_lt (val la) (Nat.pos_of_ne_zero hvb)))
    have HBK := Aside0.mk (nat_back (val la) (val lb))
    rw [← HX.out, ← HY.out] at HBK
    rw [← HY.out] at HLT
    clear hvb
    clear bxa0 bxa1 bxa2
    obtain ⟨bxa0, bxa1, bxa2⟩ := box3 HXxa5.out
    obtain ⟨bxb0, bxb1, bxb2⟩ := box3 HXxb5.out
    go_wp2_with fail
    have hx := ndm_N Aa Ab ca cb la lb _ Ha5.out Hb5.out HLA6.out HLB6.out HVB.out
    rw [← HY.out] at hx
    refine (hx).mono ?_
    rintro e w6 ⟨A3_0, c3_0, A3_1, c3_1, rfl, h0, h1, hb⟩
    have HN0 := Aside0.mk h0
    have HN1 := Aside0.mk h1
    clear h0 h1
    have HB6 := Aside0.mk (HB5.out.trans (hb.mono HB5.out.size))
    have Ha6 := Aside0.mk (natK.K_below hb Ha5.out)
    have Hb6 := Aside0.mk (natK.K_below hb Hb5.out)
    have Hwa6 := Aside0.mk (ratK.K_below hb Hwa5.out)
    have Hwb6 := Aside0.mk (ratK.K_below hb Hwb5.out)
    have HXxa6 := Aside0.mk (HXxa5.out.below hb HXxa5.out.lt)
    have HXxb6 := Aside0.mk (HXxb5.out.below hb HXxb5.out.lt)
    clear hb HB5 Ha5 Hb5 Hwa5 Hwb5 HXxa5 HXxb5
    have Hq6 := HN0
    clear HN0
    have Hr6 := HN1
    clear HN1
    clear bxa0 bxa1 bxa2 bxb0 bxb1 bxb2
    obtain ⟨bxa0, bxa1, bxa2⟩ := box3 HXxa6.out
    obtain ⟨bxb0, bxb1, bxb2⟩ := box3 HXxb6.out
    go_wp2_with fail
    have hx := nmul_N A3_0 Ab c3_0 cb (lim (val la / val lb)) lb _ Hq6.out Hb6.out ⟨limbs_lim _, by have := HQL.out; omega⟩ HLB6.out
    rw [val_lim, ← HX.out] at hx
    refine (hx).mono ?_
    rintro e w7 ⟨A4_0, c4_0, rfl, h0, hb⟩
    have HN0 := Aside0.mk h0
    clear h0
    have HB7 := Aside0.mk (HB6.out.trans (hb.mono HB6.out.size))
    have Ha7 := Aside0.mk (natK.K_below hb Ha6.out)
    have Hb7 := Aside0.mk (natK.K_below hb Hb6.out)
    have Hwa7 := Aside0.mk (ratK.K_below hb Hwa6.out)
    have Hwb7 := Aside0.mk (ratK.K_below hb Hwb6.out)
    have Hq7 := Aside0.mk (natK.K_below hb Hq6.out)
    have Hr7 := Aside0.mk (natK.K_below hb Hr6.out)
    have HXxa7 := Aside0.mk (HXxa6.out.below hb HXxa6.out.lt)
    have HXxb7 := Aside0.mk (HXxb6.out.below hb HXxb6.out.lt)
    clear hb HB6 Ha6 Hb6 Hwa6 Hwb6 Hq6 Hr6 HXxa6 HXxb6
    have Hm7 := HN0
    clear HN0
    clear bxa0 bxa1 bxa2 bxb0 bxb1 bxb2
    obtain ⟨bxa0, bxa1, bxa2⟩ := box3 HXxa7.out
    obtain ⟨bxb0, bxb1, bxb2⟩ := box3 HXxb7.out
    go_wp2_with fail
    refine (whole_N A4_0 c4_0 _ _ Hm7.out (by have := HML.out; omega)).mono ?_
    rintro e w8 ⟨A5_, c5_, B5_, d5_, rfl, hM, hb⟩
    have HN0 := Aside0.mk (ratK.K_of_M hM)
    clear hM
    have HB8 := Aside0.mk (HB7.out.trans (hb.mono HB7.out.size))
    have Ha8 := Aside0.mk (natK.K_below hb Ha7.out)
    have Hb8 := Aside0.mk (natK.K_below hb Hb7.out)
    have Hwa8 := Aside0.mk (ratK.K_below hb Hwa7.out)
    have Hwb8 := Aside0.mk (ratK.K_below hb Hwb7.out)
    have Hq8 := Aside0.mk (natK.K_below hb Hq7.out)
    have Hr8 := Aside0.mk (natK.K_below hb Hr7.out)
    have Hm8 := Aside0.mk (natK.K_below hb Hm7.out)
    have HXxa8 := Aside0.mk (HXxa7.out.below hb HXxa7.out.lt)
    have HXxb8 := Aside0.mk (HXxb7.out.below hb HXxb7.out.lt)
    clear hb HB7 Ha7 Hb7 Hwa7 Hwb7 Hq7 Hr7 Hm7 HXxa7 HXxb7
    have Hwm8 := HN0
    clear HN0
    clear bxa0 bxa1 bxa2 bxb0 bxb1 bxb2
    obtain ⟨bxa0, bxa1, bxa2⟩ := box3 HXxa8.out
    obtain ⟨bxb0, bxb1, bxb2⟩ := box3 HXxb8.out
    go_wp2_with fail
    refine (whole_N A3_1 c3_1 _ _ Hr8.out (by have := HRL.out; omega)).mono ?_
    rintro e w9 ⟨A6_, c6_, B6_, d6_, rfl, hM, hb⟩
    have HN0 := Aside0.mk (ratK.K_of_M hM)
    clear hM
    have HB9 := Aside0.mk (HB8.out.trans (hb.mono HB8.out.size))
    have Ha9 := Aside0.mk (natK.K_below hb Ha8.out)
    have Hb9 := Aside0.mk (natK.K_below hb Hb8.out)
    have Hwa9 := Aside0.mk (ratK.K_below hb Hwa8.out)
    have Hwb9 := Aside0.mk (ratK.K_below hb Hwb8.out)
    have Hq9 := Aside0.mk (natK.K_below hb Hq8.out)
    have Hr9 := Aside0.mk (natK.K_below hb Hr8.out)
    have Hm9 := Aside0.mk (natK.K_below hb Hm8.out)
    have Hwm9 := Aside0.mk (ratK.K_below hb Hwm8.out)
    have HXxa9 := Aside0.mk (HXxa8.out.below hb HXxa8.out.lt)
    have HXxb9 := Aside0.mk (HXxb8.out.below hb HXxb8.out.lt)
    clear hb HB8 Ha8 Hb8 Hwa8 Hwb8 Hq8 Hr8 Hm8 Hwm8 HXxa8 HXxb8
    have Hwr9 := HN0
    clear HN0
    clear bxa0 bxa1 bxa2 bxb0 bxb1 bxb2
    obtain ⟨bxa0, bxa1, bxa2⟩ := box3 HXxa9.out
    obtain ⟨bxb0, bxb1, bxb2⟩ := box3 HXxb9.out
    go_wp2_with fail
    have hx := sAdd_Q ((X : Nat) : Rat) ((Y : Nat) : Rat) _ Hwm9.out Hwr9.out (by have := repr_nat_size HML.out; have := repr_nat_size HRL.out; omega)
    rw [HBK.out] at hx
    refine (hx).mono ?_
    rintro e w10 ⟨A7_, c7_, B7_, d7_, rfl, hM, hb⟩
    have HN0 := Aside0.mk (ratK.K_of_M hM)
    clear hM
    have HB10 := Aside0.mk (HB9.out.trans (hb.mono HB9.out.size))
    have Ha10 := Aside0.mk (natK.K_below hb Ha9.out)
    have Hb10 := Aside0.mk (natK.K_below hb Hb9.out)
    have Hwa10 := Aside0.mk (ratK.K_below hb Hwa9.out)
    have Hwb10 := Aside0.mk (ratK.K_below hb Hwb9.out)
    have Hq10 := Aside0.mk (natK.K_below hb Hq9.out)
    have Hr10 := Aside0.mk (natK.K_below hb Hr9.out)
    have Hm10 := Aside0.mk (natK.K_below hb Hm9.out)
    have Hwm10 := Aside0.mk (ratK.K_below hb Hwm9.out)
    have Hwr10 := Aside0.mk (ratK.K_below hb Hwr9.out)
    have HXxa10 := Aside0.mk (HXxa9.out.below hb HXxa9.out.lt)
    have HXxb10 := Aside0.mk (HXxb9.out.below hb HXxb9.out.lt)
    clear hb HB9 Ha9 Hb9 Hwa9 Hwb9 Hq9 Hr9 Hm9 Hwm9 Hwr9 HXxa9 HXxb9
    have Hbk10 := HN0
    clear HN0
    clear Hwm10
    clear Hwr10
    clear Hq10
    clear Hm10
    clear bxa0 bxa1 bxa2 bxb0 bxb1 bxb2
    obtain ⟨bxa0, bxa1, bxa2⟩ := box3 HXxa10.out
    obtain ⟨bxb0, bxb1, bxb2⟩ := box3 HXxb10.out
    go_upto_region 11 with fail
    have hb := below_alloc (Below.refl w10.heap.size w10) (.cells #[.bool (repr ((val la : Nat) : Rat)).neg, .slice A7_ (repr ((val la : Nat) : Rat)).num.length c7_, .slice B7_ (repr ((val la : Nat) : Rat)).den.length d7_] 34)
    have hk := Blk.new w10 34 #[.bool (repr ((val la : Nat) : Rat)).neg, .slice A7_ (repr ((val la : Nat) : Rat)).num.length c7_, .slice B7_ (repr ((val la : Nat) : Rat)).den.length d7_]
    generalize w10.alloc (.cells #[.bool (repr ((val la : Nat) : Rat)).neg, .slice A7_ (repr ((val la : Nat) : Rat)).num.length c7_, .slice B7_ (repr ((val la : Nat) : Rat)).den.length d7_] 34) = w11 at hb hk ⊢
    have HNB := Aside0.mk hk
    clear hk
    have HB11 := Aside0.mk (HB10.out.trans (hb.mono HB10.out.size))
    have Ha11 := Aside0.mk (natK.K_below hb Ha10.out)
    have Hb11 := Aside0.mk (natK.K_below hb Hb10.out)
    have Hwa11 := Aside0.mk (ratK.K_below hb Hwa10.out)
    have Hwb11 := Aside0.mk (ratK.K_below hb Hwb10.out)
    have Hr11 := Aside0.mk (natK.K_below hb Hr10.out)
    have Hbk11 := Aside0.mk (ratK.K_below hb Hbk10.out)
    have HXxa11 := Aside0.mk (HXxa10.out.below hb HXxa10.out.lt)
    have HXxb11 := Aside0.mk (HXxb10.out.below hb HXxb10.out.lt)
    clear hb HB10 Ha10 Hb10 Hwa10 Hwb10 Hr10 Hbk10 HXxa10 HXxb10
    have HXxk11 := HNB
    clear HNB
    have HRS := Aside0.mk (repr_nat_size HRL.out)
    clear bxa0 bxa1 bxa2 bxb0 bxb1 bxb2
    obtain ⟨bxa0, bxa1, bxa2⟩ := box3 HXxa11.out
    obtain ⟨bxb0, bxb1, bxb2⟩ := box3 HXxb11.out
    obtain ⟨bxk0, bxk1, bxk2⟩ := box3 HXxk11.out
    go_wp2_with fail
    have hBW := Below.refl w11.heap.size w11
    have H6 : Aside0 (∀ w', Below w11.heap.size w11 w' → Below w11.heap.size w11 w' ∧ w'.cell? ⟨w2.heap.size, 0, none⟩ = some (.bool (repr ((val la : Nat) : Rat)).neg) ∧ w'.cell? ⟨w2.heap.size, 1, none⟩ = some (.slice A1_ (repr ((val la : Nat) : Rat)).num.length c1_) ∧ w'.cell? ⟨w2.heap.size, 2, none⟩ = some (.slice B1_ (repr ((val la : Nat) : Rat)).den.length d1_) ∧ w'.cell? ⟨w4.heap.size, 0, none⟩ = some (.bool (repr ((val lb : Nat) : Rat)).neg) ∧ w'.cell? ⟨w4.heap.size, 1, none⟩ = some (.slice A2_ (repr ((val lb : Nat) : Rat)).num.length c2_) ∧ w'.cell? ⟨w4.heap.size, 2, none⟩ = some (.slice B2_ (repr ((val lb : Nat) : Rat)).den.length d2_) ∧ w'.cell? ⟨w10.heap.size, 0, none⟩ = some (.bool (repr ((val la : Nat) : Rat)).neg) ∧ w'.cell? ⟨w10.heap.size, 1, none⟩ = some (.slice A7_ (repr ((val la : Nat) : Rat)).num.length c7_) ∧ w'.cell? ⟨w10.heap.size, 2, none⟩ = some (.slice B7_ (repr ((val la : Nat) : Rat)).den.length d7_)) := ⟨fun w' h => ⟨h, pw_cell_below h bxa0, pw_cell_below h bxa1, pw_cell_below h bxa2, pw_cell_below h bxb0, pw_cell_below h bxb1, pw_cell_below h bxb2, pw_cell_below h bxk0, pw_cell_below h bxk1, pw_cell_below h bxk2⟩⟩
    have HWa : Aside0 (∀ w', Below w11.heap.size w11 w' → natK.K w' la _) := ⟨fun w' h => natK.K_below h Ha11.out⟩
    have HWb : Aside0 (∀ w', Below w11.heap.size w11 w' → natK.K w' lb _) := ⟨fun w' h => natK.K_below h Hb11.out⟩
    have HWwa : Aside0 (∀ w', Below w11.heap.size w11 w' → ratK.K w' (repr ((val la : Nat) : Rat)) [.bool (repr ((val la : Nat) : Rat)).neg, .slice A1_ (repr ((val la : Nat) : Rat)).num.length c1_, .slice B1_ (repr ((val la : Nat) : Rat)).den.length d1_]) := ⟨fun w' h => ratK.K_below h Hwa11.out⟩
    have HWwb : Aside0 (∀ w', Below w11.heap.size w11 w' → ratK.K w' (repr ((val lb : Nat) : Rat)) [.bool (repr ((val lb : Nat) : Rat)).neg, .slice A2_ (repr ((val lb : Nat) : Rat)).num.length c2_, .slice B2_ (repr ((val lb : Nat) : Rat)).den.length d2_]) := ⟨fun w' h => ratK.K_below h Hwb11.out⟩
    have HWr : Aside0 (∀ w', Below w11.heap.size w11 w' → natK.K w' (lim Y) _) := ⟨fun w' h => natK.K_below h Hr11.out⟩
    have HWbk : Aside0 (∀ w', Below w11.heap.size w11 w' → ratK.K w' (repr ((val la : Nat) : Rat)) [.bool (repr ((val la : Nat) : Rat)).neg, .slice A7_ (repr ((val la : Nat) : Rat)).num.length c7_, .slice B7_ (repr ((val la : Nat) : Rat)).den.length d7_]) := ⟨fun w' h => ratK.K_below h Hbk11.out⟩
    go_region_held3 (fun w' => Below w11.heap.size w11 w' ∧ w'.cell? ⟨w2.heap.size, 0, none⟩ = some (.bool (repr ((val la : Nat) : Rat)).neg) ∧ w'.cell? ⟨w2.heap.size, 1, none⟩ = some (.slice A1_ (repr ((val la : Nat) : Rat)).num.length c1_) ∧ w'.cell? ⟨w2.heap.size, 2, none⟩ = some (.slice B1_ (repr ((val la : Nat) : Rat)).den.length d1_) ∧ w'.cell? ⟨w4.heap.size, 0, none⟩ = some (.bool (repr ((val lb : Nat) : Rat)).neg) ∧ w'.cell? ⟨w4.heap.size, 1, none⟩ = some (.slice A2_ (repr ((val lb : Nat) : Rat)).num.length c2_) ∧ w'.cell? ⟨w4.heap.size, 2, none⟩ = some (.slice B2_ (repr ((val lb : Nat) : Rat)).den.length d2_) ∧ w'.cell? ⟨w10.heap.size, 0, none⟩ = some (.bool (repr ((val la : Nat) : Rat)).neg) ∧ w'.cell? ⟨w10.heap.size, 1, none⟩ = some (.slice A7_ (repr ((val la : Nat) : Rat)).num.length c7_) ∧ w'.cell? ⟨w10.heap.size, 2, none⟩ = some (.slice B7_ (repr ((val la : Nat) : Rat)).den.length d7_))
      ((refine H6.out _ ?_; first | assumption | exact below_drew hBW))
      (first | (go_at_call 43; (with_reducible refine (same_K (repr ((val la : Nat) : Rat)) _ (HWbk.out _ ?_) (HWwa.out _ ?_)).mono ?_); ((apply And.left; assumption)); ((apply And.left; assumption)); rintro e wp ⟨rfl, hbp⟩; have hBp : Below w11.heap.size w11 wp := (by (apply heldB; assumption; assumption))) | (go_at_call 41; (with_reducible refine (whole_N A3_1 c3_1 Y _ (HWr.out _ ?_) (by have := HRL.out; omega)).mono ?_); ((apply And.left; assumption)); rintro e wq ⟨Ay, cy, By, dy, rfl, hMy, hbq⟩; have hBq : Below w11.heap.size w11 wq := (by (apply heldB; assumption; assumption))) | (go_at_call 38; (with_reducible refine (sCmp_Q ((Y : Nat) : Rat) ((val lb : Nat) : Rat) (-1) _ (ratK.K_of_M hMy) (HWwb.out _ ?_) (by have := HRS.out; have := HSB.out; omega) HLT.out).mono ?_); ((apply And.left; assumption)); rintro e wz ⟨rfl, hbz⟩; have hBz : Below w11.heap.size w11 wz := (by (apply heldB; assumption; assumption))))
    all_goals
      obtain ⟨w12, hww⟩ : ∃ v, v = wz := ⟨_, rfl⟩
      rw [← hww] at hBz ⊢
      clear hww
      have hb := hBz
      clear hBz
    all_goals (clear hBp hBq hbp hbq hbz hMy H6 hBW HWbk HWwa HWwb HWa HWb HWr)
    have HB12 := Aside0.mk (HB11.out.trans (hb.mono HB11.out.size))
    have Ha12 := Aside0.mk (natK.K_below hb Ha11.out)
    have Hb12 := Aside0.mk (natK.K_below hb Hb11.out)
    have Hwa12 := Aside0.mk (ratK.K_below hb Hwa11.out)
    have Hwb12 := Aside0.mk (ratK.K_below hb Hwb11.out)
    have Hr12 := Aside0.mk (natK.K_below hb Hr11.out)
    have Hbk12 := Aside0.mk (ratK.K_below hb Hbk11.out)
    have HXxa12 := Aside0.mk (HXxa11.out.below hb HXxa11.out.lt)
    have HXxb12 := Aside0.mk (HXxb11.out.below hb HXxb11.out.lt)
    have HXxk12 := Aside0.mk (HXxk11.out.below hb HXxk11.out.lt)
    clear hb HB11 Ha11 Hb11 Hwa11 Hwb11 Hr11 Hbk11 HXxa11 HXxb11 HXxk11
    clear Hbk12
    clear Hr12
    clear HXxk12
    have HGP := Aside0.mk (show 0 < Nat.gcd (val la) (val lb) from Nat.gcd_pos_of_pos_right _ (Nat.pos_of_ne_zero HVB.out))
    have hca : (((repr ((val la : Nat) : Rat)).num.length : Int) == 0) = true ∨ (((repr ((val la : Nat) : Rat)).num.length : Int) == 0) = false := by
      cases (((repr ((val la : Nat) : Rat)).num.length : Int) == 0)
      · right; rfl
      · left; rfl
    rcases hca with hra0 | hra0
    all_goals
      obtain ⟨G, hG⟩ : ∃ G, G = Nat.gcd (val la) (val lb) := ⟨_, rfl⟩
      have hGp : 0 < G := by rw [hG]; exact HGP.out
      have hGa : G ∣ val la := by rw [hG]; exact Nat.gcd_dvd_left _ _
      have hGb : G ∣ val lb := by rw [hG]; exact Nat.gcd_dvd_right _ _
      have hco : Nat.gcd (val la / G) (val lb / G) = 1 := by rw [hG, Nat.gcd_div (Nat.gcd_dvd_left _ _) (Nat.gcd_dvd_right _ _)]; exact Nat.div_self HGP.out
      have HG := Aside0.mk hG
      have HGN := Aside0.mk (show G ≠ 0 by omega)
      have HMA := Aside0.mk (Nat.mod_eq_zero_of_dvd hGa)
      have HMB := Aside0.mk (Nat.mod_eq_zero_of_dvd hGb)
      have HCO := Aside0.mk hco
      have HGL : Aside0 (Limbs (lim G) ∧ (lim G).length ≤ 60) := ⟨limbs_lim _, by rw [hG]; exact gcd_len HLA.out HLB.out⟩
      have hgl : (((lim G).length : Int) == 0) = false := by
        rw [beq_eq_false_iff_ne]
        intro e
        exact HGN.out (lim_nil_iff.1 (List.length_eq_zero_iff.1 (by omega)))
      clear hG hGp hGa hGb hco
      obtain ⟨bxa0, bxa1, bxa2⟩ := box3 HXxa12.out
      obtain ⟨bxb0, bxb1, bxb2⟩ := box3 HXxb12.out
      go_wp2_with fail
      have hx := ngcd_N Aa Ab ca cb la lb _ Ha12.out Hb12.out HLA6.out HLB6.out
      rw [← HG.out] at hx
      refine (hx).mono ?_
      rintro e w13 ⟨A8_0, c8_0, rfl, h0, hb⟩
      have HN0 := Aside0.mk h0
      clear h0
      have HB13 := Aside0.mk (HB12.out.trans (hb.mono HB12.out.size))
      have Ha13 := Aside0.mk (natK.K_below hb Ha12.out)
      have Hb13 := Aside0.mk (natK.K_below hb Hb12.out)
      have Hwa13 := Aside0.mk (ratK.K_below hb Hwa12.out)
      have Hwb13 := Aside0.mk (ratK.K_below hb Hwb12.out)
      have HXxa13 := Aside0.mk (HXxa12.out.below hb HXxa12.out.lt)
      have HXxb13 := Aside0.mk (HXxb12.out.below hb HXxb12.out.lt)
      clear hb HB12 Ha12 Hb12 Hwa12 Hwb12 HXxa12 HXxb12
      have Hg13 := HN0
      clear HN0
      clear bxa0 bxa1 bxa2 bxb0 bxb1 bxb2
      obtain ⟨bxa0, bxa1, bxa2⟩ := box3 HXxa13.out
      obtain ⟨bxb0, bxb1, bxb2⟩ := box3 HXxb13.out
      go_wp2_with fail
      have hx := ndm_N Aa A8_0 ca c8_0 la (lim G) _ Ha13.out Hg13.out HLA6.out HGL.out (by rw [val_lim]; exact HGN.out)
      rw [val_lim, HMA.out] at hx
      refine (hx).mono ?_
      rintro e w14 ⟨A9_0, c9_0, A9_1, c9_1, rfl, h0, h1, hb⟩
      have HN0 := Aside0.mk h0
      have HN1 := Aside0.mk h1
      clear h0 h1
      have HB14 := Aside0.mk (HB13.out.trans (hb.mono HB13.out.size))
      have Ha14 := Aside0.mk (natK.K_below hb Ha13.out)
      have Hb14 := Aside0.mk (natK.K_below hb Hb13.out)
      have Hwa14 := Aside0.mk (ratK.K_below hb Hwa13.out)
      have Hwb14 := Aside0.mk (ratK.K_below hb Hwb13.out)
      have Hg14 := Aside0.mk (natK.K_below hb Hg13.out)
      have HXxa14 := Aside0.mk (HXxa13.out.below hb HXxa13.out.lt)
      have HXxb14 := Aside0.mk (HXxb13.out.below hb HXxb13.out.lt)
      clear hb HB13 Ha13 Hb13 Hwa13 Hwb13 Hg13 HXxa13 HXxb13
      have Hp14 := HN0
      clear HN0
      have Hu14 := HN1
      clear HN1
      clear bxa0 bxa1 bxa2 bxb0 bxb1 bxb2
      obtain ⟨bxa0, bxa1, bxa2⟩ := box3 HXxa14.out
      obtain ⟨bxb0, bxb1, bxb2⟩ := box3 HXxb14.out
      go_wp2_with fail
      have hx := ndm_N Ab A8_0 cb c8_0 lb (lim G) _ Hb14.out Hg14.out HLB6.out HGL.out (by rw [val_lim]; exact HGN.out)
      rw [val_lim, HMB.out] at hx
      refine (hx).mono ?_
      rintro e w15 ⟨A10_0, c10_0, A10_1, c10_1, rfl, h0, h1, hb⟩
      have HN0 := Aside0.mk h0
      have HN1 := Aside0.mk h1
      clear h0 h1
      have HB15 := Aside0.mk (HB14.out.trans (hb.mono HB14.out.size))
      have Ha15 := Aside0.mk (natK.K_below hb Ha14.out)
      have Hb15 := Aside0.mk (natK.K_below hb Hb14.out)
      have Hwa15 := Aside0.mk (ratK.K_below hb Hwa14.out)
      have Hwb15 := Aside0.mk (ratK.K_below hb Hwb14.out)
      have Hg15 := Aside0.mk (natK.K_below hb Hg14.out)
      have Hp15 := Aside0.mk (natK.K_below hb Hp14.out)
      have Hu15 := Aside0.mk (natK.K_below hb Hu14.out)
      have HXxa15 := Aside0.mk (HXxa14.out.below hb HXxa14.out.lt)
      have HXxb15 := Aside0.mk (HXxb14.out.below hb HXxb14.out.lt)
      clear hb HB14 Ha14 Hb14 Hwa14 Hwb14 Hg14 Hp14 Hu14 HXxa14 HXxb14
      have Hs15 := HN0
      clear HN0
      have Hv15 := HN1
      clear HN1
      clear bxa0 bxa1 bxa2 bxb0 bxb1 bxb2
      obtain ⟨bxa0, bxa1, bxa2⟩ := box3 HXxa15.out
      obtain ⟨bxb0, bxb1, bxb2⟩ := box3 HXxb15.out
      go_wp2_with fail
      have hx := ngcd_N A9_0 A10_0 c9_0 c10_0 (lim (val la / G)) (lim (val lb / G)) _ Hp15.out Hs15.out ⟨limbs_lim _, Nat.le_trans (lim_of_le HLA.out.1 HLA.out.2 (Nat.div_le_self _ _)) (by omega)⟩ ⟨limbs_lim _, Nat.le_trans (lim_of_le HLB.out.1 HLB.out.2 (Nat.div_le_self _ _)) (by omega)⟩
      rw [val_lim, val_lim, HCO.out] at hx
      refine (hx).mono ?_
      rintro e w16 ⟨A11_0, c11_0, rfl, h0, hb⟩
      have HN0 := Aside0.mk h0
      clear h0
      have HB16 := Aside0.mk (HB15.out.trans (hb.mono HB15.out.size))
      have Ha16 := Aside0.mk (natK.K_below hb Ha15.out)
      have Hb16 := Aside0.mk (natK.K_below hb Hb15.out)
      have Hwa16 := Aside0.mk (ratK.K_below hb Hwa15.out)
      have Hwb16 := Aside0.mk (ratK.K_below hb Hwb15.out)
      have Hg16 := Aside0.mk (natK.K_below hb Hg15.out)
      have Hp16 := Aside0.mk (natK.K_below hb Hp15.out)
      have Hu16 := Aside0.mk (natK.K_below hb Hu15.out)
      have Hs16 := Aside0.mk (natK.K_below hb Hs15.out)
      have Hv16 := Aside0.mk (natK.K_below hb Hv15.out)
      have HXxa16 := Aside0.mk (HXxa15.out.below hb HXxa15.out.lt)
      have HXxb16 := Aside0.mk (HXxb15.out.below hb HXxb15.out.lt)
      clear hb HB15 Ha15 Hb15 Hwa15 Hwb15 Hg15 Hp15 Hu15 Hs15 Hv15 HXxa15 HXxb15
      have Ho16 := HN0
      clear HN0
      have z0 : (lim 0).length = 0 := by rw [lim_zero]; rfl
      have z1 : (lim 1).length = 1 := by rw [lim_pos (by omega)]; simp [lim_zero]
      have HO := natK_read Ho16.out
      obtain ⟨ad, eA, hx⟩ := Kd.at_int HO 0 (by omega) (by omega)
      subst eA
      have hx' : w16.cell? ad = some (.int .u32 1) := by
        have e : rd (lim 1) 0 = 1 := by rw [lim_pos (by omega)]; rfl
        rw [e] at hx
        simpa [Addr.add] using hx
      clear hx HO
      clear bxa0 bxa1 bxa2 bxb0 bxb1 bxb2
      obtain ⟨bxa0, bxa1, bxa2⟩ := box3 HXxa16.out
      obtain ⟨bxb0, bxb1, bxb2⟩ := box3 HXxb16.out
      go_wp2
      go_ret
      exact ⟨rfl, HB16.out⟩
theorem law_divides (l : List Int) (A : Option Addr) (c : Nat) (w : World) (hr : (Kd.int .u8).C w A l.length l) (hl : Bytes l) : Calls Try.prog 12 #[.slice A l.length c] w fun e w' => e = .returned (.bool true) ∧ Below w.heap.size w w' := lawDivides A c l w hr hl
end Go.Proofs.Ytjmgemmieedkiaa.Hand
