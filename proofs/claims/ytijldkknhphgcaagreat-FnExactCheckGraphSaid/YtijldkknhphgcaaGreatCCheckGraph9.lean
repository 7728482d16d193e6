/- Texts of one proof, one behind the other: each tells what it proves. -/
import Derived.Test.YtijldkknhphgcaaGreatCCheckGraph8
import Derived.Test.YtijldkknhphgcaaGreatCCheckGraph4

section
/- Division as a whole, the greatest common divisor, and the exported functions on naturals. The conditions stand with each part. -/
set_option linter.unusedVariables false
set_option linter.unusedSimpArgs false
namespace Go.Proofs.YtijldkknhphgcaaGreat.Hand
open Go.RowKit Go.Proofs.YtijldkknhphgcaaGreatW.PrintWords Go.Proofs.YtijldkknhphgcaaGreatW.PrintLast Go.Proofs.YtijldkknhphgcaaGreatW.PrintMore
theorem div_calls (A A':Option Addr) (c c':Nat) (l l':List Int) (w:World) (hr:(Kd.int .u32).C w A l.length l) (hr':(Kd.int .u32).C w A' l'.length l') (hl:Limbs l) (hl':Limbs l') (hp:Plain l) (hp':Plain l') (hne:l' ≠ []) (hn:l.length ≤ 1099511627776) :
  Calls Tryz.prog 136 #[.slice A l.length c,.slice A' l'.length c'] w (DivPost w.heap.size w (lim (val l / val l')) (lim (val l % val l'))):=by
 by_cases hs:l.length ≤ 2 ∧ l'.length ≤ 2
 ·exact div_small A A' c c' l l' w hr hr' hl hl' hp' hne hs.1 hs.2
 rcases Nat.lt_or_ge (val l) (val l') with hlt | hge
 ·exact div_less A A' c c' l l' w hr hr' hl hl' hp hp' hs hlt hn
 have hlen:=length_le_of_val hl hl' hp' hge
 rcases Nat.lt_or_ge l'.length 2 with h2 | h2
 ·obtain ⟨d,rfl⟩:∃ d,l' = [d]:=by
   match l',hne,h2 with
   | [d],_,_=>exact ⟨d,rfl⟩
  exact div_one A A' c c' l d w hr hr' hl hl' hp hp' (by simp at hs;omega) hn
 ·rcases div_guard hs with ⟨e1,e2⟩ | e1
  ·exact div_big1 A A' c c' l l' w hr hr' hl hl' hp hp' e1 e2 hge h2 hn
  ·exact div_big2 A A' c c' l l' w hr hr' hl hl' hp hp' e1 hge h2 hn
theorem gcd_step (a b:Nat) (hb:0 < b):Nat.gcd b (a % b) = Nat.gcd a b:=by
 rw [Nat.gcd_comm,← Nat.gcd_rec,Nat.gcd_comm]
theorem gcd_calls (A A':Option Addr) (c c':Nat) (l l':List Int) (w:World) (hr:(Kd.int .u32).C w A l.length l) (hr':(Kd.int .u32).C w A' l'.length l') (hl:Limbs l) (hl':Limbs l') (hp:Plain l) (hp':Plain l') (hn:l.length ≤ 1099511627776) (hn':l'.length ≤ 1099511627776) :
  Calls Tryz.prog 107 #[.slice A l.length c,.slice A' l'.length c'] w fun e w'=>∃ v,e = .returned v ∧ (Kd.int .u32).R 134 w' w.heap.size (fun _=>True) v (lim (Nat.gcd (val l) (val l'))) ∧ Below w.heap.size w w':=by
 have HR:=Aside0.mk hr
 have HR':=Aside0.mk hr'
 have HL:=Aside0.mk hl
 have HL':=Aside0.mk hl'
 have HP:=Aside0.mk hp
 have HP':=Aside0.mk hp'
 have HN:=Aside0.mk hn
 have HN':=Aside0.mk hn'
 clear hr hr' hl hl' hp hp' hn hn'
 go_enter Tryz.func107,Tryz.ntmps107
 go_wp2
 go_loopg [0,1] (val l') (fun gn v0 v1 wc=>∃ (B B':Option Addr) (d d':Nat) (x y:List Int),v0 = .slice B x.length d ∧ v1 = .slice B' y.length d' ∧ Aside0 (gn = val y) ∧ Aside0 ((Kd.int .u32).C wc B x.length x) ∧ Aside0 ((Kd.int .u32).C wc B' y.length y) ∧ Aside0 (Limbs x ∧ Plain x) ∧ Aside0 (Limbs y ∧ Plain y) ∧ Aside0 (Nat.gcd (val x) (val y) = Nat.gcd (val l) (val l')) ∧ Aside0 (x.length ≤ 1099511627776 ∧ y.length ≤ 1099511627776) ∧ Aside0 (Below w.heap.size w wc))
 case atStart=>exact ⟨A,A',c,c',l,l',rfl,rfl,⟨rfl⟩,HR,HR',⟨HL.out,HP.out⟩,⟨HL'.out,HP'.out⟩,⟨rfl⟩,⟨HN.out,HN'.out⟩,⟨Below.refl _ _⟩⟩
 case round =>
  clear HR HR' HL HL' HP HP' HN HN'
  obtain ⟨B,B',d,d',x,y,rfl,rfl,HM,HX,HY,HLX,HLY,HG,HN,HB⟩:=hrel
  have hxn:=HN.out.1
  have hyn:=HN.out.2
  rcases Nat.eq_zero_or_pos y.length with hy0 | hy0
  ·have hg:Nat.gcd (val l) (val l') = val x:=by
    rw [← HG.out,List.length_eq_zero_iff.mp hy0]
    exact Nat.gcd_zero_right _
   go_wp2_with fail
   refine (copy_calls _ _ _ _ HX.out (by omega)).mono ?_
   rintro e w1 ⟨v,rfl,ho,hb⟩
   have HO:=Aside0.mk (Kd.R_lower ho HB.out.size)
   have HB1:=Aside0.mk (HB.out.trans (hb.mono HB.out.size))
   clear ho hb
   go_wp2
   go_ret
   exact ⟨_,rfl,by rw [hg,lim_val HLX.out.1 HLX.out.2];exact HO.out,HB1.out⟩
  ·go_wp2_with fail
   refine (small_at _ _ _ _ HX.out HLX.out.1).mono ?_
   rintro e w1 ⟨rfl,hd⟩
   have HB1:=Aside0.mk (HB.out.trans (hd.below.mono HB.out.size))
   have HY1:=Aside0.mk (Kd.C_below HY.out hd.below)
   have HX1:=Aside0.mk (Kd.C_below HX.out hd.below)
   clear hd
   go_wp2_with fail
   refine (small_at _ _ _ _ HY1.out HLY.out.1).mono ?_
   rintro e w2 ⟨rfl,hd⟩
   have HB2:=Aside0.mk (HB1.out.trans (hd.below.mono HB1.out.size))
   have HY2:=Aside0.mk (Kd.C_below HY1.out hd.below)
   have HX2:=Aside0.mk (Kd.C_below HX1.out hd.below)
   clear hd HX HY HX1 HY1 HB HB1
   by_cases hs:x.length ≤ 2 ∧ y.length ≤ 2
   ·have e1:decide (x.length ≤ 2) = true:=decide_eq_true hs.1
    have e2:decide (y.length ≤ 2) = true:=decide_eq_true hs.2
    have b1:val x < 18446744073709551616:=by
     have:=val_lt HLX.out.1
     have h3:4294967296 ^ x.length ≤ 4294967296 ^ 2:=Nat.pow_le_pow_right (by omega) hs.1
     omega
    have b2:val y < 18446744073709551616:=by
     have:=val_lt HLY.out.1
     have h3:4294967296 ^ y.length ≤ 4294967296 ^ 2:=Nat.pow_le_pow_right (by omega) hs.2
     omega
    rw [show smallV x = (val x:Int) from if_pos hs.1,show smallV y = (val y:Int) from if_pos hs.2]
    have HBB:=Aside0.mk (And.intro b1 b2)
    clear b1 b2 hs
    go_wp2
    go_loopg [5,7] (val y) (fun gn v5 v7 wc=>∃ a b:Int,v5 = .int .u64 a ∧ v7 = .int .u64 b ∧ Aside0 (0 ≤ a ∧ a ≤ 18446744073709551615 ∧ 0 ≤ b ∧ b ≤ 18446744073709551615) ∧ Aside0 (b = (gn:Int) ∧ Nat.gcd a.toNat b.toNat = Nat.gcd (val l) (val l')) ∧ Aside0 (Below w.heap.size w wc))
    case atStart=>exact ⟨_,_,rfl,rfl,⟨by have:=HBB.out;omega⟩,⟨rfl,by rw [Int.toNat_natCast,Int.toNat_natCast];exact HG.out⟩,HB2⟩
    case round =>
     clear HB2 HX2 HY2
     obtain ⟨a,b,rfl,rfl,HAB,HGG,HB⟩:=hrel
     have hab:=HAB.out
     have ha0:=hab.1
     have ha1:=hab.2.1
     have hb0:=hab.2.2.1
     have hb1:=hab.2.2.2
     clear hab
     by_cases hb:0 < b
     ·have d1:decide (0 < b) = true:=decide_eq_true hb
      have hne:(b == 0) = false:=by rw [beq_eq_false_iff_ne];omega
      have hm0:0 ≤ a % b:=Int.emod_nonneg _ (by omega)
      have hm1:a % b < b:=Int.emod_lt_of_pos _ hb
      have hm2:Int.tmod a b = a % b:=Int.tmod_eq_emod_of_nonneg ha0
      have hm3:IntKind.u64.wrap (a % b) = a % b:=by rw [IntKind.wrap_u64];omega
      go_wp2
      go_region
      all_goals
       go_wp2
       go_roundg (a % b).toNat
       case measure=>have:=HGG.out;omega
       case rel =>
        refine ⟨_,_,rfl,rfl,⟨by omega⟩,⟨by omega,?_⟩,⟨below_drew HB.out⟩⟩
        rw [← HGG.out.2]
        have e:(a % b).toNat = a.toNat % b.toNat:=Int.toNat_emod ha0 hb0
        rw [e]
        exact gcd_step _ _ (by omega)
     ·have d1:decide (0 < b) = false:=decide_eq_false hb
      have hbe:b = 0:=by omega
      have hag:a.toNat = Nat.gcd (val l) (val l'):=by
       have:=HGG.out.2
       rw [hbe] at this
       simpa using this
      have HAG:=Aside0.mk hag
      clear hag hbe
      go_wp2_with fail
      refine (small_calls a ha0 (by omega) _).mono ?_
      rintro e w3 ⟨v,rfl,ho,hb⟩
      have HO:=Aside0.mk (Kd.R_lower ho HB.out.size)
      have HB1:=Aside0.mk (HB.out.trans (hb.mono HB.out.size))
      clear ho hb
      go_wp2
      go_ret
      exact ⟨_,rfl,by rw [← HAG.out,← small64_eq ha0 (by omega)];exact HO.out,HB1.out⟩
   ·have hyne:y ≠ []:=by intro e;subst e;simp at hy0
    have hcase:=div_guard hs
    clear hs
    rcases hcase with ⟨e1,e2⟩ | e1
    all_goals
     go_wp2_with fail
     refine (div_calls _ _ _ _ x y _ HX2.out HY2.out HLX.out.1 HLY.out.1 HLX.out.2 HLY.out.2 hyne hxn).mono ?_
     rintro e w3 ⟨v1,v2,rfl,ho1,ho2,hb⟩
     obtain ⟨Ar,cr,rfl⟩:=Kd.R_slice ho2
     have HB3:=Aside0.mk (HB2.out.trans (hb.mono HB2.out.size))
     have HY3:=Aside0.mk (Kd.C_below HY2.out hb)
     have HR3:=Aside0.mk ((Kd.R_reads' ho2).2.2)
     have hpos:0 < val y:=by
      rcases Nat.eq_zero_or_pos (val y) with h0 | h0
      ·have:=lim_val HLY.out.1 HLY.out.2
       rw [h0,lim_zero] at this
       exact absurd this.symm hyne
      ·exact h0
     have hmod:=Nat.mod_lt (val x) hpos
     have hrl:(lim (val x % val y)).length ≤ y.length:=lim_length_le (by have:=val_lt HLY.out.1;omega)
     obtain ⟨z,hz⟩:∃ z,z = lim (val x % val y):=⟨_,rfl⟩
     rw [← hz] at HR3 hrl ⊢
     have HZ:=Aside0.mk hz
     clear hz ho1 ho2 hb
     go_wp2
     go_roundg (val x % val y)
     case measure=>have:=HM.out;omega
     case rel =>
      have hzz:=HZ.out
      exact ⟨_,_,_,_,y,z,rfl,rfl,⟨by rw [hzz,val_lim]⟩,HY3,HR3,HLY,⟨by rw [hzz];exact limbs_lim _,by rw [hzz];exact plain_lim _⟩,⟨by rw [← HG.out,hzz,val_lim];exact gcd_step _ _ hpos⟩,⟨hyn,by omega⟩,HB3⟩
end Go.Proofs.YtijldkknhphgcaaGreat.Hand
set_option linter.unusedVariables false
set_option linter.unusedSimpArgs false
namespace Go.Proofs.YtijldkknhphgcaaGreat.Hand
open Go.RowKit Go.Proofs.YtijldkknhphgcaaGreatW.PrintWords Go.Proofs.YtijldkknhphgcaaGreatW.PrintLast Go.Proofs.YtijldkknhphgcaaGreatW.PrintMore
end Go.Proofs.YtijldkknhphgcaaGreat.Hand
end
