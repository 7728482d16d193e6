/- Texts of one proof, one behind the other: each tells what it proves. -/
import Derived.Test.YtijldkknhphgcaaGreatCCheckGraph10
import Derived.Test.YtijldkknhphgcaaGreatCCheckGraph11
import Derived.Deep.RegionHeld3
import Derived.Test.YtijldkknhphgcaaGreatCCheckGraph4
import Derived.Test.YtijldkknhphgcaaGreatCCheckGraph9
import Derived.Test.YtijldkknhphgcaaGreatCCheckGraph2

section
/- Small functions of the document over limbs and machine numbers: l1Plain, l1Small, l1IsSmall, l1GcdSmall, l1BitsOf, l1LimbsOf. Conditions: what is read can be read and its elements are limbs; machine numbers have 64 bits. -/
set_option linter.unusedVariables false
set_option linter.unusedSimpArgs false
namespace Go.Proofs.YtijldkknhphgcaaGreat.Hand
open Go.RowKit Go.Proofs.YtijldkknhphgcaaGreatW.PrintWords Go.Proofs.YtijldkknhphgcaaGreatW.PrintLast Go.Proofs.YtijldkknhphgcaaGreatW.PrintMore
theorem l1Plain_calls (A:Option Addr) (c:Nat) (l:List Int) (b:Bool) (w:World) (hr:(Kd.int .u32).C w A l.length l) (hb:plainB l = b) :
  Calls Tryz.prog 94 #[.slice A l.length c] w fun e w'=>e = .returned (.bool b) ∧ Below w.heap.size w w':=by
 have hlen:l.length ≤ 9223372036854775807:=hr.2.1
 unfold plainB at hb
 rcases Nat.eq_zero_or_pos l.length with h0 | h0
 ·have hbt:b = true:=by rw [← hb];simp [h0]
  subst hbt
  have hd:((l.length:Int) == 0) = true:=by rw [beq_iff_eq];omega
  clear hb h0
  go_enter Tryz.func94,Tryz.ntmps94
  go_wp2
  go_ret
  exact ⟨rfl,Below.refl _ _⟩
 ·obtain ⟨m,hm⟩:∃ m,l.length = m + 1:=⟨l.length - 1,by omega⟩
  have hme:(l.length:Int) - 1 = (m:Int):=by omega
  obtain ⟨ad,e1,hx⟩:=Kd.at_int hr (m:Int) (by omega) (by omega)
  subst e1
  rw [Int.toNat_natCast] at hx
  rw [hme] at hb
  obtain ⟨x,hxe⟩:∃ x,x = rd l (m:Int):=⟨_,rfl⟩
  rw [← hxe] at hx hb
  have hbx:(x != 0) = b:=by
   rw [← hb]
   have:decide (l.length = 0) = false:=decide_eq_false (by omega)
   rw [this,Bool.false_or]
  have hd:((l.length:Int) == 0) = false:=by rw [beq_eq_false_iff_ne];omega
  have q1:(m:Int) < (l.length:Int):=by omega
  have HM:=Aside0.mk hm
  clear hb h0 hxe hr hm
  go_enter Tryz.func94,Tryz.ntmps94
  go_wp2
  go_ret
  exact ⟨rfl,Below.refl _ _⟩
theorem l1Small_calls (A:Option Addr) (c:Nat) (l:List Int) (w:World) (hr:(Kd.int .u32).C w A l.length l) (hl:Limbs l) :
  Calls Tryz.prog 97 #[.slice A l.length c] w fun e w'=>e = .returned (.int .u64 (rd l 0)) ∧ w = w':=by
 rcases Nat.eq_zero_or_pos l.length with h0 | h0
 ·have e0:rd l 0 = 0:=by
   rw [List.length_eq_zero_iff] at h0
   rw [h0]
   rfl
  rw [e0]
  have hd:((l.length:Int) == 0) = true:=by rw [beq_iff_eq];omega
  clear h0 e0
  go_enter Tryz.func97,Tryz.ntmps97
  go_wp2
  go_ret
  exact ⟨rfl,rfl⟩
 ·have hb:=limbs_rd hl 0
  obtain ⟨ad,e1,hx⟩:=Kd.at_int hr 0 (by omega) (by omega)
  subst e1
  obtain ⟨x,hxe⟩:∃ x,x = rd l 0:=⟨_,rfl⟩
  rw [← hxe] at hx hb ⊢
  have hx':w.cell? ad = some (.int .u32 x):=by simpa [Addr.add] using hx
  have hx0:=hb.1
  have hx1:=hb.2
  have hd:((l.length:Int) == 0) = false:=by rw [beq_eq_false_iff_ne];omega
  have q1:(0:Int) < (l.length:Int):=by omega
  have hw:IntKind.u64.wrap x = x:=by rw [IntKind.wrap_u64];omega
  clear hxe hr hx hb
  go_enter Tryz.func97,Tryz.ntmps97
  go_wp2
  go_ret
  exact ⟨rfl,rfl⟩
def smallR (r:Rt):Bool:=decide (r.num.length ≤ 1) && decide (r.den.length ≤ 1) && decide (rd r.num 0 < 2147483648) && decide (rd r.den 0 < 2147483648)
set_option maxHeartbeats 1000000 in
set_option maxRecDepth 100000 in
theorem l1IsSmall_calls (A B:Option Addr) (c d:Nat) (r:Rt) (b:Bool) (w:World) (hr:ratK.K w r [.bool r.neg,.slice A r.num.length c,.slice B r.den.length d])
  (hl:Limbs r.num) (hl':Limbs r.den) (hb:smallR r = b) :
  Calls Tryz.prog 95 #[.agg #[.bool r.neg,.slice A r.num.length c,.slice B r.den.length d]] w fun e w'=>e = .returned (.bool b) ∧ Below w.heap.size w w':=by
 have hu:=Tryz.underlying69
 obtain ⟨A',c',B',d',e,k1,k2,k3,k4⟩:=ratK_form hr
 simp only [List.cons.injEq,Value.slice.injEq,and_true,true_and] at e
 obtain ⟨⟨rfl,rfl⟩,rfl,rfl⟩:=e
 have HR:=Aside0.mk k2
 have HR':=Aside0.mk k4
 obtain ⟨s,l,l'⟩:=r
 unfold smallR at hb
 simp only at HR HR' hl hl' hb ⊢
 have HB0:=Aside0.mk (below_alloc (Below.refl w.heap.size w) (.cells #[.bool s,.slice A l.length c,.slice B l'.length d] 69))
 clear hr k1 k2 k3 k4
 by_cases h1:l.length ≤ 1
 ·have d1:decide ((1:Int) < (l.length:Int)) = false:=decide_eq_false (by omega)
  rw [decide_eq_true h1,Bool.true_and] at hb
  by_cases h2:l'.length ≤ 1
  ·have d2:decide ((1:Int) < (l'.length:Int)) = false:=decide_eq_false (by omega)
   rw [decide_eq_true h2,Bool.true_and] at hb
   by_cases h3:rd l 0 < 2147483648
   ·have d3:decide (rd l 0 < 2147483648) = true:=decide_eq_true h3
    rw [d3,Bool.true_and] at hb
    clear h1 h2
    go_enter Tryz.func95,Tryz.ntmps95
    go_wp2_with fail
    refine (l1Small_calls _ _ l _ (Kd.C_below HR.out HB0.out) hl).mono ?_
    rintro e w1 ⟨rfl,rfl⟩
    go_wp2_with fail
    refine (l1Small_calls _ _ l' _ (Kd.C_below HR'.out HB0.out) hl').mono ?_
    rintro e w1 ⟨rfl,rfl⟩
    go_wp2
    go_ret
    exact ⟨rfl,HB0.out⟩
   ·have d3:decide (rd l 0 < 2147483648) = false:=decide_eq_false h3
    rw [d3,Bool.false_and] at hb
    subst hb
    clear h1 h2
    go_enter Tryz.func95,Tryz.ntmps95
    go_wp2_with fail
    refine (l1Small_calls _ _ l _ (Kd.C_below HR.out HB0.out) hl).mono ?_
    rintro e w1 ⟨rfl,rfl⟩
    go_wp2
    go_ret
    exact ⟨rfl,HB0.out⟩
  ·have d2:decide ((1:Int) < (l'.length:Int)) = true:=decide_eq_true (by omega)
   rw [decide_eq_false h2,Bool.false_and,Bool.false_and] at hb
   subst hb
   clear h1 h2
   go_enter Tryz.func95,Tryz.ntmps95
   go_wp2
   go_ret
   exact ⟨rfl,HB0.out⟩
 ·have d1:decide ((1:Int) < (l.length:Int)) = true:=decide_eq_true (by omega)
  rw [decide_eq_false h1,Bool.false_and,Bool.false_and,Bool.false_and] at hb
  subst hb
  clear h1
  go_enter Tryz.func95,Tryz.ntmps95
  go_wp2
  go_ret
  exact ⟨rfl,HB0.out⟩
set_option maxRecDepth 100000 in
theorem l1GcdSmall_calls (x y:Int) (w:World) (hx0:0 ≤ x) (hx1:x ≤ 18446744073709551615) (hy0:0 ≤ y) (hy1:y ≤ 18446744073709551615) :
  Calls Tryz.prog 96 #[.int .u64 x,.int .u64 y] w fun e w'=>e = .returned (.int .u64 ((Nat.gcd x.toNat y.toNat:Nat):Int)) ∧ w = w':=by
 have HXY:=Aside0.mk (And.intro (And.intro hx0 hx1) (And.intro hy0 hy1))
 clear hx0 hx1 hy0 hy1
 go_enter Tryz.func96,Tryz.ntmps96
 go_wp2
 go_loopg [0,1,5] y.toNat (fun gn v0 v1 v5 wc=>∃ a b:Int,v0 = .int .u64 a ∧ v1 = .int .u64 b ∧ Aside0 (0 ≤ a ∧ a ≤ 18446744073709551615 ∧ 0 ≤ b ∧ b ≤ 18446744073709551615) ∧ Aside0 (b = (gn:Int) ∧ Nat.gcd a.toNat b.toNat = Nat.gcd x.toNat y.toNat) ∧ Aside0 (w = wc))
 case atStart=>exact ⟨_,_,rfl,rfl,⟨by have:=HXY.out;omega⟩,⟨by have:=HXY.out;omega,rfl⟩,⟨rfl⟩⟩
 case round =>
  obtain ⟨a,b,rfl,rfl,HAB,HGG,HW⟩:=hrel
  have hab:=HAB.out
  have ha0:=hab.1
  have ha1:=hab.2.1
  have hb0:=hab.2.2.1
  have hb1:=hab.2.2.2
  clear hab
  by_cases hb:0 < b
  ·have d1:decide (0 < b) = true:=decide_eq_true hb
   have hne:(b == 0) = false:=by rw [beq_eq_false_iff_ne];omega
   have hm0:0 ≤ a % b:=Int.emod_nonneg _ (by omega)
   have hm1:a % b < b:=Int.emod_lt_of_pos _ hb
   go_wp2
   go_roundg (a % b).toNat
   case measure=>have:=HGG.out;omega
   case rel =>
    refine ⟨_,_,rfl,rfl,⟨by omega⟩,⟨by omega,?_⟩,HW⟩
    rw [← HGG.out.2]
    have e:(a % b).toNat = a.toNat % b.toNat:=Int.toNat_emod ha0 hb0
    rw [e]
    have hbp:0 < b.toNat:=by omega
    rw [Nat.gcd_comm,← Nat.gcd_rec,Nat.gcd_comm]
  ·have d1:decide (0 < b) = false:=decide_eq_false hb
   have hag:a = ((Nat.gcd x.toNat y.toNat:Nat):Int):=by
    have:=HGG.out.2
    have hbe:b = 0:=by omega
    rw [hbe] at this
    simp at this
    omega
   have HAG:=Aside0.mk hag
   clear hag
   go_wp2
   go_ret
   exact ⟨by rw [← HAG.out];rfl,HW.out⟩
theorem bin_int {v:Int} (h:0 < v):bin v.toNat = (v % 2 == 1) :: bin (v / 2).toNat:=by
 rw [bin_pos (by omega)]
 have e1:(v / 2).toNat = v.toNat / 2:=by omega
 have e2:decide (v.toNat % 2 = 1) = (v % 2 == 1):=by
  rw [Bool.eq_iff_iff,decide_eq_true_eq,beq_iff_eq]
  omega
 rw [e1,e2]
theorem lim_int {v:Int} (h:0 < v):lim v.toNat = v % 4294967296 :: lim (v / 4294967296).toNat:=by
 rw [lim_pos (by omega)]
 have e1:(v / 4294967296).toNat = v.toNat / 4294967296:=by omega
 have e2:((v.toNat % 4294967296:Nat):Int) = v % 4294967296:=by omega
 rw [e1,e2]
set_option maxRecDepth 100000 in
theorem l1BitsOf_calls (x:Int) (w:World) (hx0:0 ≤ x) (hx1:x ≤ 18446744073709551615) :
  Calls Tryz.prog 101 #[.int .u64 x] w fun e w'=>∃ A c,e = .returned (.slice A (bin x.toNat).length c) ∧ Kd.bool.R 4 w' w.heap.size (fun _=>True) (.slice A (bin x.toNat).length c) (bin x.toNat) ∧ Below w.heap.size w w':=by
 have HXB:=Aside0.mk (And.intro hx0 hx1)
 have HL:=Aside0.mk (show (bin x.toNat).length ≤ 64 from bin_length_le (by omega))
 clear hx0 hx1
 have hO:=Aside0.mk (show Kd.bool.R 4 (w.alloc (.cells #[] 4)) w.heap.size (fun _=>True) (.slice (some ⟨w.heap.size,0,none⟩) 0 0) [] from
  Kd.R_of_own (own_lit_of (enc:=Value.bool) w w.heap.size 4 [] (Nat.le_refl _) (by simp)) (fun k hk=>trivial))
 go_enter Tryz.func101,Tryz.ntmps101
 go_wp2
 go_loopg [0,3] (bin x.toNat).length (fun g v0 v3 w'=>∃ v:Int,v0 = .int .u64 v ∧ Aside0 (0 ≤ v ∧ v ≤ 18446744073709551615) ∧ ∃ o:List Bool,Aside0 (o ++ bin v.toNat = bin x.toNat ∧ (bin v.toNat).length = g) ∧ Aside0 (Kd.bool.R 4 w' w.heap.size (fun _=>True) v3 o) ∧ Aside0 (Below w.heap.size w w'))
 case atStart=>exact ⟨x,rfl,HXB,[],⟨rfl,rfl⟩,hO,⟨below_alloc (Below.refl _ _) _⟩⟩
 case round =>
  clear hO
  obtain ⟨v,rfl,HV,o,HM,HO,HB⟩:=hrel
  have hv0:=HV.out.1
  have hv1:=HV.out.2
  by_cases hv:0 < v
  ·have d1:decide (0 < v) = true:=decide_eq_true hv
   have hol:o.length + 1 ≤ 64:=by
    have e:=congrArg List.length HM.out.1
    rw [List.length_append,bin_int hv,List.length_cons] at e
    have:=HL.out
    omega
   go_wp2_with ((with_reducible refine gate_builtin (b:=.append) (xs:=#[.tmp 7,.tmp 11]) rfl ?_);at_builtin;refine Kd.R_append Kd.bool (w0:=w) w.heap.size rfl (.tmp 7) (.tmp 11) 92 4 (.bool false) 1 rfl Tryz.underlying92 infoB rfl (by decide) (by omega) u3 o (v % 2 == 1) [.bool (v % 2 == 1)] (fun _=>True) (fun _=>False) rfl rfl rfl (fun _ hk=>hk.elim) (fun _ _=>trivial) HO.out HB.out HB.out.size (by omega) ?_;intro v1 w1 ho hb hg hat;have HO1:=Aside0.mk ho;have HB1:=Aside0.mk hb;clear ho hb hg hat)
   go_roundg (bin (v / 2).toNat).length
   case measure =>
    have e:=HM.out.2
    rw [bin_int hv,List.length_cons] at e
    omega
   case rel=>exact ⟨_,rfl,⟨by omega⟩,_,⟨by rw [List.append_assoc,List.singleton_append,← bin_int hv];exact HM.out.1,rfl⟩,HO1,HB1⟩
  ·have d1:decide (0 < v) = false:=decide_eq_false hv
   have ho:o = bin x.toNat:=by
    have e:=HM.out.1
    rw [show v.toNat = 0 by omega,bin_zero,List.append_nil] at e
    exact e
   subst ho
   obtain ⟨Ao,co,rfl⟩:=Kd.R_slice HO.out
   go_wp2
   go_ret
   exact ⟨_,_,rfl,HO.out,HB.out⟩
set_option maxRecDepth 100000 in
theorem l1LimbsOf_calls (x:Int) (w:World) (hx0:0 ≤ x) (hx1:x ≤ 18446744073709551615) :
  Calls Tryz.prog 138 #[.int .u64 x] w fun e w'=>∃ A c,e = .returned (.slice A (lim x.toNat).length c) ∧ (Kd.int .u32).R 134 w' w.heap.size (fun _=>True) (.slice A (lim x.toNat).length c) (lim x.toNat) ∧ Below w.heap.size w w':=by
 have HXB:=Aside0.mk (And.intro hx0 hx1)
 have HL:=Aside0.mk (show (lim x.toNat).length ≤ 2 from lim_length_le (by omega))
 clear hx0 hx1
 have hO:=Aside0.mk (show (Kd.int .u32).R 134 (w.alloc (.cells #[] 134)) w.heap.size (fun _=>True) (.slice (some ⟨w.heap.size,0,none⟩) 0 0) [] from
  Kd.R_of_own (own_lit w w.heap.size 134 .u32 [] (Nat.le_refl _) (by simp)) (fun k hk=>trivial))
 go_enter Tryz.func138,Tryz.ntmps138
 go_wp2
 go_loopg [0,3] (lim x.toNat).length (fun g v0 v3 w'=>∃ v:Int,v0 = .int .u64 v ∧ Aside0 (0 ≤ v ∧ v ≤ 18446744073709551615) ∧ ∃ o:List Int,Aside0 (o ++ lim v.toNat = lim x.toNat ∧ (lim v.toNat).length = g) ∧ Aside0 ((Kd.int .u32).R 134 w' w.heap.size (fun _=>True) v3 o) ∧ Aside0 (Below w.heap.size w w'))
 case atStart=>exact ⟨x,rfl,HXB,[],⟨rfl,rfl⟩,hO,⟨below_alloc (Below.refl _ _) _⟩⟩
 case round =>
  clear hO
  obtain ⟨v,rfl,HV,o,HM,HO,HB⟩:=hrel
  have hv0:=HV.out.1
  have hv1:=HV.out.2
  by_cases hv:0 < v
  ·have d1:decide (0 < v) = true:=decide_eq_true hv
   have hol:o.length + 1 ≤ 2:=by
    have e:=congrArg List.length HM.out.1
    rw [List.length_append,lim_int hv,List.length_cons] at e
    have:=HL.out
    omega
   have hm:IntKind.u32.wrap (v % 4294967296) = v % 4294967296:=by rw [IntKind.wrap_u32];omega
   go_wp2_with ((with_reducible refine gate_builtin (b:=.append) (xs:=#[.tmp 7,.tmp 11]) rfl ?_);at_builtin;refine Kd.R_append (Kd.int .u32) (w0:=w) w.heap.size rfl (.tmp 7) (.tmp 11) 67 134 (.int .u32 0) 4 rfl Tryz.underlying67 infoU rfl (by decide) (by omega) u3 o (v % 4294967296) [.int .u32 (v % 4294967296)] (fun _=>True) (fun _=>False) rfl rfl rfl (fun _ hk=>hk.elim) (fun _ _=>trivial) HO.out HB.out HB.out.size (by omega) ?_;intro v1 w1 ho hb hg hat;have HO1:=Aside0.mk ho;have HB1:=Aside0.mk hb;clear ho hb hg hat)
   go_roundg (lim (v / 4294967296).toNat).length
   case measure =>
    have e:=HM.out.2
    rw [lim_int hv,List.length_cons] at e
    omega
   case rel=>exact ⟨_,rfl,⟨by omega⟩,_,⟨by rw [List.append_assoc,List.singleton_append,← lim_int hv];exact HM.out.1,rfl⟩,HO1,HB1⟩
  ·have d1:decide (0 < v) = false:=decide_eq_false hv
   have ho:o = lim x.toNat:=by
    have e:=HM.out.1
    rw [show v.toNat = 0 by omega,lim_zero,List.append_nil] at e
    exact e
   subst ho
   obtain ⟨Ao,co,rfl⟩:=Kd.R_slice HO.out
   go_wp2
   go_ret
   exact ⟨_,_,rfl,HO.out,HB.out⟩
end Go.Proofs.YtijldkknhphgcaaGreat.Hand
end

section
/- The document's RatOk. Conditions: the rational's lists can be read, their elements are limbs, and there are at most 2^38 of them in each. -/
set_option linter.unusedVariables false
set_option linter.unusedSimpArgs false
namespace Go.Proofs.YtijldkknhphgcaaGreat.Hand
open Go.RowKit Go.Proofs.YtijldkknhphgcaaGreatW.PrintWords Go.Proofs.YtijldkknhphgcaaGreatW.PrintLast Go.Proofs.YtijldkknhphgcaaGreatW.PrintMore
theorem val_small {l:List Int} (hl:Limbs l) (h:l.length ≤ 1):val l = (rd l 0).toNat:=by
 match l,h with
 | [],_=>rfl
 | [x],_=>simp [val,rd]
theorem cmpN_zero (a b:Nat):((cmpN a b) == 0) = decide (a = b):=by
 rw [Bool.eq_iff_iff,beq_iff_eq,decide_eq_true_eq]
 unfold cmpN
 split
 ·omega
 ·split <;> omega
theorem l1BitsX (A:Option Addr) (c:Nat) (l:List Int) (w:World) (hr:(Kd.int .u32).C w A l.length l) (hl:Limbs l) (hn:l.length ≤ 1099511627776) :
  Calls Tryz.prog 100 #[.slice A l.length c] w fun e w'=>∃ A1 c1,e = .returned (.slice A1 (bin (val l)).length c1) ∧ Kd.bool.R 4 w' w.heap.size (fun _=>True) (.slice A1 (bin (val l)).length c1) (bin (val l)) ∧ Below w.heap.size w w':=by
 refine (l1Bits_calls A c l w hr hl hn).mono ?_
 rintro e w' ⟨v,rfl,ho,hb⟩
 obtain ⟨A1,c1,rfl⟩:=Kd.R_slice ho
 exact ⟨A1,c1,rfl,ho,hb⟩
theorem l1BitsOf_one (w:World):Calls Tryz.prog 101 #[.int .u64 1] w fun e w'=>∃ A c,e = .returned (.slice A (bin 1).length c) ∧ Kd.bool.R 4 w' w.heap.size (fun _=>True) (.slice A (bin 1).length c) (bin 1) ∧ Below w.heap.size w w':=l1BitsOf_calls 1 w (by omega) (by omega)
set_option maxHeartbeats 4000000 in
set_option maxRecDepth 100000 in
theorem spok_n (A B:Option Addr) (c d:Nat) (s:Bool) (l l':List Int) (b:Bool) (w:World) (hr:ratK.K w ⟨s,l,l'⟩ [.bool s,.slice A l.length c,.slice B l'.length d])
  (hl:Limbs l) (hl':Limbs l') (hn:l.length ≤ 274877906944) (hn':l'.length ≤ 274877906944) (h1:plainB l = false) :
  Calls Tryz.prog 65 #[.agg #[.bool s,.slice A l.length c,.slice B l'.length d]] w fun e w'=>e = .returned (.bool false) ∧ Below w.heap.size w w':=by
 have hu:=Tryz.underlying69
 obtain ⟨A',c',B',d',e,k1,k2,k3,k4⟩:=ratK_form hr
 simp only [List.cons.injEq,Value.slice.injEq,and_true,true_and] at e
 obtain ⟨⟨rfl,rfl⟩,rfl,rfl⟩:=e
 have HRK:=Aside0.mk hr
 have HR:=Aside0.mk k2
 have HR':=Aside0.mk k4
 clear hr k1 k2 k3 k4
 have HB0:=Aside0.mk (below_alloc (Below.refl w.heap.size w) (.cells #[.bool s,.slice A l.length c,.slice B l'.length d] 69))
 have HX0:=Aside0.mk (Blk.new w 69 #[.bool s,.slice A l.length c,.slice B l'.length d])
 have H1:=Aside0.mk h1
 clear h1
 go_enter Tryz.func65,Tryz.ntmps65
 go_wp2_with fail
 refine (l1Plain_calls _ _ l false _ (Kd.C_below HR.out HB0.out) H1.out).mono ?_
 rintro e w1 ⟨rfl,hb⟩
 have HB1:=Aside0.mk (HB0.out.trans (hb.mono HB0.out.size))
 clear hb
 go_wp2
 go_ret
 exact ⟨rfl,HB1.out⟩
set_option maxHeartbeats 4000000 in
set_option maxRecDepth 100000 in
theorem spok_d (A B:Option Addr) (c d:Nat) (s:Bool) (l l':List Int) (b:Bool) (w:World) (hr:ratK.K w ⟨s,l,l'⟩ [.bool s,.slice A l.length c,.slice B l'.length d])
  (hl:Limbs l) (hl':Limbs l') (hn:l.length ≤ 274877906944) (hn':l'.length ≤ 274877906944) (h1:plainB l = true) (h2:plainB l' = false) :
  Calls Tryz.prog 65 #[.agg #[.bool s,.slice A l.length c,.slice B l'.length d]] w fun e w'=>e = .returned (.bool false) ∧ Below w.heap.size w w':=by
 have hu:=Tryz.underlying69
 obtain ⟨A',c',B',d',e,k1,k2,k3,k4⟩:=ratK_form hr
 simp only [List.cons.injEq,Value.slice.injEq,and_true,true_and] at e
 obtain ⟨⟨rfl,rfl⟩,rfl,rfl⟩:=e
 have HRK:=Aside0.mk hr
 have HR:=Aside0.mk k2
 have HR':=Aside0.mk k4
 clear hr k1 k2 k3 k4
 have HB0:=Aside0.mk (below_alloc (Below.refl w.heap.size w) (.cells #[.bool s,.slice A l.length c,.slice B l'.length d] 69))
 have HX0:=Aside0.mk (Blk.new w 69 #[.bool s,.slice A l.length c,.slice B l'.length d])
 have H1:=Aside0.mk h1
 have H2:=Aside0.mk h2
 clear h1 h2
 go_enter Tryz.func65,Tryz.ntmps65
 go_wp2_with fail
 refine (l1Plain_calls _ _ l true _ (Kd.C_below HR.out HB0.out) H1.out).mono ?_
 rintro e w1 ⟨rfl,hb⟩
 have HB1:=Aside0.mk (HB0.out.trans (hb.mono HB0.out.size))
 have HX1:=Aside0.mk (HX0.out.below hb HX0.out.lt)
 obtain ⟨x0,x1,x2⟩:=box3 HX1.out
 clear hb
 go_wp2_with fail
 refine (l1Plain_calls _ _ l' false _ (Kd.C_below HR'.out HB1.out) H2.out).mono ?_
 rintro e w2 ⟨rfl,hb⟩
 have HB2:=Aside0.mk (HB1.out.trans (hb.mono HB1.out.size))
 clear hb
 go_wp2
 go_ret
 exact ⟨rfl,HB2.out⟩
set_option maxHeartbeats 4000000 in
set_option maxRecDepth 100000 in
theorem spok_z (A B:Option Addr) (c d:Nat) (s:Bool) (l l':List Int) (b:Bool) (w:World) (hr:ratK.K w ⟨s,l,l'⟩ [.bool s,.slice A l.length c,.slice B l'.length d])
  (hl:Limbs l) (hl':Limbs l') (hn:l.length ≤ 274877906944) (hn':l'.length ≤ 274877906944) (h1:plainB l = true) (h2:plainB l' = true) (hd:((l'.length:Int) == 0) = true) :
  Calls Tryz.prog 65 #[.agg #[.bool s,.slice A l.length c,.slice B l'.length d]] w fun e w'=>e = .returned (.bool false) ∧ Below w.heap.size w w':=by
 have hu:=Tryz.underlying69
 obtain ⟨A',c',B',d',e,k1,k2,k3,k4⟩:=ratK_form hr
 simp only [List.cons.injEq,Value.slice.injEq,and_true,true_and] at e
 obtain ⟨⟨rfl,rfl⟩,rfl,rfl⟩:=e
 have HRK:=Aside0.mk hr
 have HR:=Aside0.mk k2
 have HR':=Aside0.mk k4
 clear hr k1 k2 k3 k4
 have HB0:=Aside0.mk (below_alloc (Below.refl w.heap.size w) (.cells #[.bool s,.slice A l.length c,.slice B l'.length d] 69))
 have HX0:=Aside0.mk (Blk.new w 69 #[.bool s,.slice A l.length c,.slice B l'.length d])
 have H1:=Aside0.mk h1
 have H2:=Aside0.mk h2
 clear h1 h2
 go_enter Tryz.func65,Tryz.ntmps65
 go_wp2_with fail
 refine (l1Plain_calls _ _ l true _ (Kd.C_below HR.out HB0.out) H1.out).mono ?_
 rintro e w1 ⟨rfl,hb⟩
 have HB1:=Aside0.mk (HB0.out.trans (hb.mono HB0.out.size))
 have HX1:=Aside0.mk (HX0.out.below hb HX0.out.lt)
 obtain ⟨x0,x1,x2⟩:=box3 HX1.out
 clear hb
 go_wp2_with fail
 refine (l1Plain_calls _ _ l' true _ (Kd.C_below HR'.out HB1.out) H2.out).mono ?_
 rintro e w2 ⟨rfl,hb⟩
 have HB2:=Aside0.mk (HB1.out.trans (hb.mono HB1.out.size))
 have HX2:=Aside0.mk (HX1.out.below hb HX1.out.lt)
 clear x0 x1 x2
 obtain ⟨x0,x1,x2⟩:=box3 HX2.out
 clear hb
 go_wp2
 go_ret
 exact ⟨rfl,HB2.out⟩
set_option maxHeartbeats 4000000 in
set_option maxRecDepth 100000 in
theorem spok_m (A B:Option Addr) (c d:Nat) (l l':List Int) (b:Bool) (w:World) (hr:ratK.K w ⟨true,l,l'⟩ [.bool true,.slice A l.length c,.slice B l'.length d])
  (hl:Limbs l) (hl':Limbs l') (hn:l.length ≤ 274877906944) (hn':l'.length ≤ 274877906944) (h1:plainB l = true) (h2:plainB l' = true) (hd:((l'.length:Int) == 0) = false) (hd5:((l.length:Int) == 0) = true) :
  Calls Tryz.prog 65 #[.agg #[.bool true,.slice A l.length c,.slice B l'.length d]] w fun e w'=>e = .returned (.bool false) ∧ Below w.heap.size w w':=by
 have hu:=Tryz.underlying69
 obtain ⟨A',c',B',d',e,k1,k2,k3,k4⟩:=ratK_form hr
 simp only [List.cons.injEq,Value.slice.injEq,and_true,true_and] at e
 obtain ⟨⟨rfl,rfl⟩,rfl,rfl⟩:=e
 have HRK:=Aside0.mk hr
 have HR:=Aside0.mk k2
 have HR':=Aside0.mk k4
 clear hr k1 k2 k3 k4
 have HB0:=Aside0.mk (below_alloc (Below.refl w.heap.size w) (.cells #[.bool true,.slice A l.length c,.slice B l'.length d] 69))
 have HX0:=Aside0.mk (Blk.new w 69 #[.bool true,.slice A l.length c,.slice B l'.length d])
 have H1:=Aside0.mk h1
 have H2:=Aside0.mk h2
 clear h1 h2
 go_enter Tryz.func65,Tryz.ntmps65
 go_wp2_with fail
 refine (l1Plain_calls _ _ l true _ (Kd.C_below HR.out HB0.out) H1.out).mono ?_
 rintro e w1 ⟨rfl,hb⟩
 have HB1:=Aside0.mk (HB0.out.trans (hb.mono HB0.out.size))
 have HX1:=Aside0.mk (HX0.out.below hb HX0.out.lt)
 obtain ⟨x0,x1,x2⟩:=box3 HX1.out
 clear hb
 go_wp2_with fail
 refine (l1Plain_calls _ _ l' true _ (Kd.C_below HR'.out HB1.out) H2.out).mono ?_
 rintro e w2 ⟨rfl,hb⟩
 have HB2:=Aside0.mk (HB1.out.trans (hb.mono HB1.out.size))
 have HX2:=Aside0.mk (HX1.out.below hb HX1.out.lt)
 clear x0 x1 x2
 obtain ⟨x0,x1,x2⟩:=box3 HX2.out
 clear hb
 go_wp2
 go_ret
 exact ⟨rfl,HB2.out⟩
set_option maxHeartbeats 4000000 in
set_option maxRecDepth 100000 in
theorem spok_s0 (A B:Option Addr) (c d:Nat) (l l':List Int) (b:Bool) (w:World) (hr:ratK.K w ⟨false,l,l'⟩ [.bool false,.slice A l.length c,.slice B l'.length d])
  (hl:Limbs l) (hl':Limbs l') (hn:l.length ≤ 274877906944) (hn':l'.length ≤ 274877906944) (h1:plainB l = true) (h2:plainB l' = true) (hd:((l'.length:Int) == 0) = false) (hd5:((l.length:Int) == 0) = true) (hsm:smallR ⟨false,l,l'⟩ = true) (hbb:decide (Nat.gcd (val l) (val l') = 1) = b) :
  Calls Tryz.prog 65 #[.agg #[.bool false,.slice A l.length c,.slice B l'.length d]] w fun e w'=>e = .returned (.bool b) ∧ Below w.heap.size w w':=by
 have hu:=Tryz.underlying69
 obtain ⟨A',c',B',d',e,k1,k2,k3,k4⟩:=ratK_form hr
 simp only [List.cons.injEq,Value.slice.injEq,and_true,true_and] at e
 obtain ⟨⟨rfl,rfl⟩,rfl,rfl⟩:=e
 have HRK:=Aside0.mk hr
 have HR:=Aside0.mk k2
 have HR':=Aside0.mk k4
 clear hr k1 k2 k3 k4
 have HB0:=Aside0.mk (below_alloc (Below.refl w.heap.size w) (.cells #[.bool false,.slice A l.length c,.slice B l'.length d] 69))
 have HX0:=Aside0.mk (Blk.new w 69 #[.bool false,.slice A l.length c,.slice B l'.length d])
 have H1:=Aside0.mk h1
 have H2:=Aside0.mk h2
 have HSM:=Aside0.mk hsm
 have HBB:=Aside0.mk hbb
 have HP:=Aside0.mk (And.intro (plainB_iff.1 h1) (plainB_iff.1 h2))
 clear h1 h2 hsm hbb
 go_enter Tryz.func65,Tryz.ntmps65
 go_wp2_with fail
 refine (l1Plain_calls _ _ l true _ (Kd.C_below HR.out HB0.out) H1.out).mono ?_
 rintro e w1 ⟨rfl,hb⟩
 have HB1:=Aside0.mk (HB0.out.trans (hb.mono HB0.out.size))
 have HX1:=Aside0.mk (HX0.out.below hb HX0.out.lt)
 obtain ⟨x0,x1,x2⟩:=box3 HX1.out
 clear hb
 go_wp2_with fail
 refine (l1Plain_calls _ _ l' true _ (Kd.C_below HR'.out HB1.out) H2.out).mono ?_
 rintro e w2 ⟨rfl,hb⟩
 have HB2:=Aside0.mk (HB1.out.trans (hb.mono HB1.out.size))
 have HX2:=Aside0.mk (HX1.out.below hb HX1.out.lt)
 clear x0 x1 x2
 obtain ⟨x0,x1,x2⟩:=box3 HX2.out
 clear hb
 go_wp2_with fail
 refine (l1IsSmall_calls A B c d ⟨false,l,l'⟩ true _ (ratK.K_below HB2.out HRK.out) hl hl' HSM.out).mono ?_
 rintro e w3 ⟨rfl,hb⟩
 have HB3:=Aside0.mk (HB2.out.trans (hb.mono HB2.out.size))
 have HX3:=Aside0.mk (HX2.out.below hb HX2.out.lt)
 clear x0 x1 x2
 obtain ⟨x0,x1,x2⟩:=box3 HX3.out
 have HC1:=Aside0.mk (Kd.C_below HR.out HB3.out)
 have HC2:=Aside0.mk (Kd.C_below HR'.out HB3.out)
 clear hb
 have r1:=limbs_rd hl 0
 have r2:=limbs_rd hl' 0
 have hgb:(((Nat.gcd (rd l 0).toNat (rd l' 0).toNat:Nat):Int) == 1) = b:=by
  have hs:=HSM.out
  unfold smallR at hs
  simp only [Bool.and_eq_true,decide_eq_true_eq] at hs
  have e1:=val_small hl hs.1.1.1
  have e2:=val_small hl' hs.1.1.2
  rw [← HBB.out,e1,e2,Bool.eq_iff_iff,beq_iff_eq,decide_eq_true_eq]
  omega
 have r10:=r1.1
 have r11:=r1.2
 have r20:=r2.1
 have r21:=r2.2
 clear r1 r2
 go_wp2_with fail
 go_quiet ((first | (go_at_call_of 97 (Value.slice A l.length c);exact Calls.quiet_of_same ((l1Small_calls _ _ l _ (Kd.C_below HC1.out (pw_below_drewN (Below.refl _ _) _)) hl).mono (fun _ _ h=>⟨h.1,h.2.symm⟩))) | (go_at_call_of 97 (Value.slice B l'.length d);exact Calls.quiet_of_same ((l1Small_calls _ _ l' _ (Kd.C_below HC2.out (pw_below_drewN (Below.refl _ _) _)) hl').mono (fun _ _ h=>⟨h.1,h.2.symm⟩))) | (go_at_call 96;exact Calls.quiet_of_same ((l1GcdSmall_calls (rd l 0) (rd l' 0) _ (by omega) (by omega) (by omega) (by omega)).mono (fun _ _ h=>⟨h.1,h.2.symm⟩)))))
 go_wp2
 go_ret
 exact ⟨rfl,pw_below_drewN HB3.out _⟩
set_option maxHeartbeats 4000000 in
set_option maxRecDepth 100000 in
theorem spok_b0 (A B:Option Addr) (c d:Nat) (l l':List Int) (b:Bool) (w:World) (hr:ratK.K w ⟨false,l,l'⟩ [.bool false,.slice A l.length c,.slice B l'.length d])
  (hl:Limbs l) (hl':Limbs l') (hn:l.length ≤ 274877906944) (hn':l'.length ≤ 274877906944) (h1:plainB l = true) (h2:plainB l' = true) (hd:((l'.length:Int) == 0) = false) (hd5:((l.length:Int) == 0) = true) (hsm:smallR ⟨false,l,l'⟩ = false) (hbb:decide (Nat.gcd (val l) (val l') = 1) = b) :
  Calls Tryz.prog 65 #[.agg #[.bool false,.slice A l.length c,.slice B l'.length d]] w fun e w'=>e = .returned (.bool b) ∧ Below w.heap.size w w':=by
 have hu:=Tryz.underlying69
 obtain ⟨A',c',B',d',e,k1,k2,k3,k4⟩:=ratK_form hr
 simp only [List.cons.injEq,Value.slice.injEq,and_true,true_and] at e
 obtain ⟨⟨rfl,rfl⟩,rfl,rfl⟩:=e
 have HRK:=Aside0.mk hr
 have HR:=Aside0.mk k2
 have HR':=Aside0.mk k4
 clear hr k1 k2 k3 k4
 have HB0:=Aside0.mk (below_alloc (Below.refl w.heap.size w) (.cells #[.bool false,.slice A l.length c,.slice B l'.length d] 69))
 have HX0:=Aside0.mk (Blk.new w 69 #[.bool false,.slice A l.length c,.slice B l'.length d])
 have H1:=Aside0.mk h1
 have H2:=Aside0.mk h2
 have HSM:=Aside0.mk hsm
 have HBB:=Aside0.mk hbb
 have HP:=Aside0.mk (And.intro (plainB_iff.1 h1) (plainB_iff.1 h2))
 clear h1 h2 hsm hbb
 go_enter Tryz.func65,Tryz.ntmps65
 go_wp2_with fail
 refine (l1Plain_calls _ _ l true _ (Kd.C_below HR.out HB0.out) H1.out).mono ?_
 rintro e w1 ⟨rfl,hb⟩
 have HB1:=Aside0.mk (HB0.out.trans (hb.mono HB0.out.size))
 have HX1:=Aside0.mk (HX0.out.below hb HX0.out.lt)
 obtain ⟨x0,x1,x2⟩:=box3 HX1.out
 clear hb
 go_wp2_with fail
 refine (l1Plain_calls _ _ l' true _ (Kd.C_below HR'.out HB1.out) H2.out).mono ?_
 rintro e w2 ⟨rfl,hb⟩
 have HB2:=Aside0.mk (HB1.out.trans (hb.mono HB1.out.size))
 have HX2:=Aside0.mk (HX1.out.below hb HX1.out.lt)
 clear x0 x1 x2
 obtain ⟨x0,x1,x2⟩:=box3 HX2.out
 clear hb
 go_wp2_with fail
 refine (l1IsSmall_calls A B c d ⟨false,l,l'⟩ false _ (ratK.K_below HB2.out HRK.out) hl hl' HSM.out).mono ?_
 rintro e w3 ⟨rfl,hb⟩
 have HB3:=Aside0.mk (HB2.out.trans (hb.mono HB2.out.size))
 have HX3:=Aside0.mk (HX2.out.below hb HX2.out.lt)
 clear x0 x1 x2
 obtain ⟨x0,x1,x2⟩:=box3 HX3.out
 have hBW:=Below.refl w3.heap.size w3
 have H6:Aside0 (∀ w',Below w3.heap.size w3 w' → Below w3.heap.size w3 w' ∧ w'.cell? ⟨w.heap.size,1,none⟩ = some (.slice A l.length c) ∧ w'.cell? ⟨w.heap.size,2,none⟩ = some (.slice B l'.length d)):=⟨fun w' h=>⟨h,pw_cell_below h x1,pw_cell_below h x2⟩⟩
 have C1:Aside0 (∀ w',Below w3.heap.size w3 w' → (Kd.int .u32).C w' A l.length l):=⟨fun w' h=>Kd.C_below (Kd.C_below HR.out HB3.out) h⟩
 have C2:Aside0 (∀ w',Below w3.heap.size w3 w' → (Kd.int .u32).C w' B l'.length l'):=⟨fun w' h=>Kd.C_below (Kd.C_below HR'.out HB3.out) h⟩
 have b1:=bin_val_length hl
 have b2:=bin_val_length hl'
 have hcb:((cmpN (bval (bin (Nat.gcd (bval (bin (val l))) (bval (bin (val l')))))) (bval (bin 1))) == 0) = b:=by
  rw [bval_bin,bval_bin,bval_bin,bval_bin,← HBB.out]
  exact cmpN_zero _ _
 clear hb x0
 go_wp2_with fail
 go_region_held3 (fun w'=>Below w3.heap.size w3 w' ∧ w'.cell? ⟨w.heap.size,1,none⟩ = some (.slice A l.length c) ∧ w'.cell? ⟨w.heap.size,2,none⟩ = some (.slice B l'.length d))
  ((refine H6.out _ ?_;first | assumption | exact below_drew hBW | (apply heldB;assumption;assumption)))
  (first | (go_at_call_of 100 (Value.slice A l.length c);(with_reducible refine (l1BitsX _ _ l _ (C1.out _ ?_) hl (by omega)).mono ?_);(apply And.left;assumption);rintro e wa ⟨Aa,ca,rfl,hoa,hba⟩) | (go_at_call_of 100 (Value.slice B l'.length d);(with_reducible refine (l1BitsX _ _ l' _ (C2.out _ ?_) hl' (by omega)).mono ?_);(apply And.left;assumption);rintro e wb ⟨Ab,cb,rfl,hob,hbb⟩) | (go_at_call 99;(with_reducible refine (l1GcdBits_calls _ _ _ _ (bin (val l)) (bin (val l')) _ (Kd.C_below (Kd.R_reads' hoa).2.2 hbb) (Kd.R_reads' hob).2.2 (Kd.R_reads' hoa).2.1 (Kd.R_reads' hob).2.1 (by omega) (by omega) (bplain_bin _) (bplain_bin _)).mono ?_);rintro e wc ⟨Ac,cc,rfl,hcc,hoc,hbc⟩) | (go_at_call 101;(with_reducible refine (l1BitsOf_one _).mono ?_);rintro e wd ⟨Ad,cd,rfl,hod,hbd⟩) | (go_at_call 98;(with_reducible refine (l1CmpBits_calls _ _ _ _ _ _ _ (Kd.C_below hoc hbd) (Kd.R_reads' hod).2.2 (bplain_bin _) (bplain_bin _)).mono ?_);rintro e we ⟨rfl,hde⟩;have hbe:=heldB (W:=w3) (P:=True) ⟨heldB (W:=w3) (P:=True) ⟨heldB (W:=w3) (P:=True) ⟨heldB (W:=w3) (P:=True) ⟨heldB (W:=w3) (P:=True) ⟨below_drew hBW,trivial⟩ hba,trivial⟩ hbb,trivial⟩ hbc,trivial⟩ hbd,trivial⟩ hde.below))
 go_wp2
 go_ret
 have hsz:=HB3.out.size
 exact ⟨rfl,HB3.out.trans (Below.mono (by assumption) hsz)⟩
set_option maxHeartbeats 4000000 in
set_option maxRecDepth 100000 in
theorem spok_s1 (A B:Option Addr) (c d:Nat) (s:Bool) (l l':List Int) (b:Bool) (w:World) (hr:ratK.K w ⟨s,l,l'⟩ [.bool s,.slice A l.length c,.slice B l'.length d])
  (hl:Limbs l) (hl':Limbs l') (hn:l.length ≤ 274877906944) (hn':l'.length ≤ 274877906944) (h1:plainB l = true) (h2:plainB l' = true) (hd:((l'.length:Int) == 0) = false) (hd5:((l.length:Int) == 0) = false) (hsm:smallR ⟨s,l,l'⟩ = true) (hbb:decide (Nat.gcd (val l) (val l') = 1) = b) :
  Calls Tryz.prog 65 #[.agg #[.bool s,.slice A l.length c,.slice B l'.length d]] w fun e w'=>e = .returned (.bool b) ∧ Below w.heap.size w w':=by
 have hu:=Tryz.underlying69
 obtain ⟨A',c',B',d',e,k1,k2,k3,k4⟩:=ratK_form hr
 simp only [List.cons.injEq,Value.slice.injEq,and_true,true_and] at e
 obtain ⟨⟨rfl,rfl⟩,rfl,rfl⟩:=e
 have HRK:=Aside0.mk hr
 have HR:=Aside0.mk k2
 have HR':=Aside0.mk k4
 clear hr k1 k2 k3 k4
 have HB0:=Aside0.mk (below_alloc (Below.refl w.heap.size w) (.cells #[.bool s,.slice A l.length c,.slice B l'.length d] 69))
 have HX0:=Aside0.mk (Blk.new w 69 #[.bool s,.slice A l.length c,.slice B l'.length d])
 have H1:=Aside0.mk h1
 have H2:=Aside0.mk h2
 have HSM:=Aside0.mk hsm
 have HBB:=Aside0.mk hbb
 have HP:=Aside0.mk (And.intro (plainB_iff.1 h1) (plainB_iff.1 h2))
 clear h1 h2 hsm hbb
 go_enter Tryz.func65,Tryz.ntmps65
 go_wp2_with fail
 refine (l1Plain_calls _ _ l true _ (Kd.C_below HR.out HB0.out) H1.out).mono ?_
 rintro e w1 ⟨rfl,hb⟩
 have HB1:=Aside0.mk (HB0.out.trans (hb.mono HB0.out.size))
 have HX1:=Aside0.mk (HX0.out.below hb HX0.out.lt)
 obtain ⟨x0,x1,x2⟩:=box3 HX1.out
 clear hb
 go_wp2_with fail
 refine (l1Plain_calls _ _ l' true _ (Kd.C_below HR'.out HB1.out) H2.out).mono ?_
 rintro e w2 ⟨rfl,hb⟩
 have HB2:=Aside0.mk (HB1.out.trans (hb.mono HB1.out.size))
 have HX2:=Aside0.mk (HX1.out.below hb HX1.out.lt)
 clear x0 x1 x2
 obtain ⟨x0,x1,x2⟩:=box3 HX2.out
 clear hb
 go_wp2_with fail
 refine (l1IsSmall_calls A B c d ⟨s,l,l'⟩ true _ (ratK.K_below HB2.out HRK.out) hl hl' HSM.out).mono ?_
 rintro e w3 ⟨rfl,hb⟩
 have HB3:=Aside0.mk (HB2.out.trans (hb.mono HB2.out.size))
 have HX3:=Aside0.mk (HX2.out.below hb HX2.out.lt)
 clear x0 x1 x2
 obtain ⟨x0,x1,x2⟩:=box3 HX3.out
 have HC1:=Aside0.mk (Kd.C_below HR.out HB3.out)
 have HC2:=Aside0.mk (Kd.C_below HR'.out HB3.out)
 clear hb
 have r1:=limbs_rd hl 0
 have r2:=limbs_rd hl' 0
 have hgb:(((Nat.gcd (rd l 0).toNat (rd l' 0).toNat:Nat):Int) == 1) = b:=by
  have hs:=HSM.out
  unfold smallR at hs
  simp only [Bool.and_eq_true,decide_eq_true_eq] at hs
  have e1:=val_small hl hs.1.1.1
  have e2:=val_small hl' hs.1.1.2
  rw [← HBB.out,e1,e2,Bool.eq_iff_iff,beq_iff_eq,decide_eq_true_eq]
  omega
 have r10:=r1.1
 have r11:=r1.2
 have r20:=r2.1
 have r21:=r2.2
 clear r1 r2
 go_wp2_with fail
 go_quiet ((first | (go_at_call_of 97 (Value.slice A l.length c);exact Calls.quiet_of_same ((l1Small_calls _ _ l _ (Kd.C_below HC1.out (pw_below_drewN (Below.refl _ _) _)) hl).mono (fun _ _ h=>⟨h.1,h.2.symm⟩))) | (go_at_call_of 97 (Value.slice B l'.length d);exact Calls.quiet_of_same ((l1Small_calls _ _ l' _ (Kd.C_below HC2.out (pw_below_drewN (Below.refl _ _) _)) hl').mono (fun _ _ h=>⟨h.1,h.2.symm⟩))) | (go_at_call 96;exact Calls.quiet_of_same ((l1GcdSmall_calls (rd l 0) (rd l' 0) _ (by omega) (by omega) (by omega) (by omega)).mono (fun _ _ h=>⟨h.1,h.2.symm⟩)))))
 go_wp2
 go_ret
 exact ⟨rfl,pw_below_drewN HB3.out _⟩
set_option maxHeartbeats 4000000 in
set_option maxRecDepth 100000 in
theorem spok_b1 (A B:Option Addr) (c d:Nat) (s:Bool) (l l':List Int) (b:Bool) (w:World) (hr:ratK.K w ⟨s,l,l'⟩ [.bool s,.slice A l.length c,.slice B l'.length d])
  (hl:Limbs l) (hl':Limbs l') (hn:l.length ≤ 274877906944) (hn':l'.length ≤ 274877906944) (h1:plainB l = true) (h2:plainB l' = true) (hd:((l'.length:Int) == 0) = false) (hd5:((l.length:Int) == 0) = false) (hsm:smallR ⟨s,l,l'⟩ = false) (hbb:decide (Nat.gcd (val l) (val l') = 1) = b) :
  Calls Tryz.prog 65 #[.agg #[.bool s,.slice A l.length c,.slice B l'.length d]] w fun e w'=>e = .returned (.bool b) ∧ Below w.heap.size w w':=by
 have hu:=Tryz.underlying69
 obtain ⟨A',c',B',d',e,k1,k2,k3,k4⟩:=ratK_form hr
 simp only [List.cons.injEq,Value.slice.injEq,and_true,true_and] at e
 obtain ⟨⟨rfl,rfl⟩,rfl,rfl⟩:=e
 have HRK:=Aside0.mk hr
 have HR:=Aside0.mk k2
 have HR':=Aside0.mk k4
 clear hr k1 k2 k3 k4
 have HB0:=Aside0.mk (below_alloc (Below.refl w.heap.size w) (.cells #[.bool s,.slice A l.length c,.slice B l'.length d] 69))
 have HX0:=Aside0.mk (Blk.new w 69 #[.bool s,.slice A l.length c,.slice B l'.length d])
 have H1:=Aside0.mk h1
 have H2:=Aside0.mk h2
 have HSM:=Aside0.mk hsm
 have HBB:=Aside0.mk hbb
 have HP:=Aside0.mk (And.intro (plainB_iff.1 h1) (plainB_iff.1 h2))
 clear h1 h2 hsm hbb
 go_enter Tryz.func65,Tryz.ntmps65
 go_wp2_with fail
 refine (l1Plain_calls _ _ l true _ (Kd.C_below HR.out HB0.out) H1.out).mono ?_
 rintro e w1 ⟨rfl,hb⟩
 have HB1:=Aside0.mk (HB0.out.trans (hb.mono HB0.out.size))
 have HX1:=Aside0.mk (HX0.out.below hb HX0.out.lt)
 obtain ⟨x0,x1,x2⟩:=box3 HX1.out
 clear hb
 go_wp2_with fail
 refine (l1Plain_calls _ _ l' true _ (Kd.C_below HR'.out HB1.out) H2.out).mono ?_
 rintro e w2 ⟨rfl,hb⟩
 have HB2:=Aside0.mk (HB1.out.trans (hb.mono HB1.out.size))
 have HX2:=Aside0.mk (HX1.out.below hb HX1.out.lt)
 clear x0 x1 x2
 obtain ⟨x0,x1,x2⟩:=box3 HX2.out
 clear hb
 go_wp2_with fail
 refine (l1IsSmall_calls A B c d ⟨s,l,l'⟩ false _ (ratK.K_below HB2.out HRK.out) hl hl' HSM.out).mono ?_
 rintro e w3 ⟨rfl,hb⟩
 have HB3:=Aside0.mk (HB2.out.trans (hb.mono HB2.out.size))
 have HX3:=Aside0.mk (HX2.out.below hb HX2.out.lt)
 clear x0 x1 x2
 obtain ⟨x0,x1,x2⟩:=box3 HX3.out
 have hBW:=Below.refl w3.heap.size w3
 have H6:Aside0 (∀ w',Below w3.heap.size w3 w' → Below w3.heap.size w3 w' ∧ w'.cell? ⟨w.heap.size,1,none⟩ = some (.slice A l.length c) ∧ w'.cell? ⟨w.heap.size,2,none⟩ = some (.slice B l'.length d)):=⟨fun w' h=>⟨h,pw_cell_below h x1,pw_cell_below h x2⟩⟩
 have C1:Aside0 (∀ w',Below w3.heap.size w3 w' → (Kd.int .u32).C w' A l.length l):=⟨fun w' h=>Kd.C_below (Kd.C_below HR.out HB3.out) h⟩
 have C2:Aside0 (∀ w',Below w3.heap.size w3 w' → (Kd.int .u32).C w' B l'.length l'):=⟨fun w' h=>Kd.C_below (Kd.C_below HR'.out HB3.out) h⟩
 have b1:=bin_val_length hl
 have b2:=bin_val_length hl'
 have hcb:((cmpN (bval (bin (Nat.gcd (bval (bin (val l))) (bval (bin (val l')))))) (bval (bin 1))) == 0) = b:=by
  rw [bval_bin,bval_bin,bval_bin,bval_bin,← HBB.out]
  exact cmpN_zero _ _
 clear hb x0
 go_wp2_with fail
 go_region_held3 (fun w'=>Below w3.heap.size w3 w' ∧ w'.cell? ⟨w.heap.size,1,none⟩ = some (.slice A l.length c) ∧ w'.cell? ⟨w.heap.size,2,none⟩ = some (.slice B l'.length d))
  ((refine H6.out _ ?_;first | assumption | exact below_drew hBW | (apply heldB;assumption;assumption)))
  (first | (go_at_call_of 100 (Value.slice A l.length c);(with_reducible refine (l1BitsX _ _ l _ (C1.out _ ?_) hl (by omega)).mono ?_);(apply And.left;assumption);rintro e wa ⟨Aa,ca,rfl,hoa,hba⟩) | (go_at_call_of 100 (Value.slice B l'.length d);(with_reducible refine (l1BitsX _ _ l' _ (C2.out _ ?_) hl' (by omega)).mono ?_);(apply And.left;assumption);rintro e wb ⟨Ab,cb,rfl,hob,hbb⟩) | (go_at_call 99;(with_reducible refine (l1GcdBits_calls _ _ _ _ (bin (val l)) (bin (val l')) _ (Kd.C_below (Kd.R_reads' hoa).2.2 hbb) (Kd.R_reads' hob).2.2 (Kd.R_reads' hoa).2.1 (Kd.R_reads' hob).2.1 (by omega) (by omega) (bplain_bin _) (bplain_bin _)).mono ?_);rintro e wc ⟨Ac,cc,rfl,hcc,hoc,hbc⟩) | (go_at_call 101;(with_reducible refine (l1BitsOf_one _).mono ?_);rintro e wd ⟨Ad,cd,rfl,hod,hbd⟩) | (go_at_call 98;(with_reducible refine (l1CmpBits_calls _ _ _ _ _ _ _ (Kd.C_below hoc hbd) (Kd.R_reads' hod).2.2 (bplain_bin _) (bplain_bin _)).mono ?_);rintro e we ⟨rfl,hde⟩;have hbe:=heldB (W:=w3) (P:=True) ⟨heldB (W:=w3) (P:=True) ⟨heldB (W:=w3) (P:=True) ⟨heldB (W:=w3) (P:=True) ⟨heldB (W:=w3) (P:=True) ⟨below_drew hBW,trivial⟩ hba,trivial⟩ hbb,trivial⟩ hbc,trivial⟩ hbd,trivial⟩ hde.below))
 go_wp2
 go_ret
 have hsz:=HB3.out.size
 exact ⟨rfl,HB3.out.trans (Below.mono (by assumption) hsz)⟩
theorem spec_RatOk_calls (A B:Option Addr) (c d:Nat) (r:Rt) (b:Bool) (w:World) (hr:ratK.K w r [.bool r.neg,.slice A r.num.length c,.slice B r.den.length d])
  (hl:Limbs r.num) (hl':Limbs r.den) (hn:r.num.length ≤ 274877906944) (hn':r.den.length ≤ 274877906944) (hb:okR r = b) :
  Calls Tryz.prog 65 #[.agg #[.bool r.neg,.slice A r.num.length c,.slice B r.den.length d]] w fun e w'=>e = .returned (.bool b) ∧ Below w.heap.size w w':=by
 obtain ⟨s,l,l'⟩:=r
 unfold okR at hb
 simp only at hr hl hl' hn hn' hb ⊢
 cases h1:plainB l with
 | false =>
  rw [h1] at hb
  simp only [Bool.false_and] at hb
  subst hb
  exact spok_n A B c d s l l' true w hr hl hl' hn hn' h1
 | true =>
  cases h2:plainB l' with
  | false =>
   rw [h1,h2] at hb
   simp only [Bool.false_and,Bool.true_and] at hb
   subst hb
   exact spok_d A B c d s l l' true w hr hl hl' hn hn' h1 h2
  | true =>
   rw [h1,h2,Bool.true_and,Bool.true_and] at hb
   rcases Nat.eq_zero_or_pos l'.length with h0 | h0
   ·have hbf:b = false:=by rw [← hb];simp [h0]
    subst hbf
    exact spok_z A B c d s l l' true w hr hl hl' hn hn' h1 h2 (by rw [beq_iff_eq];omega)
   have hd:((l'.length:Int) == 0) = false:=by rw [beq_eq_false_iff_ne];omega
   rw [show decide (l'.length ≠ 0) = true from decide_eq_true (by omega),Bool.true_and] at hb
   rcases Nat.eq_zero_or_pos l.length with h5 | h5
   ·have hd5:((l.length:Int) == 0) = true:=by rw [beq_iff_eq];omega
    cases s
    ·have hbb:decide (Nat.gcd (val l) (val l') = 1) = b:=by rw [← hb];simp
     cases hsm:smallR ⟨false,l,l'⟩ with
     | false=>exact spok_b0 A B c d l l' b w hr hl hl' hn hn' h1 h2 hd hd5 hsm hbb
     | true=>exact spok_s0 A B c d l l' b w hr hl hl' hn hn' h1 h2 hd hd5 hsm hbb
    ·have hbf:b = false:=by rw [← hb];simp [h5]
     subst hbf
     exact spok_m A B c d l l' true w hr hl hl' hn hn' h1 h2 hd hd5
   ·have hd5:((l.length:Int) == 0) = false:=by rw [beq_eq_false_iff_ne];omega
    have hbb:decide (Nat.gcd (val l) (val l') = 1) = b:=by rw [← hb,show decide (l.length ≠ 0) = true from decide_eq_true (by omega)];simp
    cases hsm:smallR ⟨s,l,l'⟩ with
    | false=>exact spok_b1 A B c d s l l' b w hr hl hl' hn hn' h1 h2 hd hd5 hsm hbb
    | true=>exact spok_s1 A B c d s l l' b w hr hl hl' hn hn' h1 h2 hd hd5 hsm hbb
end Go.Proofs.YtijldkknhphgcaaGreat.Hand
end

section
/- The numbers' contracts, as the views have them. The conditions stand with each. -/
set_option linter.unusedVariables false
set_option linter.unusedSimpArgs false
namespace Go.Proofs.YtijldkknhphgcaaGreat.Pv
open Go.RowKit Go.Proofs.YtijldkknhphgcaaGreatW.PrintWords
theorem scal_C {α:Type} (enc:α → Value) (h1:∀ x,(enc x).oneCell' = true) {m:M} {l:List α} {v:Value} (h:RelD m (.li none 1 (l.map fun x=>[.v (enc x)])) v) (hl:l.length ≤ 9223372036854775807) :
  ∃ A c,v = .slice A l.length c ∧ l.length ≤ c ∧ (Kd.scalar enc h1).C m.w A l.length l:=by
 generalize hr:(l.map fun x=>[D.v (enc x)]) = rows at h
 cases h with
 | nil tk sz a c =>
  have:l = []:=by simpa using hr
  subst this
  exact ⟨a,c,rfl,Nat.zero_le _,rfl,by simp,fun h=>absurd h (Nat.lt_irrefl _)⟩
 | li tk sz rows blk off c vs hok hc hr' hl' =>
  have hlen:rows.length = l.length:=by rw [← hr];simp
  refine ⟨some ⟨blk,off,none⟩,c,by rw [hlen],by omega,rfl,hl,fun _=>⟨_,rfl,fun j p hp=>⟨[enc p],rfl,rfl,fun i u hu=>?_⟩⟩⟩
  cases i with
  | succ i=>cases hu
  | zero =>
   cases hu
   have h2:cellAt rows j 0 = some (.v (enc p)):=by
    unfold cellAt
    rw [← hr,List.getElem?_map,hp]
    rfl
   have h3:=hc j 0 _ h2
   have h4:=hr' j 0 _ h2
   generalize vs j 0 = u at h3 h4
   cases h4 with
   | v _ h5 =>
    rw [add_plain]
    exact h3
def ints (l:List Nat):List Int:=l.map fun (x:Nat)=>(x:Int)
theorem ints_len (l:List Nat):(ints l).length = l.length:=by simp [ints]
theorem limR_ints (l:List Nat):limR l = .li none 1 ((ints l).map fun x=>[.v (.int .u32 x)]):=by simp [limR,ints]
theorem limbs_ints {l:List Nat} (h:Lok l):Hand.Limbs (ints l):=by
 intro x hx
 obtain ⟨n,hn,rfl⟩:=List.mem_map.1 hx
 have:=h.1 n hn
 omega
theorem lim_C {m:M} {l:List Nat} {v:Value} (h:RelD m (limR l) v) (hl:Lok l):∃ A c,v = .slice A (ints l).length c ∧ (ints l).length ≤ c ∧ (Kd.int .u32).C m.w A (ints l).length (ints l):=by
 rw [limR_ints] at h
 exact scal_C _ _ h (by rw [ints_len];have:=hl.2;omega)
def tR (g:RtD):Hand.Rt:=⟨g.1,ints g.2.1,ints g.2.2⟩
theorem good_R {g:RtD} (h:Rok g):Hand.goodR (tR g) = true:=Hand.goodR_iff.2 ⟨limbs_ints h.1,limbs_ints h.2⟩
theorem rat_v {m:M} {g:RtD} {us:List Value} {v:Value} (h:RelDL m (rowR g) us) (hv:mkV true us = some v) (hr:Rok g) :
  ∃ A c B d,v = .agg #[.bool (tR g).neg,.slice A (tR g).num.length c,.slice B (tR g).den.length d] ∧ (tR g).num.length ≤ c ∧ (Kd.int .u32).C m.w A (tR g).num.length (tR g).num ∧ (tR g).den.length ≤ d ∧ (Kd.int .u32).C m.w B (tR g).den.length (tR g).den:=by
 obtain ⟨h1,h2⟩:=h
 match us,h1 with
 | [a,b,c],_ =>
  have ha:=h2 0 _ a rfl rfl
  obtain ⟨A,n,rfl,h3,h4⟩:=lim_C (h2 1 _ b rfl rfl) hr.1
  obtain ⟨B,k,rfl,h5,h6⟩:=lim_C (h2 2 _ c rfl rfl) hr.2
  cases ha with
  | v _ _ =>
  cases hv
  exact ⟨A,n,B,k,rfl,h3,h4,h5,h6⟩
theorem args1 {m:M} {d:Bool × List D} {vs:List Value} (h:argsRel m [d] vs):∃ v us,vs = [v] ∧ RelDL m d.2 us ∧ mkV d.1 us = some v:=by
 obtain ⟨h1,h2⟩:=h
 match vs,h1 with
 | [v],_ =>
  obtain ⟨us,h3,h4⟩:=h2 0 _ v rfl rfl
  exact ⟨v,us,rfl,h3,h4⟩
theorem rat_arg {m:M} {g:RtD} {vs:List Value} (h:argsRel m [(true,rowR g)] vs) (hr:Rok g) :
  ∃ A c B d,vs = [.agg #[.bool (tR g).neg,.slice A (tR g).num.length c,.slice B (tR g).den.length d]] ∧ (tR g).num.length ≤ c ∧ (Kd.int .u32).C m.w A (tR g).num.length (tR g).num ∧ (tR g).den.length ≤ d ∧ (Kd.int .u32).C m.w B (tR g).den.length (tR g).den:=by
 obtain ⟨v,us,rfl,h1,h2⟩:=args1 h
 obtain ⟨A,c,B,d,rfl,h3⟩:=rat_v h1 h2 hr
 exact ⟨A,c,B,d,rfl,h3⟩
def rokF (g:RtD):Bool:=Hand.okR (tR g)
theorem relX_sc {e:E} {x:Value} (h:x.oneCell' = true):RelX e (.one (.p false [.v x])) x :=
 ⟨[x],⟨rfl,fun i d u hd hu=>by
  cases i with
  | zero=>cases hd;cases hu;exact .v _ h
  | succ i=>cases hd⟩,rfl⟩
theorem ratOk_valid:Valid Tryz.prog 71 (rokCon rokF):=by
 refine ⟨⟨_,Tryz.func71,rfl,rfl⟩,fun (g:RtD) (hp:Rok g) nm w ok tk0 vs hok _ hargs=>?_⟩
 obtain ⟨A,c,B,d,rfl,h1,h2,h3,h4⟩:=rat_arg hargs hp
 have l1:=hp.1.2
 have l2:=hp.2.2
 have e1:(tR g).num.length = g.2.1.length:=ints_len _
 have e2:(tR g).den.length = g.2.2.length:=ints_len _
 refine (Hand.RatOk_calls A B c d (tR g) (rokF g) w h2 h1 h4 h3 (limbs_ints hp.1) (limbs_ints hp.2) (by omega) (by omega) rfl).mono ?_
 rintro e w' ⟨rfl,hb⟩
 exact ⟨_,TK.no,rfl,hb,relX_sc rfl⟩
theorem specRatOk_valid:Valid Tryz.prog 65 (rokCon rokF):=by
 refine ⟨⟨_,Tryz.func65,rfl,rfl⟩,fun (g:RtD) (hp:Rok g) nm w ok tk0 vs hok _ hargs=>?_⟩
 obtain ⟨A,c,B,d,rfl,h1,h2,h3,h4⟩:=rat_arg hargs hp
 have l1:=hp.1.2
 have l2:=hp.2.2
 have e1:(tR g).num.length = g.2.1.length:=ints_len _
 have e2:(tR g).den.length = g.2.2.length:=ints_len _
 refine (Hand.spec_RatOk_calls A B c d (tR g) (rokF g) w (Hand.ratK_of h1 h2 h3 h4) (limbs_ints hp.1) (limbs_ints hp.2) (by omega) (by omega) rfl).mono ?_
 rintro e w' ⟨rfl,hb⟩
 exact ⟨_,TK.no,rfl,hb,relX_sc rfl⟩
end Go.Proofs.YtijldkknhphgcaaGreat.Pv
end

section
/- Plain facts on decimal digits: the digits of a natural, their value, padding, trimming, and its text. Conditions: none; nothing of the program stands here. -/
set_option linter.unusedVariables false
set_option linter.unusedSimpArgs false
namespace Go.Proofs.YtijldkknhphgcaaGreat.Hand
open Go.RowKit Go.Proofs.YtijldkknhphgcaaGreatW.PrintWords
def Digits (l:List Int):Prop:=∀ x ∈ l,0 ≤ x ∧ x ≤ 9
theorem Digits.tail {x:Int} {xs:List Int} (h:Digits (x :: xs)):Digits xs:=fun y hy=>h y (List.mem_cons_of_mem _ hy)
theorem Digits.head {x:Int} {xs:List Int} (h:Digits (x :: xs)):0 ≤ x ∧ x ≤ 9:=h x List.mem_cons_self
theorem Digits.append {a b:List Int} (ha:Digits a) (hb:Digits b):Digits (a ++ b):=fun y hy=>by
 rcases List.mem_append.1 hy with hy | hy
 ·exact ha y hy
 ·exact hb y hy
theorem Digits.set {a:List Int} (ha:Digits a) (i:Nat) {x:Int} (hx:0 ≤ x ∧ x ≤ 9):Digits (a.set i x):=fun y hy=>by
 rcases List.mem_or_eq_of_mem_set hy with hy | rfl
 ·exact ha y hy
 ·exact hx
end Go.Proofs.YtijldkknhphgcaaGreat.Hand
end

section
/- The product of two rationals. Conditions: both can be read, and have at most 2^38 limbs each. -/
set_option linter.unusedVariables false
set_option linter.unusedSimpArgs false
namespace Go.Proofs.YtijldkknhphgcaaGreat.Hand
open Go.RowKit Go.Proofs.YtijldkknhphgcaaGreatW.PrintWords Go.Proofs.YtijldkknhphgcaaGreatW.PrintLast Go.Proofs.YtijldkknhphgcaaGreatW.PrintMore
theorem rat_num {w:World} {r:Rt} {s:Bool} {A B:Option Addr} {n c m d:Nat} (h:ratK.K w r [.bool s,.slice A n c,.slice B m d]):natK.K w r.num [.slice A n c]:=by
 obtain ⟨A',c',B',d',e,h1,h2,h3,h4⟩:=ratK_form h
 injection e with e0 e
 injection e with e1 e
 rw [e1]
 exact natK_of h1 h2
theorem rat_den {w:World} {r:Rt} {s:Bool} {A B:Option Addr} {n c m d:Nat} (h:ratK.K w r [.bool s,.slice A n c,.slice B m d]):natK.K w r.den [.slice B m d]:=by
 obtain ⟨A',c',B',d',e,h1,h2,h3,h4⟩:=ratK_form h
 injection e with e0 e
 injection e with e1 e
 injection e with e2 e
 rw [e2]
 exact natK_of h3 h4
def szR (q:Rat):Nat:=(repr q).num.length + (repr q).den.length
def MulOk (w:World) (A:Option Addr) (n c:Nat) (l:List Int):Prop:=natK.K w l [.slice A n c] ∧ Limbs l ∧ l.length ≤ 1099511627776
theorem mulX (A A':Option Addr) (n n' c c':Nat) (w:World) (l l':List Int) (h:MulOk w A n c l) (h':MulOk w A' n' c' l') :
  Calls Tryz.prog 73 #[.slice A n c,.slice A' n' c'] w fun e w'=>∃ A1 c1,e = .returned (.slice A1 (lim (val l * val l')).length c1) ∧ (Kd.int .u32).R 134 w' w.heap.size (fun _=>True) (.slice A1 (lim (val l * val l')).length c1) (lim (val l * val l')) ∧ Below w.heap.size w w':=by
 obtain ⟨⟨B,d,e,hc,h⟩,hl,hn⟩:=h
 obtain ⟨⟨B',d',e',hc',h'⟩,hl',hn'⟩:=h'
 injection e with e _
 injection e with e1 e2 e3
 injection e' with e' _
 injection e' with e1' e2' e3'
 subst e1 e2 e3 e1' e2' e3'
 refine (mul_calls _ _ _ _ l l' w h hc h' hc' hl hl' hn hn').mono ?_
 rintro e w' ⟨v,rfl,ho,hb⟩
 obtain ⟨A1,c1,rfl⟩:=Kd.R_slice ho
 exact ⟨A1,c1,rfl,ho,hb⟩
theorem two_rows {wn wd:World} {b1 b2 base:Nat} {v v':Value} {l l':List Int} (s:Bool) (h1:(Kd.int .u32).R 134 wn b1 (fun _=>True) v l) (h2:(Kd.int .u32).R 134 wd b2 (fun _=>True) v' l') (hb:Below wn.heap.size wn wd) (h12:wn.heap.size ≤ b2) (ha:base ≤ b1) (ha':base ≤ b2) :
  ratK.M wd base (fun k=>(b1 ≤ k ∧ k < wn.heap.size) ∨ b2 ≤ k) ⟨s,l,l'⟩ [.bool s,v,v']:=by
 have g1:=Kd.R_lower (Kd.R_below (Kd.R_mono (Kd.R_bound h1) (ok':=fun k=>b1 ≤ k ∧ k < wn.heap.size) (fun k hk=>⟨hk.2.1,hk.2.2.1⟩)) hb) ha
 have g2:=Kd.R_lower (Kd.R_mono (Kd.R_bound h2) (ok':=fun k=>b2 ≤ k) (fun k hk=>hk.2.1)) ha'
 exact ratK_made (Kd.R_mono g1 (fun k hk=>.inl hk)) g2 (fun k hk=>⟨.inr hk,fun e=>by have:=(g1.1 k e.symm).2;omega⟩)
end Go.Proofs.YtijldkknhphgcaaGreat.Hand
end

section
/- The document's l1Make and l1MakeSmall: the valid rational of a fraction. Conditions: the bit lists can be read, have no zero bit at the end and at most 2^44 bits; machine numbers have 64 bits; the denominator is not zero. -/
set_option linter.unusedVariables false
set_option linter.unusedSimpArgs false
namespace Go.Proofs.YtijldkknhphgcaaGreat.Hand
open Go.RowKit Go.Proofs.YtijldkknhphgcaaGreatW.PrintWords Go.Proofs.YtijldkknhphgcaaGreatW.PrintLast Go.Proofs.YtijldkknhphgcaaGreatW.PrintMore
theorem rat_post2 {w0 w:World} {s:Bool} {l l':List Int} {A B:Option Addr} {c d:Nat} {q:Rat} (hq:repr q = ⟨s,l,l'⟩) (hM:ratK.M w w0.heap.size (fun _=>True) ⟨s,l,l'⟩ [.bool s,.slice A l.length c,.slice B l'.length d]) (hB:Below w0.heap.size w0 w) :
  RatPost w0 q (.returned (.agg #[.bool s,.slice A l.length c,.slice B l'.length d])) w:=by
 unfold RatPost
 rw [hq]
 exact ⟨A,c,B,d,rfl,hM,hB⟩
theorem toNat_ediv {x g:Int} {n:Nat} (hx:0 ≤ x) (hg:g = (n:Int)):(x / g).toNat = x.toNat / n:=by
 subst hg
 obtain ⟨m,rfl⟩:=Int.eq_ofNat_of_zero_le hx
 rw [← Int.natCast_ediv]
 rfl
theorem heldM {W wv wz:World} {q:Rt} {cs:List Value} (hM:ratK.M wz wv.heap.size (fun _=>True) q cs) (hv:Below W.heap.size W wv) (hz:Below W.heap.size W wz):ratK.M wz W.heap.size (fun k=>W.heap.size ≤ k) q cs ∧ Below W.heap.size W wz:=⟨ratK.M_lower hv.size (ratK.M_mono (fun k hk=>Nat.le_trans hv.size hk.2.1) (ratK.M_bound hM)),hz⟩
theorem heldB2 {W w1 w2:World} (h:Below W.heap.size W w1) (hb:Below w1.heap.size w1 w2):Below W.heap.size W w2:=h.trans (hb.mono h.size)
theorem l1LimbsX (A:Option Addr) (c:Nat) (x:Nat) (w:World) (hr:Kd.bool.C w A (bin x).length (bin x)) (hc:(bin x).length ≤ c) (hn:(bin x).length ≤ 70368744177664) :
  Calls Tryz.prog 140 #[.slice A (bin x).length c] w fun e w'=>∃ A1 c1,e = .returned (.slice A1 (lim x).length c1) ∧ (Kd.int .u32).R 134 w' w.heap.size (fun _=>True) (.slice A1 (lim x).length c1) (lim x) ∧ Below w.heap.size w w':=by
 refine (l1Limbs_calls A c (bin x) w hr hc hn).mono ?_
 rintro e w' ⟨v,rfl,ho,hb⟩
 rw [bval_bin] at ho
 obtain ⟨A1,c1,rfl⟩:=Kd.R_slice ho
 exact ⟨A1,c1,rfl,ho,hb⟩
theorem l1DivX (A A':Option Addr) (c c':Nat) (x y:Nat) (w:World) (hr:Kd.bool.C w A (bin x).length (bin x)) (hr':Kd.bool.C w A' (bin y).length (bin y)) (hn:(bin x).length ≤ 17592186044416) (hn':(bin y).length ≤ 17592186044416) (hy:y ≠ 0) :
  Calls Tryz.prog 139 #[.slice A (bin x).length c,.slice A' (bin y).length c'] w fun e w'=>∃ A1 c1 A2 c2,e = .returned (.tuple #[.slice A1 (bin (x / y)).length c1,.slice A2 (bin (x % y)).length c2]) ∧ (bin (x / y)).length ≤ c1 ∧ Kd.bool.C w' A1 (bin (x / y)).length (bin (x / y)) ∧ Below w.heap.size w w':=by
 refine (l1DivBits_calls A A' c c' (bin x) (bin y) w hr hr' (by omega) hn' (bplain_bin _) (fun h=>hy (bin_nil_iff.1 h))).mono ?_
 rintro e w' ⟨v1,v2,rfl,h1,h2,hb⟩
 rw [bval_bin,bval_bin] at h1 h2
 obtain ⟨A1,c1,rfl⟩:=Kd.R_slice h1
 obtain ⟨A2,c2,rfl⟩:=Kd.R_slice h2
 exact ⟨A1,c1,A2,c2,rfl,(Kd.R_reads' h1).2.1,(Kd.R_reads' h1).2.2,hb⟩
theorem bin_le' {x y n:Nat} (h:x ≤ y) (hn:(bin y).length ≤ n):(bin x).length ≤ n:=bin_le h hn
set_option maxHeartbeats 1000000 in
set_option maxRecDepth 100000 in
theorem make_zero (s:Bool) (y:Nat) (A A':Option Addr) (c c' m:Nat) (w:World) :
  Calls Tryz.prog 121 #[.bool s,.slice A 0 c,.slice A' m c'] w (RatPost w (mkRat (sgn s 0) y)):=by
 have hu:=Tryz.underlying69
 rw [sgn_zero,Rat.zero_mkRat]
 go_enter Tryz.func121,Tryz.ntmps121
 go_wp2_with fail
 have f0:=Blk.new w 69 #[.bool false,.slice none 0 0,.slice none 0 0]
 have fb:=below_alloc (Below.refl w.heap.size w) (.cells #[.bool false,.slice none 0 0,.slice none 0 0] 69)
 generalize (w.alloc (.cells #[.bool false,.slice none 0 0,.slice none 0 0] 69)) = W at f0 fb ⊢
 have HF0:=Aside0.mk f0
 have HFB:=Aside0.mk fb
 clear f0 fb
 refine (l1Zero_calls _).mono ?_
 rintro e w1 ⟨A3,c3,B3,d3,rfl,hM,hb⟩
 have HM:=Aside0.mk (Kd.M_mono _ (ok':=fun k=>W.heap.size ≤ k) (fun k hk=>hk.2.1) (ratK.M_bound hM))
 have HB3:=Aside0.mk (HFB.out.trans (hb.mono HFB.out.size))
 have HRC:=Aside0.mk (HF0.out.below hb HF0.out.lt)
 have hlt:=HF0.out.lt
 obtain ⟨⟨z0,z1,z2⟩,q0,q1,q2⟩:=bfacts HRC.out
 clear hb hM
 go_wp2
 refine bodyPost_ret (ret_rat Tryz.results121 _ _ w.heap.size _ _ _ rfl (store3 HRC.out)) rfl ?_
 exact ⟨_,_,_,_,rfl,Kd.M_mono _ (fun _ _=>trivial) (far3 (ratK.M_lower HFB.out.size HM.out) (fun k hk=>by omega)),below3 HB3.out (Nat.le_refl _)⟩
set_option maxHeartbeats 1000000 in
set_option maxRecDepth 100000 in
theorem make_pos (s:Bool) (x y:Nat) (A A':Option Addr) (c c':Nat) (w:World) (hr:Kd.bool.C w A (bin x).length (bin x)) (hr':Kd.bool.C w A' (bin y).length (bin y)) (hc:(bin x).length ≤ c) (hc':(bin y).length ≤ c') (hn:(bin x).length ≤ 17592186044416) (hn':(bin y).length ≤ 17592186044416) (hx:x ≠ 0) (hy:y ≠ 0) :
  Calls Tryz.prog 121 #[.bool s,.slice A (bin x).length c,.slice A' (bin y).length c'] w (RatPost w (mkRat (sgn s x) y)):=by
 have hu:=Tryz.underlying69
 have HR:=Aside0.mk hr
 have HR':=Aside0.mk hr'
 have HC:=Aside0.mk (And.intro hc hc')
 have HXY:=Aside0.mk (And.intro hx hy)
 have h0:(bin x).length ≠ 0:=fun h=>hx (bin_nil_iff.1 (List.length_eq_zero_iff.1 h))
 have d0:(((bin x).length:Int) == 0) = false:=by rw [beq_eq_false_iff_ne];omega
 obtain ⟨g,hg⟩:∃ g,g = Nat.gcd x y:=⟨_,rfl⟩
 have hgx:g ≤ x:=by rw [hg];exact Nat.gcd_le_left y (Nat.pos_of_ne_zero hx)
 have hg0:g ≠ 0:=by rw [hg];exact Nat.ne_of_gt (Nat.gcd_pos_of_pos_left y (Nat.pos_of_ne_zero hx))
 have l1:(bin g).length ≤ 17592186044416:=bin_le' hgx hn
 have l2:(bin (x / g)).length ≤ 17592186044416:=bin_le' (Nat.div_le_self _ _) hn
 have l3:(bin (y / g)).length ≤ 17592186044416:=bin_le' (Nat.div_le_self _ _) hn'
 have HG:=Aside0.mk hg
 have HL:=Aside0.mk (And.intro l1 (And.intro l2 (And.intro l3 hg0)))
 clear hr hr' hc hc' hx hy h0 hg hgx hg0 l1 l2 l3
 go_enter Tryz.func121,Tryz.ntmps121
 go_wp2_with fail
 have f0:=Blk.new w 69 #[.bool false,.slice none 0 0,.slice none 0 0]
 have fb:=below_alloc (Below.refl w.heap.size w) (.cells #[.bool false,.slice none 0 0,.slice none 0 0] 69)
 generalize (w.alloc (.cells #[.bool false,.slice none 0 0,.slice none 0 0] 69)) = W at f0 fb ⊢
 have HF0:=Aside0.mk f0
 have HFB:=Aside0.mk fb
 clear f0 fb
 refine (l1GcdBits_calls _ _ _ _ (bin x) (bin y) _ (Kd.C_below HR.out HFB.out) (Kd.C_below HR'.out HFB.out) HC.out.1 HC.out.2 hn hn' (bplain_bin _) (bplain_bin _)).mono ?_
 rintro e w1 ⟨A1,c1,rfl,hc1,hC,hb⟩
 rw [bval_bin,bval_bin,← HG.out] at hc1 hC ⊢
 have HB1:=Aside0.mk (HFB.out.trans (hb.mono HFB.out.size))
 have HG1:=Aside0.mk hC
 have HX1:=Aside0.mk (HF0.out.below hb HF0.out.lt)
 have HS1:=Aside0.mk hb.size
 clear hb hC hc1
 go_wp2_with fail
 refine (l1DivX _ _ _ _ x g _ (Kd.C_below HR.out HB1.out) HG1.out hn HL.out.1 HL.out.2.2.2).mono ?_
 rintro e w2 ⟨A2,c2,A3,c3,rfl,hc2,hC,hb⟩
 have HB2:=Aside0.mk (HB1.out.trans (hb.mono HB1.out.size))
 have HG2:=Aside0.mk (Kd.C_below HG1.out hb)
 have HQ2:=Aside0.mk hC
 have HQC:=Aside0.mk hc2
 have HX2:=Aside0.mk (HX1.out.below hb HX1.out.lt)
 have HS2:=Aside0.mk (Nat.le_trans HS1.out hb.size)
 clear hb hC hc2 HG1 HX1 HS1
 go_wp2_with fail
 refine (l1DivX _ _ _ _ y g _ (Kd.C_below HR'.out HB2.out) HG2.out hn' HL.out.1 HL.out.2.2.2).mono ?_
 rintro e w3 ⟨A4,c4,A5,c5,rfl,hc4,hC,hb⟩
 have HB3:=Aside0.mk (HB2.out.trans (hb.mono HB2.out.size))
 have HQ3:=Aside0.mk (Kd.C_below HQ2.out hb)
 have HD3:=Aside0.mk hC
 have HDC:=Aside0.mk hc4
 have HX3:=Aside0.mk (HX2.out.below hb HX2.out.lt)
 have HS3:=Aside0.mk (Nat.le_trans HS2.out hb.size)
 clear hb hC hc4 HG2 HX2 HS2 HQ2
 go_wp2_with fail
 refine (l1LimbsX _ _ (x / g) _ HQ3.out HQC.out (by have:=HL.out.2.1;omega)).mono ?_
 rintro e w4 ⟨A6,c6,rfl,ho,hb⟩
 have HB4:=Aside0.mk (HB3.out.trans (hb.mono HB3.out.size))
 have HO4:=Aside0.mk ho
 have HD4:=Aside0.mk (Kd.C_below HD3.out hb)
 have HX4:=Aside0.mk (HX3.out.below hb HX3.out.lt)
 have HS4:=Aside0.mk (Nat.le_trans HS3.out hb.size)
 clear hb ho HD3 HX3 HQ3
 go_wp2_with fail
 refine (l1LimbsX _ _ (y / g) _ HD4.out HDC.out (by have:=HL.out.2.2.1;omega)).mono ?_
 rintro e w5 ⟨A7,c7,rfl,ho,hb⟩
 have HB5:=Aside0.mk (HB4.out.trans (hb.mono HB4.out.size))
 have HX5:=Aside0.mk (HX4.out.below hb HX4.out.lt)
 have HM:=Aside0.mk (two_rows (base:=w.heap.size) s HO4.out ho hb (Nat.le_refl _) HB3.out.size HB4.out.size)
 obtain ⟨⟨z0,z1,z2⟩,q0,q1,q2⟩:=bfacts HX5.out
 have hw3:w.heap.size < w3.heap.size:=Nat.lt_of_lt_of_le HF0.out.lt HS3.out
 have hs4:=HS4.out
 clear hb ho HD4 HO4 HX4
 go_wp2
 refine bodyPost_ret (ret_rat Tryz.results121 _ _ w.heap.size _ _ _ rfl (store3 HX5.out)) rfl ?_
 refine rat_post2 (by rw [repr_norm s HXY.out.1 HXY.out.2,← HG.out]) (Kd.M_mono _ (fun _ _=>trivial) (far3 HM.out (fun k hk=>by have:=HF0.out.lt;omega))) (below3 HB5.out (Nat.le_refl _))
theorem l1Make_calls (s:Bool) (x y:Nat) (A A':Option Addr) (c c':Nat) (w:World) (hr:Kd.bool.C w A (bin x).length (bin x)) (hr':Kd.bool.C w A' (bin y).length (bin y)) (hc:(bin x).length ≤ c) (hc':(bin y).length ≤ c') (hn:(bin x).length ≤ 17592186044416) (hn':(bin y).length ≤ 17592186044416) (hy:y ≠ 0) :
  Calls Tryz.prog 121 #[.bool s,.slice A (bin x).length c,.slice A' (bin y).length c'] w (RatPost w (mkRat (sgn s x) y)):=by
 by_cases hx:x = 0
 ·subst hx
  rw [bin_zero]
  exact make_zero s y A A' c c' _ w
 ·exact make_pos s x y A A' c c' w hr hr' hc hc' hn hn' hx hy
set_option maxHeartbeats 1000000 in
set_option maxRecDepth 100000 in
theorem small_zero (s:Bool) (y:Int) (Y:Nat) (w:World) :
  Calls Tryz.prog 120 #[.bool s,.int .u64 0,.int .u64 y] w (RatPost w (mkRat (sgn s 0) Y)):=by
 have hu:=Tryz.underlying69
 rw [sgn_zero,Rat.zero_mkRat]
 go_enter Tryz.func120,Tryz.ntmps120
 go_wp2_with fail
 have f0:=Blk.new w 69 #[.bool false,.slice none 0 0,.slice none 0 0]
 have fb:=below_alloc (Below.refl w.heap.size w) (.cells #[.bool false,.slice none 0 0,.slice none 0 0] 69)
 generalize (w.alloc (.cells #[.bool false,.slice none 0 0,.slice none 0 0] 69)) = W at f0 fb ⊢
 have HF0:=Aside0.mk f0
 have HFB:=Aside0.mk fb
 clear f0 fb
 refine (l1Zero_calls _).mono ?_
 rintro e w1 ⟨A3,c3,B3,d3,rfl,hM,hb⟩
 have HM:=Aside0.mk (Kd.M_mono _ (ok':=fun k=>W.heap.size ≤ k) (fun k hk=>hk.2.1) (ratK.M_bound hM))
 have HB3:=Aside0.mk (HFB.out.trans (hb.mono HFB.out.size))
 have HRC:=Aside0.mk (HF0.out.below hb HF0.out.lt)
 have hlt:=HF0.out.lt
 obtain ⟨⟨z0,z1,z2⟩,q0,q1,q2⟩:=bfacts HRC.out
 clear hb hM
 go_wp2
 refine bodyPost_ret (ret_rat Tryz.results120 _ _ w.heap.size _ _ _ rfl (store3 HRC.out)) rfl ?_
 exact ⟨_,_,_,_,rfl,Kd.M_mono _ (fun _ _=>trivial) (far3 (ratK.M_lower HFB.out.size HM.out) (fun k hk=>by omega)),below3 HB3.out (Nat.le_refl _)⟩
set_option maxHeartbeats 1000000 in
set_option maxRecDepth 100000 in
theorem small_pos (s:Bool) (x y:Int) (w:World) (hx:0 < x) (hx1:x ≤ 18446744073709551615) (hy:0 < y) (hy1:y ≤ 18446744073709551615) :
  Calls Tryz.prog 120 #[.bool s,.int .u64 x,.int .u64 y] w (RatPost w (mkRat (sgn s x.toNat) y.toNat)):=by
 have hu:=Tryz.underlying69
 have d0:(x == 0) = false:=by rw [beq_eq_false_iff_ne];omega
 obtain ⟨g,hg⟩:∃ g:Int,g = ((Nat.gcd x.toNat y.toNat:Nat):Int):=⟨_,rfl⟩
 have hg0:0 < g:=by have:=Nat.gcd_pos_of_pos_left y.toNat (show 0 < x.toNat by omega);omega
 have hg1:g ≤ x:=by have:=Nat.gcd_le_left y.toNat (show 0 < x.toNat by omega);omega
 have hgn:(g == 0) = false:=by rw [beq_eq_false_iff_ne];omega
 have hgn2:¬ g = 0:=by omega
 have q0:0 ≤ x / g:=Int.ediv_nonneg (by omega) (by omega)
 have q1:x / g ≤ 18446744073709551615:=Int.le_trans (Int.ediv_le_self _ (by omega)) hx1
 have q2:0 ≤ y / g:=Int.ediv_nonneg (by omega) (by omega)
 have q3:y / g ≤ 18446744073709551615:=Int.le_trans (Int.ediv_le_self _ (by omega)) hy1
 have t1:Int.tdiv x g = x / g:=Int.tdiv_eq_ediv_of_nonneg (by omega)
 have t2:Int.tdiv y g = y / g:=Int.tdiv_eq_ediv_of_nonneg (by omega)
 have t3:IntKind.u64.wrap (x / g) = x / g:=by rw [IntKind.wrap_u64];omega
 have t4:IntKind.u64.wrap (y / g) = y / g:=by rw [IntKind.wrap_u64];omega
 have e1:(x / g).toNat = x.toNat / Nat.gcd x.toNat y.toNat:=by exact toNat_ediv (by omega) hg
 have e2:(y / g).toNat = y.toNat / Nat.gcd x.toNat y.toNat:=by exact toNat_ediv (by omega) hg
 have HE:=Aside0.mk (And.intro e1 e2)
 have HG:=Aside0.mk hg
 clear hg e1 e2
 go_enter Tryz.func120,Tryz.ntmps120
 go_wp2_with fail
 have f0:=Blk.new w 69 #[.bool false,.slice none 0 0,.slice none 0 0]
 have fb:=below_alloc (Below.refl w.heap.size w) (.cells #[.bool false,.slice none 0 0,.slice none 0 0] 69)
 generalize (w.alloc (.cells #[.bool false,.slice none 0 0,.slice none 0 0] 69)) = W at f0 fb ⊢
 have HF0:=Aside0.mk f0
 have HFB:=Aside0.mk fb
 have hBW:=Below.refl W.heap.size W
 clear f0 fb
 refine (l1GcdSmall_calls x y _ (by omega) hx1 (by omega) hy1).mono ?_
 rintro e w1 ⟨rfl,rfl⟩
 rw [← HG.out]
 go_wp2
 go_region_held3 (fun w'=>True)
  (trivial)
  (first | (go_at_call_of 138 (Value.int IntKind.u64 (x / g));(with_reducible refine (l1LimbsOf_calls (x / g) _ q0 q1).mono ?_);rintro e wn ⟨An,cn,rfl,hon,hbn⟩;have hBn:=heldB2 (below_drew hBW) hbn) | (go_at_call_of 138 (Value.int IntKind.u64 (y / g));(with_reducible refine (l1LimbsOf_calls (y / g) _ q2 q3).mono ?_);rintro e wd ⟨Ad,cd,rfl,hod,hbd⟩;have hBd:=heldB2 hBn hbd;obtain ⟨⟨z0,z1,z2⟩,u0,u1,u2⟩:=bfacts (HF0.out.below hBd HF0.out.lt)))
 all_goals
  go_wp2
  have HM:=two_rows (base:=w.heap.size) s hon hod hbd (Nat.le_refl _) HFB.out.size (Nat.le_trans HFB.out.size hBn.size)
  have hlt:=HF0.out.lt
  refine bodyPost_ret (ret_rat Tryz.results120 _ _ w.heap.size _ _ _ rfl (store3 (HF0.out.below hBd hlt))) rfl ?_
  have hs:=hBn.size
  have hsd:W.drew.heap.size = W.heap.size:=rfl
  exact rat_post2 (by rw [repr_norm s (by omega) (by omega),← HE.out.1,← HE.out.2]) (Kd.M_mono _ (fun _ _=>trivial) (far3 HM (fun k hk=>by omega))) (below3 (HFB.out.trans (hBd.mono HFB.out.size)) (Nat.le_refl _))
theorem l1MakeSmall_calls (s:Bool) (x y:Int) (w:World) (hx:0 ≤ x) (hx1:x ≤ 18446744073709551615) (hy:0 < y) (hy1:y ≤ 18446744073709551615) :
  Calls Tryz.prog 120 #[.bool s,.int .u64 x,.int .u64 y] w (RatPost w (mkRat (sgn s x.toNat) y.toNat)):=by
 rcases Int.lt_or_eq_of_le hx with h | h
 ·exact small_pos s x y w h hx1 hy hy1
 ·subst h
  exact small_zero s y y.toNat w
end Go.Proofs.YtijldkknhphgcaaGreat.Hand
end

section
/- The document's l1Mul and RatMul. Conditions: both rationals can be read, their elements are limbs, and they have at most 2^38 limbs each. -/
set_option linter.unusedVariables false
set_option linter.unusedSimpArgs false
namespace Go.Proofs.YtijldkknhphgcaaGreat.Hand
open Go.RowKit Go.Proofs.YtijldkknhphgcaaGreatW.PrintWords Go.Proofs.YtijldkknhphgcaaGreatW.PrintLast Go.Proofs.YtijldkknhphgcaaGreatW.PrintMore
theorem store6 {w:World} {g:Nat} {v0 v1 v2 v3 v4 v5 x y z:Value} (h:w.cell? ⟨g,0,none⟩ = some v0 ∧ w.cell? ⟨g,1,none⟩ = some v1 ∧ w.cell? ⟨g,2,none⟩ = some v2 ∧ w.cell? ⟨g + 1,0,none⟩ = some v3 ∧ w.cell? ⟨g + 1,1,none⟩ = some v4 ∧ w.cell? ⟨g + 1,2,none⟩ = some v5) :
  (((w.setCell ⟨g + 1 + 1,0,none⟩ x).setCell ⟨g + 1 + 1,1,none⟩ y).setCell ⟨g + 1 + 1,2,none⟩ z).cell? ⟨g,0,none⟩ = some v0 ∧ (((w.setCell ⟨g + 1 + 1,0,none⟩ x).setCell ⟨g + 1 + 1,1,none⟩ y).setCell ⟨g + 1 + 1,2,none⟩ z).cell? ⟨g,1,none⟩ = some v1 ∧ (((w.setCell ⟨g + 1 + 1,0,none⟩ x).setCell ⟨g + 1 + 1,1,none⟩ y).setCell ⟨g + 1 + 1,2,none⟩ z).cell? ⟨g,2,none⟩ = some v2 ∧
  (((w.setCell ⟨g + 1 + 1,0,none⟩ x).setCell ⟨g + 1 + 1,1,none⟩ y).setCell ⟨g + 1 + 1,2,none⟩ z).cell? ⟨g + 1,0,none⟩ = some v3 ∧ (((w.setCell ⟨g + 1 + 1,0,none⟩ x).setCell ⟨g + 1 + 1,1,none⟩ y).setCell ⟨g + 1 + 1,2,none⟩ z).cell? ⟨g + 1,1,none⟩ = some v4 ∧ (((w.setCell ⟨g + 1 + 1,0,none⟩ x).setCell ⟨g + 1 + 1,1,none⟩ y).setCell ⟨g + 1 + 1,2,none⟩ z).cell? ⟨g + 1,2,none⟩ = some v5:=by
 have key:∀ (b i:Nat) (v:Value),b ≠ g + 1 + 1 → w.cell? ⟨b,i,none⟩ = some v → (((w.setCell ⟨g + 1 + 1,0,none⟩ x).setCell ⟨g + 1 + 1,1,none⟩ y).setCell ⟨g + 1 + 1,2,none⟩ z).cell? ⟨b,i,none⟩ = some v:=by
  intro b i v hb hv
  have hne:∀ k:Nat,(⟨g + 1 + 1,k,none⟩:Addr) ≠ ⟨b,i,none⟩:=fun k e=>hb (by injection e with e;exact e.symm)
  rw [World.cell?_setCell_other _ _ _ _ (hne 2),World.cell?_setCell_other _ _ _ _ (hne 1),World.cell?_setCell_other _ _ _ _ (hne 0)]
  exact hv
 exact ⟨key _ _ _ (by omega) h.1,key _ _ _ (by omega) h.2.1,key _ _ _ (by omega) h.2.2.1,key _ _ _ (by omega) h.2.2.2.1,key _ _ _ (by omega) h.2.2.2.2.1,key _ _ _ (by omega) h.2.2.2.2.2⟩
theorem bin_mul_le {x y m n:Nat} (hx:(bin x).length ≤ m) (hy:(bin y).length ≤ n):(bin (x * y)).length ≤ m + n:=by
 refine bin_length_le ?_
 have h1:=bval_lt (bin x)
 have h2:=bval_lt (bin y)
 rw [bval_bin] at h1 h2
 rw [Nat.pow_add]
 have h3:x < 2 ^ m:=Nat.lt_of_lt_of_le h1 (Nat.pow_le_pow_right (by omega) hx)
 have h4:y < 2 ^ n:=Nat.lt_of_lt_of_le h2 (Nat.pow_le_pow_right (by omega) hy)
 exact Nat.mul_lt_mul_of_lt_of_le h3 (Nat.le_of_lt h4) (Nat.pow_pos (by omega))
end Go.Proofs.YtijldkknhphgcaaGreat.Hand
end

section
/- The document's l1Copy and l1Inv. Conditions: the rational can be read and has at most 2^40 limbs (l1Inv: it is a valid rational, not zero). -/
set_option linter.unusedVariables false
set_option linter.unusedSimpArgs false
namespace Go.Proofs.YtijldkknhphgcaaGreat.Hand
open Go.RowKit Go.Proofs.YtijldkknhphgcaaGreatW.PrintWords Go.Proofs.YtijldkknhphgcaaGreatW.PrintLast Go.Proofs.YtijldkknhphgcaaGreatW.PrintMore
def RtPost (w:World) (r:Rt) (e:Ending) (w':World):Prop:=∃ A c B d,e = .returned (.agg #[.bool r.neg,.slice A r.num.length c,.slice B r.den.length d]) ∧ ratK.M w' w.heap.size (fun _=>True) r [.bool r.neg,.slice A r.num.length c,.slice B r.den.length d] ∧ Below w.heap.size w w'
set_option maxHeartbeats 2000000 in
set_option maxRecDepth 100000 in
theorem l1Copy_K {s:Bool} {A B:Option Addr} {n c m d:Nat} (r:Rt) (w:World) (hr:ratK.K w r [.bool s,.slice A n c,.slice B m d]) (hn:r.num.length + r.den.length ≤ 1099511627776) :
  Calls Tryz.prog 78 #[.agg #[.bool s,.slice A n c,.slice B m d]] w (RtPost w r):=by
 have hu:=Tryz.underlying69
 obtain ⟨A2,c2,B2,d2,e,k1,k2,k3,k4⟩:=ratK_form hr
 simp only [List.cons.injEq,Value.slice.injEq,Value.bool.injEq,and_true] at e
 obtain ⟨rfl,⟨rfl,rfl,rfl⟩,rfl,rfl,rfl⟩:=e
 obtain ⟨s,l,l'⟩:=r
 have H1:=Aside0.mk k2
 have H2:=Aside0.mk k4
 simp only at H1 H2 hn ⊢
 clear hr k1 k2 k3 k4
 go_enter Tryz.func78,Tryz.ntmps78
 go_upto_region 1 with fail
 have f0:=(Blk.new w 69 #[.bool s,.slice A l.length c,.slice B l'.length d]).alloc (.cells #[.bool false,.slice none 0 0,.slice none 0 0] 69)
 have f1:=Blk.new (w.alloc (.cells #[.bool s,.slice A l.length c,.slice B l'.length d] 69)) 69 #[.bool false,.slice none 0 0,.slice none 0 0]
 rw [show (w.alloc (.cells #[.bool s,.slice A l.length c,.slice B l'.length d] 69)).heap.size = w.heap.size + 1 from by simp] at f1
 have fb:=below_alloc (below_alloc (Below.refl w.heap.size w) (.cells #[.bool s,.slice A l.length c,.slice B l'.length d] 69)) (.cells #[.bool false,.slice none 0 0,.slice none 0 0] 69)
 generalize ((w.alloc (.cells #[.bool s,.slice A l.length c,.slice B l'.length d] 69)).alloc (.cells #[.bool false,.slice none 0 0,.slice none 0 0] 69)) = W at f0 f1 fb ⊢
 have HX:=Aside0.mk f0
 have HZ:=Aside0.mk f1
 have HB0:=Aside0.mk fb
 clear f0 f1 fb
 have HN1:=Aside0.mk (Kd.C_below H1.out HB0.out)
 go_upto_region 2 with fail
 have hO:=Aside0.mk (show (Kd.int .u32).R 134 (W.alloc (.cells #[] 134)) W.heap.size (fun _=>True) (.slice (some ⟨W.heap.size,0,none⟩) 0 0) [] from
  Kd.R_of_own (own_lit W W.heap.size 134 .u32 [] (Nat.le_refl _) (by simp)) (fun k hk=>trivial))
 have hWb:=Aside0.mk (below_alloc (Below.refl W.heap.size W) (.cells #[] 134))
 generalize W.alloc (.cells #[] 134) = WA at hO hWb ⊢
 obtain ⟨x0,x1,x2⟩:=box3 (HX.out.below hWb.out HX.out.lt)
 go_upto_region 3 with ((at_builtin;refine Kd.R_append_rows (Kd.int .u32) (w0:=W) W.heap.size rfl (.tmp 6) (.tmp 8) 67 134 (.int .u32 0) 4 rfl Tryz.underlying67 infoU rfl (by decide) (by omega) _ [] l A l.length c (fun _=>True) (fun _=>False) rfl rfl hO.out (Kd.C_below HN1.out hWb.out) (fun _ _ h=>h) (fun _ h=>h.elim) (fun _ _=>trivial) hWb.out hWb.out.size (by simp;omega) ?_;intro v1 w1 ho hb hg hat;have HO:=Aside0.mk ho;have HB:=Aside0.mk hb;clear ho hb hg hat))
 obtain ⟨A1,c1,rfl⟩:=Kd.R_slice HO.out
 have HX1:=Aside0.mk (HX.out.below HB.out HX.out.lt)
 have HZ1:=Aside0.mk (HZ.out.below HB.out HZ.out.lt)
 have HB1:=Aside0.mk (HB0.out.trans (HB.out.mono HB0.out.size))
 have HS1:=HB.out.size
 have HO1:=HO
 have HN2:=Aside0.mk (Kd.C_below H2.out HB1.out)
 clear HO HB hO hWb x0 x1 x2
 rw [List.nil_append] at HO1 ⊢
 go_upto_region 4 with fail
 have hO:=Aside0.mk (show (Kd.int .u32).R 134 (w1.alloc (.cells #[] 134)) w1.heap.size (fun _=>True) (.slice (some ⟨w1.heap.size,0,none⟩) 0 0) [] from
  Kd.R_of_own (own_lit w1 w1.heap.size 134 .u32 [] (Nat.le_refl _) (by simp)) (fun k hk=>trivial))
 have hWb:=Aside0.mk (below_alloc (Below.refl w1.heap.size w1) (.cells #[] 134))
 generalize w1.alloc (.cells #[] 134) = WB at hO hWb ⊢
 obtain ⟨x0,x1,x2⟩:=box3 (HX1.out.below hWb.out HX1.out.lt)
 go_upto_region 5 with ((at_builtin;refine Kd.R_append_rows (Kd.int .u32) (w0:=w1) w1.heap.size rfl (.tmp 11) (.tmp 13) 67 134 (.int .u32 0) 4 rfl Tryz.underlying67 infoU rfl (by decide) (by omega) _ [] l' B l'.length d (fun _=>True) (fun _=>False) rfl rfl hO.out (Kd.C_below HN2.out hWb.out) (fun _ _ h=>h) (fun _ h=>h.elim) (fun _ _=>trivial) hWb.out hWb.out.size (by simp;omega) ?_;intro v2 w2 ho hb hg hat;have HO:=Aside0.mk ho;have HB:=Aside0.mk hb;clear ho hb hg hat))
 obtain ⟨B1,d1,rfl⟩:=Kd.R_slice HO.out
 have hM:=two_rows (base:=w.heap.size) s HO1.out HO.out HB.out (Nat.le_refl _) HB0.out.size HB1.out.size
 have HX2:=Aside0.mk (HX1.out.below HB.out HX1.out.lt)
 have HZ2:=Aside0.mk (HZ1.out.below HB.out HZ1.out.lt)
 have HB2:=Aside0.mk (HB1.out.trans (HB.out.mono HB1.out.size))
 have HM:=Aside0.mk hM
 clear x0 x1 x2 hM
 rw [List.nil_append] at HM ⊢
 obtain ⟨⟨x0,x1,x2⟩,_⟩:=bfacts HX2.out
 obtain ⟨⟨z0,z1,z2⟩,q0,q1,q2⟩:=bfacts HZ2.out
 go_wp2
 refine bodyPost_ret (ret_rat Tryz.results78 _ _ (w.heap.size + 1) _ _ _ rfl (store3 HZ2.out)) rfl ?_
 have hl:=HZ.out.lt
 exact ⟨_,_,_,_,rfl,Kd.M_mono _ (fun _ _=>trivial) (far3 HM.out (fun k hk=>by rcases hk with hk | hk <;> omega)),below3 HB2.out (by omega)⟩
end Go.Proofs.YtijldkknhphgcaaGreat.Hand
end

section
/- Texts of numbers, as the views have them. The conditions stand with each. -/
set_option linter.unusedVariables false
set_option linter.unusedSimpArgs false
namespace Go.Proofs.YtijldkknhphgcaaGreat.Pv
open Go.RowKit Go.Proofs.YtijldkknhphgcaaGreatW.PrintWords
def ratQ (g:RtD):Rat:=Hand.qOf (tR g)
theorem repr_R {g:RtD} (h:Rok g) (hk:rokF g = true):tR g = Hand.repr (ratQ g):=Hand.repr_of_validR (by unfold Hand.validR;rw [good_R h,Bool.true_and];exact hk)
end Go.Proofs.YtijldkknhphgcaaGreat.Pv
end

section
/- The document's l1Add. Conditions: both rationals can be read, their elements are limbs, and they have at most 2^37 limbs each. -/
set_option linter.unusedVariables false
set_option linter.unusedSimpArgs false
namespace Go.Proofs.YtijldkknhphgcaaGreat.Hand
open Go.RowKit Go.Proofs.YtijldkknhphgcaaGreatW.PrintWords Go.Proofs.YtijldkknhphgcaaGreatW.PrintLast Go.Proofs.YtijldkknhphgcaaGreatW.PrintMore
theorem l1MulZ (A A':Option Addr) (c c':Nat) (x y z:Nat) (w:World) (hr:Kd.bool.C w A (bin x).length (bin x)) (hr':Kd.bool.C w A' (bin y).length (bin y)) (hn:(bin x).length ≤ 35184372088832) (hn':(bin y).length ≤ 35184372088832)  (hz:x * y = z) :
  Calls Tryz.prog 122 #[.slice A (bin x).length c,.slice A' (bin y).length c'] w fun e w'=>∃ A1 c1,e = .returned (.slice A1 (bin z).length c1) ∧ Kd.bool.R 4 w' w.heap.size (fun _=>True) (.slice A1 (bin z).length c1) (bin z) ∧ Below w.heap.size w w':=by
 refine (l1MulBits_calls A A' c c' (bin x) (bin y) w hr hr' hn hn').mono ?_
 rintro e w' ⟨v,rfl,ho,hb⟩
 rw [bval_bin,bval_bin,hz] at ho
 obtain ⟨A1,c1,rfl⟩:=Kd.R_slice ho
 exact ⟨A1,c1,rfl,ho,hb⟩
theorem l1AddZ (A A':Option Addr) (c c':Nat) (x y z:Nat) (w:World) (hr:Kd.bool.C w A (bin x).length (bin x)) (hr':Kd.bool.C w A' (bin y).length (bin y)) (hn:(bin x).length ≤ 35184372088832) (hn':(bin y).length ≤ 35184372088832)  (hz:x + y = z) :
  Calls Tryz.prog 123 #[.slice A (bin x).length c,.slice A' (bin y).length c'] w fun e w'=>∃ A1 c1,e = .returned (.slice A1 (bin z).length c1) ∧ Kd.bool.R 4 w' w.heap.size (fun _=>True) (.slice A1 (bin z).length c1) (bin z) ∧ Below w.heap.size w w':=by
 refine (l1AddBits_calls A A' c c' (bin x) (bin y) w hr hr' hn hn').mono ?_
 rintro e w' ⟨v,rfl,ho,hb⟩
 rw [bval_bin,bval_bin,hz] at ho
 obtain ⟨A1,c1,rfl⟩:=Kd.R_slice ho
 exact ⟨A1,c1,rfl,ho,hb⟩
theorem l1SubZ (A A':Option Addr) (c c':Nat) (x y z:Nat) (w:World) (hr:Kd.bool.C w A (bin x).length (bin x)) (hr':Kd.bool.C w A' (bin y).length (bin y)) (hn:(bin x).length ≤ 35184372088832) (hn':(bin y).length ≤ 35184372088832) (hle:y ≤ x) (hz:x - y = z) :
  Calls Tryz.prog 124 #[.slice A (bin x).length c,.slice A' (bin y).length c'] w fun e w'=>∃ A1 c1,e = .returned (.slice A1 (bin z).length c1) ∧ Kd.bool.R 4 w' w.heap.size (fun _=>True) (.slice A1 (bin z).length c1) (bin z) ∧ Below w.heap.size w w':=by
 refine (l1SubBits_calls A A' c c' (bin x) (bin y) w hr hr' hn hn' (by rw [bval_bin,bval_bin];exact hle)).mono ?_
 rintro e w' ⟨v,rfl,ho,hb⟩
 rw [bval_bin,bval_bin,hz] at ho
 obtain ⟨A1,c1,rfl⟩:=Kd.R_slice ho
 exact ⟨A1,c1,rfl,ho,hb⟩
theorem cmpZ (A A':Option Addr) (c c':Nat) (x y:Nat) (v:Int) (w:World) (hr:Kd.bool.C w A (bin x).length (bin x)) (hr':Kd.bool.C w A' (bin y).length (bin y)) (hv:cmpN x y = v) :
  Calls Tryz.prog 98 #[.slice A (bin x).length c,.slice A' (bin y).length c'] w fun e w'=>e = .returned (.int .i64 v) ∧ Below w.heap.size w w':=by
 refine (l1CmpBits_calls A A' c c' (bin x) (bin y) w hr hr' (bplain_bin x) (bplain_bin y)).mono ?_
 rintro e w' ⟨rfl,hd⟩
 rw [bval_bin,bval_bin,hv]
 exact ⟨rfl,hd.below⟩
theorem bin_add_le {x y n:Nat} (hx:(bin x).length ≤ n) (hy:(bin y).length ≤ n):(bin (x + y)).length ≤ n + 1:=by
 refine bin_length_le ?_
 have h1:=bval_lt (bin x)
 have h2:=bval_lt (bin y)
 rw [bval_bin] at h1 h2
 have h3:x < 2 ^ n:=Nat.lt_of_lt_of_le h1 (Nat.pow_le_pow_right (by omega) hx)
 have h4:y < 2 ^ n:=Nat.lt_of_lt_of_le h2 (Nat.pow_le_pow_right (by omega) hy)
 rw [Nat.pow_succ];omega
theorem small_sum {r r':Rt} (hs:smallR r = true) (hs':smallR r' = true) (hl:Limbs r.num ∧ Limbs r.den) (hl':Limbs r'.num ∧ Limbs r'.den) (hp:Plain r.den ∧ Plain r'.den) (hn:val r.den ≠ 0 ∧ val r'.den ≠ 0) :
  ∃ x y z:Int,rd r.num 0 * rd r'.den 0 = x ∧ rd r'.num 0 * rd r.den 0 = y ∧ rd r.den 0 * rd r'.den 0 = z ∧ 0 ≤ x ∧ x ≤ 4611686018427387904 ∧ 0 ≤ y ∧ y ≤ 4611686018427387904 ∧ 0 < z ∧ z ≤ 4611686018427387904 ∧ x.toNat = val r.num * val r'.den ∧ y.toNat = val r'.num * val r.den ∧ z.toNat = val r.den * val r'.den:=by
 unfold smallR at hs hs'
 simp only [Bool.and_eq_true,decide_eq_true_eq] at hs hs'
 obtain ⟨⟨⟨s1,s2⟩,s3⟩,s4⟩:=hs
 obtain ⟨⟨⟨t1,t2⟩,t3⟩,t4⟩:=hs'
 have a1:=(limbs_rd hl.1 0).1
 have a2:=(limbs_rd hl.2 0).1
 have b1:=(limbs_rd hl'.1 0).1
 have b2:=(limbs_rd hl'.2 0).1
 have e1:=val_small hl.1 s1
 have e2:=val_small hl.2 s2
 have e3:=val_small hl'.1 t1
 have e4:=val_small hl'.2 t2
 have p1:0 < rd r.den 0:=by have:=hn.1;omega
 have p2:0 < rd r'.den 0:=by have:=hn.2;omega
 have m1:rd r.num 0 * rd r'.den 0 ≤ 2147483648 * 2147483648:=Int.mul_le_mul (by omega) (by omega) b2 (by omega)
 have m2:rd r'.num 0 * rd r.den 0 ≤ 2147483648 * 2147483648:=Int.mul_le_mul (by omega) (by omega) a2 (by omega)
 have m3:rd r.den 0 * rd r'.den 0 ≤ 2147483648 * 2147483648:=Int.mul_le_mul (by omega) (by omega) b2 (by omega)
 exact ⟨_,_,_,rfl,rfl,rfl,Int.mul_nonneg a1 b2,by omega,Int.mul_nonneg b1 a2,by omega,Int.mul_pos p1 p2,by omega,by rw [Int.toNat_mul a1 b2,e1,e4],by rw [Int.toNat_mul b1 a2,e3,e2],by rw [Int.toNat_mul a2 b2,e2,e4]⟩
set_option maxHeartbeats 4000000 in
set_option maxRecDepth 100000 in
theorem l1add_zero1 (qa qb:Rat) (A c B d A' c' B' d') (w:World) (ha:ratK.K w (repr qa) [.bool (repr qa).neg,.slice A (repr qa).num.length c,.slice B (repr qa).den.length d]) (hb:ratK.K w (repr qb) [.bool (repr qb).neg,.slice A' (repr qb).num.length c',.slice B' (repr qb).den.length d']) (hna:szR qa ≤ 137438953472) (hnb:szR qb ≤ 137438953472) (h1:qa = 0) :
  Calls Tryz.prog 87 #[.agg #[.bool (repr qa).neg,.slice A (repr qa).num.length c,.slice B (repr qa).den.length d],.agg #[.bool (repr qb).neg,.slice A' (repr qb).num.length c',.slice B' (repr qb).den.length d']] w (RatPost w qb):=by
 have hu:=Tryz.underlying69
 unfold szR at hna hnb
 obtain ⟨r,hr⟩:∃ r,r = repr qa:=⟨_,rfl⟩
 obtain ⟨r',hr'⟩:∃ r,r = repr qb:=⟨_,rfl⟩
 have HQ:=Aside0.mk hr'
 rw [← hr] at ha hna ⊢
 rw [← hr'] at hb hnb ⊢
 have d1:((r.num.length:Int) == 0) = true:=by rw [beq_iff_eq,hr,repr_num_len.2 h1];rfl
 have HA:=Aside0.mk ha
 have HB:=Aside0.mk hb
 clear ha hb hr hr' h1
 go_enter Tryz.func87,Tryz.ntmps87
 go_wp2_with fail
 have f0:=((Blk.new w 69 #[.bool r.neg,.slice A r.num.length c,.slice B r.den.length d]).alloc (.cells #[.bool r'.neg,.slice A' r'.num.length c',.slice B' r'.den.length d'] 69)).alloc (.cells #[.bool false,.slice none 0 0,.slice none 0 0] 69)
 have f1:=(Blk.new (w.alloc (.cells #[.bool r.neg,.slice A r.num.length c,.slice B r.den.length d] 69)) 69 #[.bool r'.neg,.slice A' r'.num.length c',.slice B' r'.den.length d']).alloc (.cells #[.bool false,.slice none 0 0,.slice none 0 0] 69)
 rw [show (w.alloc (.cells #[.bool r.neg,.slice A r.num.length c,.slice B r.den.length d] 69)).heap.size = w.heap.size + 1 from by simp] at f1
 have f2:=Blk.new ((w.alloc (.cells #[.bool r.neg,.slice A r.num.length c,.slice B r.den.length d] 69)).alloc (.cells #[.bool r'.neg,.slice A' r'.num.length c',.slice B' r'.den.length d'] 69)) 69 #[.bool false,.slice none 0 0,.slice none 0 0]
 rw [show ((w.alloc (.cells #[.bool r.neg,.slice A r.num.length c,.slice B r.den.length d] 69)).alloc (.cells #[.bool r'.neg,.slice A' r'.num.length c',.slice B' r'.den.length d'] 69)).heap.size = w.heap.size + 1 + 1 from by simp] at f2
 have fb:=below_alloc (below_alloc (below_alloc (Below.refl w.heap.size w) (.cells #[.bool r.neg,.slice A r.num.length c,.slice B r.den.length d] 69)) (.cells #[.bool r'.neg,.slice A' r'.num.length c',.slice B' r'.den.length d'] 69)) (.cells #[.bool false,.slice none 0 0,.slice none 0 0] 69)
 generalize (((w.alloc (.cells #[.bool r.neg,.slice A r.num.length c,.slice B r.den.length d] 69)).alloc (.cells #[.bool r'.neg,.slice A' r'.num.length c',.slice B' r'.den.length d'] 69)).alloc (.cells #[.bool false,.slice none 0 0,.slice none 0 0] 69)) = W at f0 f1 f2 fb ⊢
 have HF2:=Aside0.mk f2
 have HF3:=Aside0.mk fb
 clear f0 f1 f2 fb
 refine (l1Copy_K r' _ (ratK.K_below HF3.out HB.out) (by omega)).mono ?_
 rintro e w1 ⟨A3,c3,B3,d3,rfl,hM,hb⟩
 rw [HQ.out] at hM ⊢
 have HM:=Aside0.mk (Kd.M_mono _ (ok':=fun k=>W.heap.size ≤ k) (fun k hk=>hk.2.1) (ratK.M_bound hM))
 have HB3:=Aside0.mk (HF3.out.trans (hb.mono HF3.out.size))
 have HRC:=Aside0.mk (HF2.out.below hb HF2.out.lt)
 have hlt:=HF2.out.lt
 obtain ⟨⟨z0,z1,z2⟩,q0,q1,q2⟩:=bfacts HRC.out
 clear hb hM
 go_wp2
 refine bodyPost_ret (ret_rat Tryz.results87 _ _ (w.heap.size + 1 + 1) _ _ _ rfl (store3 HRC.out)) rfl ?_
 exact ⟨_,_,_,_,rfl,Kd.M_mono _ (fun _ _=>trivial) (far3 (ratK.M_lower HF3.out.size HM.out) (fun k hk=>by omega)),below3 HB3.out (by omega)⟩
set_option maxHeartbeats 4000000 in
set_option maxRecDepth 100000 in
theorem l1add_zero2 (qa qb:Rat) (A c B d A' c' B' d') (w:World) (ha:ratK.K w (repr qa) [.bool (repr qa).neg,.slice A (repr qa).num.length c,.slice B (repr qa).den.length d]) (hb:ratK.K w (repr qb) [.bool (repr qb).neg,.slice A' (repr qb).num.length c',.slice B' (repr qb).den.length d']) (hna:szR qa ≤ 137438953472) (hnb:szR qb ≤ 137438953472) (h1:qa ≠ 0) (h2:qb = 0) :
  Calls Tryz.prog 87 #[.agg #[.bool (repr qa).neg,.slice A (repr qa).num.length c,.slice B (repr qa).den.length d],.agg #[.bool (repr qb).neg,.slice A' (repr qb).num.length c',.slice B' (repr qb).den.length d']] w (RatPost w qa):=by
 have hu:=Tryz.underlying69
 unfold szR at hna hnb
 obtain ⟨r,hr⟩:∃ r,r = repr qa:=⟨_,rfl⟩
 obtain ⟨r',hr'⟩:∃ r,r = repr qb:=⟨_,rfl⟩
 have HQ:=Aside0.mk hr
 rw [← hr] at ha hna ⊢
 rw [← hr'] at hb hnb ⊢
 have hn0:r.num.length ≠ 0:=by rw [hr];exact fun h=>h1 (repr_num_len.1 h)
 have d1:((r.num.length:Int) == 0) = false:=by rw [beq_eq_false_iff_ne];omega
 clear hn0
 have d2:((r'.num.length:Int) == 0) = true:=by rw [beq_iff_eq,hr',repr_num_len.2 h2];rfl
 have HA:=Aside0.mk ha
 have HB:=Aside0.mk hb
 clear ha hb hr hr' h1 h2
 go_enter Tryz.func87,Tryz.ntmps87
 go_wp2_with fail
 have f0:=((Blk.new w 69 #[.bool r.neg,.slice A r.num.length c,.slice B r.den.length d]).alloc (.cells #[.bool r'.neg,.slice A' r'.num.length c',.slice B' r'.den.length d'] 69)).alloc (.cells #[.bool false,.slice none 0 0,.slice none 0 0] 69)
 have f1:=(Blk.new (w.alloc (.cells #[.bool r.neg,.slice A r.num.length c,.slice B r.den.length d] 69)) 69 #[.bool r'.neg,.slice A' r'.num.length c',.slice B' r'.den.length d']).alloc (.cells #[.bool false,.slice none 0 0,.slice none 0 0] 69)
 rw [show (w.alloc (.cells #[.bool r.neg,.slice A r.num.length c,.slice B r.den.length d] 69)).heap.size = w.heap.size + 1 from by simp] at f1
 have f2:=Blk.new ((w.alloc (.cells #[.bool r.neg,.slice A r.num.length c,.slice B r.den.length d] 69)).alloc (.cells #[.bool r'.neg,.slice A' r'.num.length c',.slice B' r'.den.length d'] 69)) 69 #[.bool false,.slice none 0 0,.slice none 0 0]
 rw [show ((w.alloc (.cells #[.bool r.neg,.slice A r.num.length c,.slice B r.den.length d] 69)).alloc (.cells #[.bool r'.neg,.slice A' r'.num.length c',.slice B' r'.den.length d'] 69)).heap.size = w.heap.size + 1 + 1 from by simp] at f2
 have fb:=below_alloc (below_alloc (below_alloc (Below.refl w.heap.size w) (.cells #[.bool r.neg,.slice A r.num.length c,.slice B r.den.length d] 69)) (.cells #[.bool r'.neg,.slice A' r'.num.length c',.slice B' r'.den.length d'] 69)) (.cells #[.bool false,.slice none 0 0,.slice none 0 0] 69)
 generalize (((w.alloc (.cells #[.bool r.neg,.slice A r.num.length c,.slice B r.den.length d] 69)).alloc (.cells #[.bool r'.neg,.slice A' r'.num.length c',.slice B' r'.den.length d'] 69)).alloc (.cells #[.bool false,.slice none 0 0,.slice none 0 0] 69)) = W at f0 f1 f2 fb ⊢
 have HF2:=Aside0.mk f2
 have HF3:=Aside0.mk fb
 clear f0 f1 f2 fb
 refine (l1Copy_K r _ (ratK.K_below HF3.out HA.out) (by omega)).mono ?_
 rintro e w1 ⟨A3,c3,B3,d3,rfl,hM,hb⟩
 rw [HQ.out] at hM ⊢
 have HM:=Aside0.mk (Kd.M_mono _ (ok':=fun k=>W.heap.size ≤ k) (fun k hk=>hk.2.1) (ratK.M_bound hM))
 have HB3:=Aside0.mk (HF3.out.trans (hb.mono HF3.out.size))
 have HRC:=Aside0.mk (HF2.out.below hb HF2.out.lt)
 have hlt:=HF2.out.lt
 obtain ⟨⟨z0,z1,z2⟩,q0,q1,q2⟩:=bfacts HRC.out
 clear hb hM
 go_wp2
 refine bodyPost_ret (ret_rat Tryz.results87 _ _ (w.heap.size + 1 + 1) _ _ _ rfl (store3 HRC.out)) rfl ?_
 exact ⟨_,_,_,_,rfl,Kd.M_mono _ (fun _ _=>trivial) (far3 (ratK.M_lower HF3.out.size HM.out) (fun k hk=>by omega)),below3 HB3.out (by omega)⟩
set_option maxHeartbeats 4000000 in
set_option maxRecDepth 100000 in
theorem l1add_big1 (qa qb:Rat) (A c B d A' c' B' d') (w:World) (ha:ratK.K w (repr qa) [.bool (repr qa).neg,.slice A (repr qa).num.length c,.slice B (repr qa).den.length d]) (hb:ratK.K w (repr qb) [.bool (repr qb).neg,.slice A' (repr qb).num.length c',.slice B' (repr qb).den.length d']) (hna:szR qa ≤ 137438953472) (hnb:szR qb ≤ 137438953472) (h1:qa ≠ 0) (h2:qb ≠ 0) (X Y D Z:Nat) (hX:val (repr qa).num * val (repr qb).den = X) (hY:val (repr qb).num * val (repr qa).den = Y) (hD:val (repr qa).den * val (repr qb).den = D) (hP:((repr qa).neg == (repr qb).neg) = true ∧ X + Y = Z ∧ mkRat (sgn (repr qa).neg Z) D = qa + qb ∨ ((repr qa).neg == (repr qb).neg) = false ∧ Y ≤ X ∧ X - Y = Z ∧ mkRat (sgn (repr qa).neg Z) D = qa + qb ∨ ((repr qa).neg == (repr qb).neg) = false ∧ X < Y ∧ Y - X = Z ∧ mkRat (sgn (repr qb).neg Z) D = qa + qb) (hs:smallR (repr qa) = false) :
  Calls Tryz.prog 87 #[.agg #[.bool (repr qa).neg,.slice A (repr qa).num.length c,.slice B (repr qa).den.length d],.agg #[.bool (repr qb).neg,.slice A' (repr qb).num.length c',.slice B' (repr qb).den.length d']] w (RatPost w (qa + qb)):=by
 have hu:=Tryz.underlying69
 unfold szR at hna hnb
 have e1:(repr qa).num.length ≠ 0:=fun h=>h1 (repr_num_len.1 h)
 have e2:(repr qb).num.length ≠ 0:=fun h=>h2 (repr_num_len.1 h)
 have hla:=repr_limbs qa
 have hlb:=repr_limbs qb
 have n1:=den_ne qa
 have n2:=den_ne qb
 have p1:=(repr_plain qa).2
 have p2:=(repr_plain qb).2
 obtain ⟨r,hr⟩:∃ r,r = repr qa:=⟨_,rfl⟩
 obtain ⟨r',hr'⟩:∃ r,r = repr qb:=⟨_,rfl⟩
 rw [← hr] at ha hna e1 hla n1 p1 hP hX hY hD ⊢
 rw [← hr'] at hb hnb e2 hlb n2 p2 hP hX hY hD ⊢
 have HQA:=Aside0.mk hr
 have HQB:=Aside0.mk hr'
 have HP:=Aside0.mk hP
 have HXE:=Aside0.mk hX
 have HYE:=Aside0.mk hY
 have HDE:=Aside0.mk hD
 have HDN:=Aside0.mk (show D ≠ 0 by rw [← hD];exact Nat.mul_ne_zero n1 n2)
 have HLA:=Aside0.mk hla
 have HLB:=Aside0.mk hlb
 have HN:=Aside0.mk (And.intro n1 n2)
 have HPL:=Aside0.mk (And.intro p1 p2)
 have HA:=Aside0.mk ha
 have HB:=Aside0.mk hb
 have d1:((r.num.length:Int) == 0) = false:=by rw [beq_eq_false_iff_ne];omega
 have d2:((r'.num.length:Int) == 0) = false:=by rw [beq_eq_false_iff_ne];omega
 rw [← hr] at hs
 have HS:=Aside0.mk hs
 clear hs
 clear ha hb e1 e2 hr hr' h1 h2 hla hlb n1 n2 p1 p2 hX hY hD hP
 go_enter Tryz.func87,Tryz.ntmps87
 go_wp2_with fail
 have f0:=((Blk.new w 69 #[.bool r.neg,.slice A r.num.length c,.slice B r.den.length d]).alloc (.cells #[.bool r'.neg,.slice A' r'.num.length c',.slice B' r'.den.length d'] 69)).alloc (.cells #[.bool false,.slice none 0 0,.slice none 0 0] 69)
 have f1:=(Blk.new (w.alloc (.cells #[.bool r.neg,.slice A r.num.length c,.slice B r.den.length d] 69)) 69 #[.bool r'.neg,.slice A' r'.num.length c',.slice B' r'.den.length d']).alloc (.cells #[.bool false,.slice none 0 0,.slice none 0 0] 69)
 rw [show (w.alloc (.cells #[.bool r.neg,.slice A r.num.length c,.slice B r.den.length d] 69)).heap.size = w.heap.size + 1 from by simp] at f1
 have f2:=Blk.new ((w.alloc (.cells #[.bool r.neg,.slice A r.num.length c,.slice B r.den.length d] 69)).alloc (.cells #[.bool r'.neg,.slice A' r'.num.length c',.slice B' r'.den.length d'] 69)) 69 #[.bool false,.slice none 0 0,.slice none 0 0]
 rw [show ((w.alloc (.cells #[.bool r.neg,.slice A r.num.length c,.slice B r.den.length d] 69)).alloc (.cells #[.bool r'.neg,.slice A' r'.num.length c',.slice B' r'.den.length d'] 69)).heap.size = w.heap.size + 1 + 1 from by simp] at f2
 have fb:=below_alloc (below_alloc (below_alloc (Below.refl w.heap.size w) (.cells #[.bool r.neg,.slice A r.num.length c,.slice B r.den.length d] 69)) (.cells #[.bool r'.neg,.slice A' r'.num.length c',.slice B' r'.den.length d'] 69)) (.cells #[.bool false,.slice none 0 0,.slice none 0 0] 69)
 generalize (((w.alloc (.cells #[.bool r.neg,.slice A r.num.length c,.slice B r.den.length d] 69)).alloc (.cells #[.bool r'.neg,.slice A' r'.num.length c',.slice B' r'.den.length d'] 69)).alloc (.cells #[.bool false,.slice none 0 0,.slice none 0 0] 69)) = W at f0 f1 f2 fb ⊢
 have HF0:=Aside0.mk f0
 have HF1:=Aside0.mk f1
 have HF2:=Aside0.mk f2
 have HF3:=Aside0.mk fb
 clear f0 f1 f2 fb
 have HB0:=HF3
 have HX0:=HF0
 have HY0:=HF1
 have HZ0:=HF2
 clear HF3 HF0 HF1 HF2
 refine (l1IsSmall_calls A B c d r false _ (ratK.K_below HB0.out HA.out) HLA.out.1 HLA.out.2 HS.out).mono ?_
 rintro e w1 ⟨rfl,hb⟩
 have HB1:=Aside0.mk (HB0.out.trans (hb.mono HB0.out.size))
 have HX1:=Aside0.mk (HX0.out.below hb HX0.out.lt)
 have HY1:=Aside0.mk (HY0.out.below hb HY0.out.lt)
 have HZ1:=Aside0.mk (HZ0.out.below hb HZ0.out.lt)
 obtain ⟨x0,x1,x2⟩:=box3 HX1.out
 obtain ⟨y0,y1,y2⟩:=box3 HY1.out
 clear hb
 clear x0 x1 x2 y0 y1 y2
 obtain ⟨x0,x1,x2⟩:=box3 HX1.out
 obtain ⟨y0,y1,y2⟩:=box3 HY1.out
 have C1:Aside0 (∀ w',Below w1.heap.size w1 w' → (Kd.int .u32).C w' A r.num.length r.num):=⟨fun w' h=>natK_read (rat_num (ratK.K_below h (ratK.K_below HB1.out HA.out)))⟩
 have C4:Aside0 (∀ w',Below w1.heap.size w1 w' → (Kd.int .u32).C w' B' r'.den.length r'.den):=⟨fun w' h=>natK_read (rat_den (ratK.K_below h (ratK.K_below HB1.out HB.out)))⟩
 have b1:=bin_val_length HLA.out.1
 have b2:=bin_val_length HLB.out.2
 have hBW:=Below.refl w1.heap.size w1
 have H6:Aside0 (∀ w',Below w1.heap.size w1 w' → w'.cell? ⟨w.heap.size,0,none⟩ = some (.bool r.neg) ∧ w'.cell? ⟨w.heap.size,1,none⟩ = some (.slice A r.num.length c) ∧ w'.cell? ⟨w.heap.size,2,none⟩ = some (.slice B r.den.length d) ∧ w'.cell? ⟨w.heap.size + 1,0,none⟩ = some (.bool r'.neg) ∧ w'.cell? ⟨w.heap.size + 1,1,none⟩ = some (.slice A' r'.num.length c') ∧ w'.cell? ⟨w.heap.size + 1,2,none⟩ = some (.slice B' r'.den.length d')):=⟨fun w' h=>⟨pw_cell_below h x0,pw_cell_below h x1,pw_cell_below h x2,pw_cell_below h y0,pw_cell_below h y1,pw_cell_below h y2⟩⟩
 go_wp2_with fail
 go_region_held3 (fun w'=>w'.cell? ⟨w.heap.size,0,none⟩ = some (.bool r.neg) ∧ w'.cell? ⟨w.heap.size,1,none⟩ = some (.slice A r.num.length c) ∧ w'.cell? ⟨w.heap.size,2,none⟩ = some (.slice B r.den.length d) ∧ w'.cell? ⟨w.heap.size + 1,0,none⟩ = some (.bool r'.neg) ∧ w'.cell? ⟨w.heap.size + 1,1,none⟩ = some (.slice A' r'.num.length c') ∧ w'.cell? ⟨w.heap.size + 1,2,none⟩ = some (.slice B' r'.den.length d'))
  ((first | exact H6.out _ (below_drew hBW) | exact H6.out _ hBp | exact H6.out _ hBq | exact H6.out _ hBu))
  (first | (go_at_call_of 100 (Value.slice A r.num.length c);(with_reducible refine (l1BitsX _ _ r.num _ (C1.out _ (below_drew hBW)) HLA.out.1 (by omega)).mono ?_);rintro e wp ⟨Ap,cp,rfl,hop,hbp⟩;have hBp:=heldB2 (below_drew hBW) hbp) | (go_at_call_of 100 (Value.slice B' r'.den.length d');(with_reducible refine (l1BitsX _ _ r'.den _ (C4.out _ hBp) HLB.out.2 (by omega)).mono ?_);rintro e wq ⟨Aq,cq,rfl,hoq,hbq⟩;have hBq:=heldB2 hBp hbq) | (go_at_call 122;(with_reducible refine (l1MulZ _ _ _ _ (val r.num) (val r'.den) X _ (Kd.C_below (Kd.R_reads' hop).2.2 hbq) (Kd.R_reads' hoq).2.2 (by omega) (by omega) HXE.out).mono ?_);rintro e w2 ⟨AX,cX,rfl,ho,hbu⟩;have hBu:=heldB2 hBq hbu))
 have HKX_2:=Aside0.mk (Kd.R_reads' ho).2.2
 have HCX:=Aside0.mk (Kd.R_reads' ho).2.1
 have HLX:=Aside0.mk (show (bin X).length ≤ 8796093022208 by have:=bin_mul_le b1 b2;rw [HXE.out] at this;omega)
 have HB2:=Aside0.mk (HB1.out.trans (hBu.mono HB1.out.size))
 have HX2:=Aside0.mk (HX1.out.below hBu HX1.out.lt)
 have HY2:=Aside0.mk (HY1.out.below hBu HY1.out.lt)
 have HZ2:=Aside0.mk (HZ1.out.below hBu HZ1.out.lt)
 clear HB1 HX1 HY1 HZ1 
 clear x0 x1 x2 y0 y1 y2 hBW H6 C1 C4 b1 b2 ho hop hoq hbp hbq hbu hBp hBq hBu
 obtain ⟨x0,x1,x2⟩:=box3 HX2.out
 obtain ⟨y0,y1,y2⟩:=box3 HY2.out
 have C2:Aside0 (∀ w',Below w2.heap.size w2 w' → (Kd.int .u32).C w' A' r'.num.length r'.num):=⟨fun w' h=>natK_read (rat_num (ratK.K_below h (ratK.K_below HB2.out HB.out)))⟩
 have C3:Aside0 (∀ w',Below w2.heap.size w2 w' → (Kd.int .u32).C w' B r.den.length r.den):=⟨fun w' h=>natK_read (rat_den (ratK.K_below h (ratK.K_below HB2.out HA.out)))⟩
 have b1:=bin_val_length HLB.out.1
 have b2:=bin_val_length HLA.out.2
 have hBW:=Below.refl w2.heap.size w2
 have H6:Aside0 (∀ w',Below w2.heap.size w2 w' → w'.cell? ⟨w.heap.size,0,none⟩ = some (.bool r.neg) ∧ w'.cell? ⟨w.heap.size,1,none⟩ = some (.slice A r.num.length c) ∧ w'.cell? ⟨w.heap.size,2,none⟩ = some (.slice B r.den.length d) ∧ w'.cell? ⟨w.heap.size + 1,0,none⟩ = some (.bool r'.neg) ∧ w'.cell? ⟨w.heap.size + 1,1,none⟩ = some (.slice A' r'.num.length c') ∧ w'.cell? ⟨w.heap.size + 1,2,none⟩ = some (.slice B' r'.den.length d')):=⟨fun w' h=>⟨pw_cell_below h x0,pw_cell_below h x1,pw_cell_below h x2,pw_cell_below h y0,pw_cell_below h y1,pw_cell_below h y2⟩⟩
 go_wp2_with fail
 go_region_held3 (fun w'=>w'.cell? ⟨w.heap.size,0,none⟩ = some (.bool r.neg) ∧ w'.cell? ⟨w.heap.size,1,none⟩ = some (.slice A r.num.length c) ∧ w'.cell? ⟨w.heap.size,2,none⟩ = some (.slice B r.den.length d) ∧ w'.cell? ⟨w.heap.size + 1,0,none⟩ = some (.bool r'.neg) ∧ w'.cell? ⟨w.heap.size + 1,1,none⟩ = some (.slice A' r'.num.length c') ∧ w'.cell? ⟨w.heap.size + 1,2,none⟩ = some (.slice B' r'.den.length d'))
  ((first | exact H6.out _ (below_drew hBW) | exact H6.out _ hBp | exact H6.out _ hBq | exact H6.out _ hBu))
  (first | (go_at_call_of 100 (Value.slice A' r'.num.length c');(with_reducible refine (l1BitsX _ _ r'.num _ (C2.out _ (below_drew hBW)) HLB.out.1 (by omega)).mono ?_);rintro e wp ⟨Ap,cp,rfl,hop,hbp⟩;have hBp:=heldB2 (below_drew hBW) hbp) | (go_at_call_of 100 (Value.slice B r.den.length d);(with_reducible refine (l1BitsX _ _ r.den _ (C3.out _ hBp) HLA.out.2 (by omega)).mono ?_);rintro e wq ⟨Aq,cq,rfl,hoq,hbq⟩;have hBq:=heldB2 hBp hbq) | (go_at_call 122;(with_reducible refine (l1MulZ _ _ _ _ (val r'.num) (val r.den) Y _ (Kd.C_below (Kd.R_reads' hop).2.2 hbq) (Kd.R_reads' hoq).2.2 (by omega) (by omega) HYE.out).mono ?_);rintro e w3 ⟨AY,cY,rfl,ho,hbu⟩;have hBu:=heldB2 hBq hbu))
 have HKY_3:=Aside0.mk (Kd.R_reads' ho).2.2
 have HCY:=Aside0.mk (Kd.R_reads' ho).2.1
 have HLY:=Aside0.mk (show (bin Y).length ≤ 8796093022208 by have:=bin_mul_le b1 b2;rw [HYE.out] at this;omega)
 have HB3:=Aside0.mk (HB2.out.trans (hBu.mono HB2.out.size))
 have HX3:=Aside0.mk (HX2.out.below hBu HX2.out.lt)
 have HY3:=Aside0.mk (HY2.out.below hBu HY2.out.lt)
 have HZ3:=Aside0.mk (HZ2.out.below hBu HZ2.out.lt)
 have HKX_3:=Aside0.mk (Kd.C_below HKX_2.out hBu)
 clear HB2 HX2 HY2 HZ2 HKX_2
 clear x0 x1 x2 y0 y1 y2 hBW H6 C2 C3 b1 b2 ho hop hoq hbp hbq hbu hBp hBq hBu
 obtain ⟨x0,x1,x2⟩:=box3 HX3.out
 obtain ⟨y0,y1,y2⟩:=box3 HY3.out
 have C3:Aside0 (∀ w',Below w3.heap.size w3 w' → (Kd.int .u32).C w' B r.den.length r.den):=⟨fun w' h=>natK_read (rat_den (ratK.K_below h (ratK.K_below HB3.out HA.out)))⟩
 have C4:Aside0 (∀ w',Below w3.heap.size w3 w' → (Kd.int .u32).C w' B' r'.den.length r'.den):=⟨fun w' h=>natK_read (rat_den (ratK.K_below h (ratK.K_below HB3.out HB.out)))⟩
 have b1:=bin_val_length HLA.out.2
 have b2:=bin_val_length HLB.out.2
 have hBW:=Below.refl w3.heap.size w3
 have H6:Aside0 (∀ w',Below w3.heap.size w3 w' → w'.cell? ⟨w.heap.size,0,none⟩ = some (.bool r.neg) ∧ w'.cell? ⟨w.heap.size,1,none⟩ = some (.slice A r.num.length c) ∧ w'.cell? ⟨w.heap.size,2,none⟩ = some (.slice B r.den.length d) ∧ w'.cell? ⟨w.heap.size + 1,0,none⟩ = some (.bool r'.neg) ∧ w'.cell? ⟨w.heap.size + 1,1,none⟩ = some (.slice A' r'.num.length c') ∧ w'.cell? ⟨w.heap.size + 1,2,none⟩ = some (.slice B' r'.den.length d')):=⟨fun w' h=>⟨pw_cell_below h x0,pw_cell_below h x1,pw_cell_below h x2,pw_cell_below h y0,pw_cell_below h y1,pw_cell_below h y2⟩⟩
 go_wp2_with fail
 go_region_held3 (fun w'=>w'.cell? ⟨w.heap.size,0,none⟩ = some (.bool r.neg) ∧ w'.cell? ⟨w.heap.size,1,none⟩ = some (.slice A r.num.length c) ∧ w'.cell? ⟨w.heap.size,2,none⟩ = some (.slice B r.den.length d) ∧ w'.cell? ⟨w.heap.size + 1,0,none⟩ = some (.bool r'.neg) ∧ w'.cell? ⟨w.heap.size + 1,1,none⟩ = some (.slice A' r'.num.length c') ∧ w'.cell? ⟨w.heap.size + 1,2,none⟩ = some (.slice B' r'.den.length d'))
  ((first | exact H6.out _ (below_drew hBW) | exact H6.out _ hBp | exact H6.out _ hBq | exact H6.out _ hBu))
  (first | (go_at_call_of 100 (Value.slice B r.den.length d);(with_reducible refine (l1BitsX _ _ r.den _ (C3.out _ (below_drew hBW)) HLA.out.2 (by omega)).mono ?_);rintro e wp ⟨Ap,cp,rfl,hop,hbp⟩;have hBp:=heldB2 (below_drew hBW) hbp) | (go_at_call_of 100 (Value.slice B' r'.den.length d');(with_reducible refine (l1BitsX _ _ r'.den _ (C4.out _ hBp) HLB.out.2 (by omega)).mono ?_);rintro e wq ⟨Aq,cq,rfl,hoq,hbq⟩;have hBq:=heldB2 hBp hbq) | (go_at_call 122;(with_reducible refine (l1MulZ _ _ _ _ (val r.den) (val r'.den) D _ (Kd.C_below (Kd.R_reads' hop).2.2 hbq) (Kd.R_reads' hoq).2.2 (by omega) (by omega) HDE.out).mono ?_);rintro e w4 ⟨AD,cD,rfl,ho,hbu⟩;have hBu:=heldB2 hBq hbu))
 have HKD_4:=Aside0.mk (Kd.R_reads' ho).2.2
 have HCD:=Aside0.mk (Kd.R_reads' ho).2.1
 have HLD:=Aside0.mk (show (bin D).length ≤ 8796093022208 by have:=bin_mul_le b1 b2;rw [HDE.out] at this;omega)
 have HB4:=Aside0.mk (HB3.out.trans (hBu.mono HB3.out.size))
 have HX4:=Aside0.mk (HX3.out.below hBu HX3.out.lt)
 have HY4:=Aside0.mk (HY3.out.below hBu HY3.out.lt)
 have HZ4:=Aside0.mk (HZ3.out.below hBu HZ3.out.lt)
 have HKX_4:=Aside0.mk (Kd.C_below HKX_3.out hBu)
 have HKY_4:=Aside0.mk (Kd.C_below HKY_3.out hBu)
 clear HB3 HX3 HY3 HZ3 HKX_3 HKY_3
 clear x0 x1 x2 y0 y1 y2 hBW H6 C3 C4 b1 b2 ho hop hoq hbp hbq hbu hBp hBq hBu
 rcases HP.out with ⟨he,hZ,hres⟩ | ⟨he,hle,hZ,hres⟩ | ⟨he,hle,hZ,hres⟩
 ·have HQQ:=Aside0.mk hres.symm
  have HZE:=Aside0.mk hZ
  clear hZ hres HP
  have KX:Aside0 (∀ w',Below w4.heap.size w4 w' → Kd.bool.C w' AX (bin X).length (bin X)):=⟨fun w' h=>Kd.C_below HKX_4.out h⟩
  have KY:Aside0 (∀ w',Below w4.heap.size w4 w' → Kd.bool.C w' AY (bin Y).length (bin Y)):=⟨fun w' h=>Kd.C_below HKY_4.out h⟩
  have KD:Aside0 (∀ w',Below w4.heap.size w4 w' → Kd.bool.C w' AD (bin D).length (bin D)):=⟨fun w' h=>Kd.C_below HKD_4.out h⟩
  obtain ⟨x0,x1,x2⟩:=box3 HX4.out
  obtain ⟨y0,y1,y2⟩:=box3 HY4.out
  have lx:=HLX.out
  have ly:=HLY.out
  have ld:=HLD.out
  have lz:(bin Z).length ≤ 17592186044416:=by rw [← HZE.out];exact Nat.le_trans (bin_add_le lx ly) (by omega)
  have hBW:=Below.refl w4.heap.size w4
  have H6:Aside0 (∀ w',Below w4.heap.size w4 w' → w'.cell? ⟨w.heap.size,0,none⟩ = some (.bool r.neg) ∧ w'.cell? ⟨w.heap.size,1,none⟩ = some (.slice A r.num.length c) ∧ w'.cell? ⟨w.heap.size,2,none⟩ = some (.slice B r.den.length d) ∧ w'.cell? ⟨w.heap.size + 1,0,none⟩ = some (.bool r'.neg) ∧ w'.cell? ⟨w.heap.size + 1,1,none⟩ = some (.slice A' r'.num.length c') ∧ w'.cell? ⟨w.heap.size + 1,2,none⟩ = some (.slice B' r'.den.length d')):=⟨fun w' h=>⟨pw_cell_below h x0,pw_cell_below h x1,pw_cell_below h x2,pw_cell_below h y0,pw_cell_below h y1,pw_cell_below h y2⟩⟩
  go_wp2_with fail
  go_region_held3 (fun w'=>w'.cell? ⟨w.heap.size,0,none⟩ = some (.bool r.neg) ∧ w'.cell? ⟨w.heap.size,1,none⟩ = some (.slice A r.num.length c) ∧ w'.cell? ⟨w.heap.size,2,none⟩ = some (.slice B r.den.length d) ∧ w'.cell? ⟨w.heap.size + 1,0,none⟩ = some (.bool r'.neg) ∧ w'.cell? ⟨w.heap.size + 1,1,none⟩ = some (.slice A' r'.num.length c') ∧ w'.cell? ⟨w.heap.size + 1,2,none⟩ = some (.slice B' r'.den.length d'))
   ((first | exact H6.out _ (below_drew hBW) | exact H6.out _ hBp | exact H6.out _ hBz | exact store6 (H6.out _ hBz)))
   (first | (go_at_call 123;(with_reducible refine (l1AddZ _ _ _ _ X Y Z _ (KX.out _ (below_drew hBW)) (KY.out _ (below_drew hBW)) (by omega) (by omega) HZE.out).mono ?_);rintro e wp ⟨Ap,cp,rfl,hop,hbp⟩;have hBp:=heldB2 (below_drew hBW) hbp) | (go_at_call 121;(with_reducible refine (l1Make_calls _ Z D _ _ _ _ _ (Kd.R_reads' hop).2.2 (KD.out _ hBp) (Kd.R_reads' hop).2.1 HCD.out lz (by omega) HDN.out).mono ?_);rintro e wz ⟨Az,cz,Bz,dz,rfl,hMz,hbz⟩;have hBz:=heldB2 hBp hbz;obtain ⟨⟨z0,z1,z2⟩,u0,u1,u2⟩:=bfacts (HZ4.out.below hBz HZ4.out.lt);have HMZ:=heldM hMz hBp hBz))
  have hlt:=HZ4.out.lt
  clear x0 x1 x2 y0 y1 y2
  go_wp2
  refine bodyPost_ret (ret_rat Tryz.results87 _ _ (w.heap.size + 1 + 1) _ _ _ rfl (store3 (HZ4.out.below hBz HZ4.out.lt))) rfl ?_
  have hsz:=HB4.out.size
  obtain ⟨hzM,hzB⟩:=HMZ
  rw [HQQ.out]
  exact ⟨_,_,_,_,rfl,Kd.M_mono _ (fun _ _=>trivial) (far3 (ratK.M_lower HB4.out.size hzM) (fun k hk=>by omega)),below3 (HB4.out.trans (hzB.mono HB4.out.size)) (by omega)⟩
 ·have HQQ:=Aside0.mk hres.symm
  have HZE:=Aside0.mk hZ
  have HLE:=Aside0.mk hle
  clear hle
  clear hZ hres HP
  obtain ⟨x0,x1,x2⟩:=box3 HX4.out
  obtain ⟨y0,y1,y2⟩:=box3 HY4.out
  obtain ⟨v,hv⟩:∃ v,cmpN X Y = v:=⟨_,rfl⟩
  have hv0:decide (0 ≤ v) = true:=by
   have h:=HLE.out
   rw [← hv];unfold cmpN;rw [if_neg (by omega)];split <;> rfl
  have HV:=Aside0.mk hv
  clear hv
  go_wp2_with fail
  refine (cmpZ _ _ _ _ X Y v _ HKX_4.out HKY_4.out HV.out).mono ?_
  rintro e w5 ⟨rfl,hBu⟩
  have HB5:=Aside0.mk (HB4.out.trans (hBu.mono HB4.out.size))
  have HX5:=Aside0.mk (HX4.out.below hBu HX4.out.lt)
  have HY5:=Aside0.mk (HY4.out.below hBu HY4.out.lt)
  have HZ5:=Aside0.mk (HZ4.out.below hBu HZ4.out.lt)
  have HKX_5:=Aside0.mk (Kd.C_below HKX_4.out hBu)
  have HKY_5:=Aside0.mk (Kd.C_below HKY_4.out hBu)
  have HKD_5:=Aside0.mk (Kd.C_below HKD_4.out hBu)
  clear HB4 HX4 HY4 HZ4 HKX_4 HKY_4 HKD_4
  clear x0 x1 x2 y0 y1 y2 hBu
  have KX:Aside0 (∀ w',Below w5.heap.size w5 w' → Kd.bool.C w' AX (bin X).length (bin X)):=⟨fun w' h=>Kd.C_below HKX_5.out h⟩
  have KY:Aside0 (∀ w',Below w5.heap.size w5 w' → Kd.bool.C w' AY (bin Y).length (bin Y)):=⟨fun w' h=>Kd.C_below HKY_5.out h⟩
  have KD:Aside0 (∀ w',Below w5.heap.size w5 w' → Kd.bool.C w' AD (bin D).length (bin D)):=⟨fun w' h=>Kd.C_below HKD_5.out h⟩
  obtain ⟨x0,x1,x2⟩:=box3 HX5.out
  obtain ⟨y0,y1,y2⟩:=box3 HY5.out
  have lx:=HLX.out
  have ly:=HLY.out
  have ld:=HLD.out
  have lz:(bin Z).length ≤ 17592186044416:=by rw [← HZE.out];exact bin_le' (Nat.sub_le _ _) (by omega)
  have hBW:=Below.refl w5.heap.size w5
  have H6:Aside0 (∀ w',Below w5.heap.size w5 w' → w'.cell? ⟨w.heap.size,0,none⟩ = some (.bool r.neg) ∧ w'.cell? ⟨w.heap.size,1,none⟩ = some (.slice A r.num.length c) ∧ w'.cell? ⟨w.heap.size,2,none⟩ = some (.slice B r.den.length d) ∧ w'.cell? ⟨w.heap.size + 1,0,none⟩ = some (.bool r'.neg) ∧ w'.cell? ⟨w.heap.size + 1,1,none⟩ = some (.slice A' r'.num.length c') ∧ w'.cell? ⟨w.heap.size + 1,2,none⟩ = some (.slice B' r'.den.length d')):=⟨fun w' h=>⟨pw_cell_below h x0,pw_cell_below h x1,pw_cell_below h x2,pw_cell_below h y0,pw_cell_below h y1,pw_cell_below h y2⟩⟩
  go_wp2_with fail
  go_region_held3 (fun w'=>w'.cell? ⟨w.heap.size,0,none⟩ = some (.bool r.neg) ∧ w'.cell? ⟨w.heap.size,1,none⟩ = some (.slice A r.num.length c) ∧ w'.cell? ⟨w.heap.size,2,none⟩ = some (.slice B r.den.length d) ∧ w'.cell? ⟨w.heap.size + 1,0,none⟩ = some (.bool r'.neg) ∧ w'.cell? ⟨w.heap.size + 1,1,none⟩ = some (.slice A' r'.num.length c') ∧ w'.cell? ⟨w.heap.size + 1,2,none⟩ = some (.slice B' r'.den.length d'))
   ((first | exact H6.out _ (below_drew hBW) | exact H6.out _ hBp | exact H6.out _ hBz | exact store6 (H6.out _ hBz)))
   (first | (go_at_call 124;(with_reducible refine (l1SubZ _ _ _ _ X Y Z _ (KX.out _ (below_drew hBW)) (KY.out _ (below_drew hBW)) (by omega) (by omega) HLE.out HZE.out).mono ?_);rintro e wp ⟨Ap,cp,rfl,hop,hbp⟩;have hBp:=heldB2 (below_drew hBW) hbp) | (go_at_call 121;(with_reducible refine (l1Make_calls _ Z D _ _ _ _ _ (Kd.R_reads' hop).2.2 (KD.out _ hBp) (Kd.R_reads' hop).2.1 HCD.out lz (by omega) HDN.out).mono ?_);rintro e wz ⟨Az,cz,Bz,dz,rfl,hMz,hbz⟩;have hBz:=heldB2 hBp hbz;obtain ⟨⟨z0,z1,z2⟩,u0,u1,u2⟩:=bfacts (HZ5.out.below hBz HZ5.out.lt);have HMZ:=heldM hMz hBp hBz))
  have hlt:=HZ5.out.lt
  clear x0 x1 x2 y0 y1 y2
  go_wp2
  refine bodyPost_ret (ret_rat Tryz.results87 _ _ (w.heap.size + 1 + 1) _ _ _ rfl (store3 (HZ5.out.below hBz HZ5.out.lt))) rfl ?_
  have hsz:=HB5.out.size
  obtain ⟨hzM,hzB⟩:=HMZ
  rw [HQQ.out]
  exact ⟨_,_,_,_,rfl,Kd.M_mono _ (fun _ _=>trivial) (far3 (ratK.M_lower HB5.out.size hzM) (fun k hk=>by omega)),below3 (HB5.out.trans (hzB.mono HB5.out.size)) (by omega)⟩
 ·have HQQ:=Aside0.mk hres.symm
  have HZE:=Aside0.mk hZ
  have HLE:=Aside0.mk hle
  clear hle
  clear hZ hres HP
  obtain ⟨x0,x1,x2⟩:=box3 HX4.out
  obtain ⟨y0,y1,y2⟩:=box3 HY4.out
  obtain ⟨v,hv⟩:∃ v,cmpN X Y = v:=⟨_,rfl⟩
  have hv0:decide (0 ≤ v) = false:=by
   have h:=HLE.out
   rw [← hv];unfold cmpN;rw [if_pos h];rfl
  have HV:=Aside0.mk hv
  clear hv
  go_wp2_with fail
  refine (cmpZ _ _ _ _ X Y v _ HKX_4.out HKY_4.out HV.out).mono ?_
  rintro e w5 ⟨rfl,hBu⟩
  have HB5:=Aside0.mk (HB4.out.trans (hBu.mono HB4.out.size))
  have HX5:=Aside0.mk (HX4.out.below hBu HX4.out.lt)
  have HY5:=Aside0.mk (HY4.out.below hBu HY4.out.lt)
  have HZ5:=Aside0.mk (HZ4.out.below hBu HZ4.out.lt)
  have HKX_5:=Aside0.mk (Kd.C_below HKX_4.out hBu)
  have HKY_5:=Aside0.mk (Kd.C_below HKY_4.out hBu)
  have HKD_5:=Aside0.mk (Kd.C_below HKD_4.out hBu)
  clear HB4 HX4 HY4 HZ4 HKX_4 HKY_4 HKD_4
  clear x0 x1 x2 y0 y1 y2 hBu
  have KX:Aside0 (∀ w',Below w5.heap.size w5 w' → Kd.bool.C w' AX (bin X).length (bin X)):=⟨fun w' h=>Kd.C_below HKX_5.out h⟩
  have KY:Aside0 (∀ w',Below w5.heap.size w5 w' → Kd.bool.C w' AY (bin Y).length (bin Y)):=⟨fun w' h=>Kd.C_below HKY_5.out h⟩
  have KD:Aside0 (∀ w',Below w5.heap.size w5 w' → Kd.bool.C w' AD (bin D).length (bin D)):=⟨fun w' h=>Kd.C_below HKD_5.out h⟩
  obtain ⟨x0,x1,x2⟩:=box3 HX5.out
  obtain ⟨y0,y1,y2⟩:=box3 HY5.out
  have lx:=HLX.out
  have ly:=HLY.out
  have ld:=HLD.out
  have lz:(bin Z).length ≤ 17592186044416:=by rw [← HZE.out];exact bin_le' (Nat.sub_le _ _) (by omega)
  have hBW:=Below.refl w5.heap.size w5
  have H6:Aside0 (∀ w',Below w5.heap.size w5 w' → w'.cell? ⟨w.heap.size,0,none⟩ = some (.bool r.neg) ∧ w'.cell? ⟨w.heap.size,1,none⟩ = some (.slice A r.num.length c) ∧ w'.cell? ⟨w.heap.size,2,none⟩ = some (.slice B r.den.length d) ∧ w'.cell? ⟨w.heap.size + 1,0,none⟩ = some (.bool r'.neg) ∧ w'.cell? ⟨w.heap.size + 1,1,none⟩ = some (.slice A' r'.num.length c') ∧ w'.cell? ⟨w.heap.size + 1,2,none⟩ = some (.slice B' r'.den.length d')):=⟨fun w' h=>⟨pw_cell_below h x0,pw_cell_below h x1,pw_cell_below h x2,pw_cell_below h y0,pw_cell_below h y1,pw_cell_below h y2⟩⟩
  go_wp2_with fail
  go_region_held3 (fun w'=>w'.cell? ⟨w.heap.size,0,none⟩ = some (.bool r.neg) ∧ w'.cell? ⟨w.heap.size,1,none⟩ = some (.slice A r.num.length c) ∧ w'.cell? ⟨w.heap.size,2,none⟩ = some (.slice B r.den.length d) ∧ w'.cell? ⟨w.heap.size + 1,0,none⟩ = some (.bool r'.neg) ∧ w'.cell? ⟨w.heap.size + 1,1,none⟩ = some (.slice A' r'.num.length c') ∧ w'.cell? ⟨w.heap.size + 1,2,none⟩ = some (.slice B' r'.den.length d'))
   ((first | exact H6.out _ (below_drew hBW) | exact H6.out _ hBp | exact H6.out _ hBz | exact store6 (H6.out _ hBz)))
   (first | (go_at_call 124;(with_reducible refine (l1SubZ _ _ _ _ Y X Z _ (KY.out _ (below_drew hBW)) (KX.out _ (below_drew hBW)) (by omega) (by omega) (Nat.le_of_lt HLE.out) HZE.out).mono ?_);rintro e wp ⟨Ap,cp,rfl,hop,hbp⟩;have hBp:=heldB2 (below_drew hBW) hbp) | (go_at_call 121;(with_reducible refine (l1Make_calls _ Z D _ _ _ _ _ (Kd.R_reads' hop).2.2 (KD.out _ hBp) (Kd.R_reads' hop).2.1 HCD.out lz (by omega) HDN.out).mono ?_);rintro e wz ⟨Az,cz,Bz,dz,rfl,hMz,hbz⟩;have hBz:=heldB2 hBp hbz;obtain ⟨⟨z0,z1,z2⟩,u0,u1,u2⟩:=bfacts (HZ5.out.below hBz HZ5.out.lt);have HMZ:=heldM hMz hBp hBz))
  have hlt:=HZ5.out.lt
  clear x0 x1 x2 y0 y1 y2
  go_wp2
  refine bodyPost_ret (ret_rat Tryz.results87 _ _ (w.heap.size + 1 + 1) _ _ _ rfl (store3 (HZ5.out.below hBz HZ5.out.lt))) rfl ?_
  have hsz:=HB5.out.size
  obtain ⟨hzM,hzB⟩:=HMZ
  rw [HQQ.out]
  exact ⟨_,_,_,_,rfl,Kd.M_mono _ (fun _ _=>trivial) (far3 (ratK.M_lower HB5.out.size hzM) (fun k hk=>by omega)),below3 (HB5.out.trans (hzB.mono HB5.out.size)) (by omega)⟩
set_option maxHeartbeats 4000000 in
set_option maxRecDepth 100000 in
theorem l1add_big2 (qa qb:Rat) (A c B d A' c' B' d') (w:World) (ha:ratK.K w (repr qa) [.bool (repr qa).neg,.slice A (repr qa).num.length c,.slice B (repr qa).den.length d]) (hb:ratK.K w (repr qb) [.bool (repr qb).neg,.slice A' (repr qb).num.length c',.slice B' (repr qb).den.length d']) (hna:szR qa ≤ 137438953472) (hnb:szR qb ≤ 137438953472) (h1:qa ≠ 0) (h2:qb ≠ 0) (X Y D Z:Nat) (hX:val (repr qa).num * val (repr qb).den = X) (hY:val (repr qb).num * val (repr qa).den = Y) (hD:val (repr qa).den * val (repr qb).den = D) (hP:((repr qa).neg == (repr qb).neg) = true ∧ X + Y = Z ∧ mkRat (sgn (repr qa).neg Z) D = qa + qb ∨ ((repr qa).neg == (repr qb).neg) = false ∧ Y ≤ X ∧ X - Y = Z ∧ mkRat (sgn (repr qa).neg Z) D = qa + qb ∨ ((repr qa).neg == (repr qb).neg) = false ∧ X < Y ∧ Y - X = Z ∧ mkRat (sgn (repr qb).neg Z) D = qa + qb) (hs:smallR (repr qa) = true) (hs':smallR (repr qb) = false) :
  Calls Tryz.prog 87 #[.agg #[.bool (repr qa).neg,.slice A (repr qa).num.length c,.slice B (repr qa).den.length d],.agg #[.bool (repr qb).neg,.slice A' (repr qb).num.length c',.slice B' (repr qb).den.length d']] w (RatPost w (qa + qb)):=by
 have hu:=Tryz.underlying69
 unfold szR at hna hnb
 have e1:(repr qa).num.length ≠ 0:=fun h=>h1 (repr_num_len.1 h)
 have e2:(repr qb).num.length ≠ 0:=fun h=>h2 (repr_num_len.1 h)
 have hla:=repr_limbs qa
 have hlb:=repr_limbs qb
 have n1:=den_ne qa
 have n2:=den_ne qb
 have p1:=(repr_plain qa).2
 have p2:=(repr_plain qb).2
 obtain ⟨r,hr⟩:∃ r,r = repr qa:=⟨_,rfl⟩
 obtain ⟨r',hr'⟩:∃ r,r = repr qb:=⟨_,rfl⟩
 rw [← hr] at ha hna e1 hla n1 p1 hP hX hY hD ⊢
 rw [← hr'] at hb hnb e2 hlb n2 p2 hP hX hY hD ⊢
 have HQA:=Aside0.mk hr
 have HQB:=Aside0.mk hr'
 have HP:=Aside0.mk hP
 have HXE:=Aside0.mk hX
 have HYE:=Aside0.mk hY
 have HDE:=Aside0.mk hD
 have HDN:=Aside0.mk (show D ≠ 0 by rw [← hD];exact Nat.mul_ne_zero n1 n2)
 have HLA:=Aside0.mk hla
 have HLB:=Aside0.mk hlb
 have HN:=Aside0.mk (And.intro n1 n2)
 have HPL:=Aside0.mk (And.intro p1 p2)
 have HA:=Aside0.mk ha
 have HB:=Aside0.mk hb
 have d1:((r.num.length:Int) == 0) = false:=by rw [beq_eq_false_iff_ne];omega
 have d2:((r'.num.length:Int) == 0) = false:=by rw [beq_eq_false_iff_ne];omega
 rw [← hr] at hs
 rw [← hr'] at hs'
 have HS:=Aside0.mk hs
 have HS':=Aside0.mk hs'
 clear hs hs'
 clear ha hb e1 e2 hr hr' h1 h2 hla hlb n1 n2 p1 p2 hX hY hD hP
 go_enter Tryz.func87,Tryz.ntmps87
 go_wp2_with fail
 have f0:=((Blk.new w 69 #[.bool r.neg,.slice A r.num.length c,.slice B r.den.length d]).alloc (.cells #[.bool r'.neg,.slice A' r'.num.length c',.slice B' r'.den.length d'] 69)).alloc (.cells #[.bool false,.slice none 0 0,.slice none 0 0] 69)
 have f1:=(Blk.new (w.alloc (.cells #[.bool r.neg,.slice A r.num.length c,.slice B r.den.length d] 69)) 69 #[.bool r'.neg,.slice A' r'.num.length c',.slice B' r'.den.length d']).alloc (.cells #[.bool false,.slice none 0 0,.slice none 0 0] 69)
 rw [show (w.alloc (.cells #[.bool r.neg,.slice A r.num.length c,.slice B r.den.length d] 69)).heap.size = w.heap.size + 1 from by simp] at f1
 have f2:=Blk.new ((w.alloc (.cells #[.bool r.neg,.slice A r.num.length c,.slice B r.den.length d] 69)).alloc (.cells #[.bool r'.neg,.slice A' r'.num.length c',.slice B' r'.den.length d'] 69)) 69 #[.bool false,.slice none 0 0,.slice none 0 0]
 rw [show ((w.alloc (.cells #[.bool r.neg,.slice A r.num.length c,.slice B r.den.length d] 69)).alloc (.cells #[.bool r'.neg,.slice A' r'.num.length c',.slice B' r'.den.length d'] 69)).heap.size = w.heap.size + 1 + 1 from by simp] at f2
 have fb:=below_alloc (below_alloc (below_alloc (Below.refl w.heap.size w) (.cells #[.bool r.neg,.slice A r.num.length c,.slice B r.den.length d] 69)) (.cells #[.bool r'.neg,.slice A' r'.num.length c',.slice B' r'.den.length d'] 69)) (.cells #[.bool false,.slice none 0 0,.slice none 0 0] 69)
 generalize (((w.alloc (.cells #[.bool r.neg,.slice A r.num.length c,.slice B r.den.length d] 69)).alloc (.cells #[.bool r'.neg,.slice A' r'.num.length c',.slice B' r'.den.length d'] 69)).alloc (.cells #[.bool false,.slice none 0 0,.slice none 0 0] 69)) = W at f0 f1 f2 fb ⊢
 have HF0:=Aside0.mk f0
 have HF1:=Aside0.mk f1
 have HF2:=Aside0.mk f2
 have HF3:=Aside0.mk fb
 clear f0 f1 f2 fb
 have HB0:=HF3
 have HX0:=HF0
 have HY0:=HF1
 have HZ0:=HF2
 clear HF3 HF0 HF1 HF2
 refine (l1IsSmall_calls A B c d r true _ (ratK.K_below HB0.out HA.out) HLA.out.1 HLA.out.2 HS.out).mono ?_
 rintro e w1 ⟨rfl,hb⟩
 have HB1:=Aside0.mk (HB0.out.trans (hb.mono HB0.out.size))
 have HX1:=Aside0.mk (HX0.out.below hb HX0.out.lt)
 have HY1:=Aside0.mk (HY0.out.below hb HY0.out.lt)
 have HZ1:=Aside0.mk (HZ0.out.below hb HZ0.out.lt)
 obtain ⟨x0,x1,x2⟩:=box3 HX1.out
 obtain ⟨y0,y1,y2⟩:=box3 HY1.out
 clear hb
 go_wp2_with fail
 clear x0 x1 x2 y0 y1 y2
 refine (l1IsSmall_calls A' B' c' d' r' false _ (ratK.K_below HB1.out HB.out) HLB.out.1 HLB.out.2 HS'.out).mono ?_
 rintro e w2 ⟨rfl,hb⟩
 have HB2:=Aside0.mk (HB1.out.trans (hb.mono HB1.out.size))
 have HX2:=Aside0.mk (HX1.out.below hb HX1.out.lt)
 have HY2:=Aside0.mk (HY1.out.below hb HY1.out.lt)
 have HZ2:=Aside0.mk (HZ1.out.below hb HZ1.out.lt)
 obtain ⟨x0,x1,x2⟩:=box3 HX2.out
 obtain ⟨y0,y1,y2⟩:=box3 HY2.out
 clear hb
 clear x0 x1 x2 y0 y1 y2
 obtain ⟨x0,x1,x2⟩:=box3 HX2.out
 obtain ⟨y0,y1,y2⟩:=box3 HY2.out
 have C1:Aside0 (∀ w',Below w2.heap.size w2 w' → (Kd.int .u32).C w' A r.num.length r.num):=⟨fun w' h=>natK_read (rat_num (ratK.K_below h (ratK.K_below HB2.out HA.out)))⟩
 have C4:Aside0 (∀ w',Below w2.heap.size w2 w' → (Kd.int .u32).C w' B' r'.den.length r'.den):=⟨fun w' h=>natK_read (rat_den (ratK.K_below h (ratK.K_below HB2.out HB.out)))⟩
 have b1:=bin_val_length HLA.out.1
 have b2:=bin_val_length HLB.out.2
 have hBW:=Below.refl w2.heap.size w2
 have H6:Aside0 (∀ w',Below w2.heap.size w2 w' → w'.cell? ⟨w.heap.size,0,none⟩ = some (.bool r.neg) ∧ w'.cell? ⟨w.heap.size,1,none⟩ = some (.slice A r.num.length c) ∧ w'.cell? ⟨w.heap.size,2,none⟩ = some (.slice B r.den.length d) ∧ w'.cell? ⟨w.heap.size + 1,0,none⟩ = some (.bool r'.neg) ∧ w'.cell? ⟨w.heap.size + 1,1,none⟩ = some (.slice A' r'.num.length c') ∧ w'.cell? ⟨w.heap.size + 1,2,none⟩ = some (.slice B' r'.den.length d')):=⟨fun w' h=>⟨pw_cell_below h x0,pw_cell_below h x1,pw_cell_below h x2,pw_cell_below h y0,pw_cell_below h y1,pw_cell_below h y2⟩⟩
 go_wp2_with fail
 go_region_held3 (fun w'=>w'.cell? ⟨w.heap.size,0,none⟩ = some (.bool r.neg) ∧ w'.cell? ⟨w.heap.size,1,none⟩ = some (.slice A r.num.length c) ∧ w'.cell? ⟨w.heap.size,2,none⟩ = some (.slice B r.den.length d) ∧ w'.cell? ⟨w.heap.size + 1,0,none⟩ = some (.bool r'.neg) ∧ w'.cell? ⟨w.heap.size + 1,1,none⟩ = some (.slice A' r'.num.length c') ∧ w'.cell? ⟨w.heap.size + 1,2,none⟩ = some (.slice B' r'.den.length d'))
  ((first | exact H6.out _ (below_drew hBW) | exact H6.out _ hBp | exact H6.out _ hBq | exact H6.out _ hBu))
  (first | (go_at_call_of 100 (Value.slice A r.num.length c);(with_reducible refine (l1BitsX _ _ r.num _ (C1.out _ (below_drew hBW)) HLA.out.1 (by omega)).mono ?_);rintro e wp ⟨Ap,cp,rfl,hop,hbp⟩;have hBp:=heldB2 (below_drew hBW) hbp) | (go_at_call_of 100 (Value.slice B' r'.den.length d');(with_reducible refine (l1BitsX _ _ r'.den _ (C4.out _ hBp) HLB.out.2 (by omega)).mono ?_);rintro e wq ⟨Aq,cq,rfl,hoq,hbq⟩;have hBq:=heldB2 hBp hbq) | (go_at_call 122;(with_reducible refine (l1MulZ _ _ _ _ (val r.num) (val r'.den) X _ (Kd.C_below (Kd.R_reads' hop).2.2 hbq) (Kd.R_reads' hoq).2.2 (by omega) (by omega) HXE.out).mono ?_);rintro e w3 ⟨AX,cX,rfl,ho,hbu⟩;have hBu:=heldB2 hBq hbu))
 have HKX_3:=Aside0.mk (Kd.R_reads' ho).2.2
 have HCX:=Aside0.mk (Kd.R_reads' ho).2.1
 have HLX:=Aside0.mk (show (bin X).length ≤ 8796093022208 by have:=bin_mul_le b1 b2;rw [HXE.out] at this;omega)
 have HB3:=Aside0.mk (HB2.out.trans (hBu.mono HB2.out.size))
 have HX3:=Aside0.mk (HX2.out.below hBu HX2.out.lt)
 have HY3:=Aside0.mk (HY2.out.below hBu HY2.out.lt)
 have HZ3:=Aside0.mk (HZ2.out.below hBu HZ2.out.lt)
 clear HB2 HX2 HY2 HZ2 
 clear x0 x1 x2 y0 y1 y2 hBW H6 C1 C4 b1 b2 ho hop hoq hbp hbq hbu hBp hBq hBu
 obtain ⟨x0,x1,x2⟩:=box3 HX3.out
 obtain ⟨y0,y1,y2⟩:=box3 HY3.out
 have C2:Aside0 (∀ w',Below w3.heap.size w3 w' → (Kd.int .u32).C w' A' r'.num.length r'.num):=⟨fun w' h=>natK_read (rat_num (ratK.K_below h (ratK.K_below HB3.out HB.out)))⟩
 have C3:Aside0 (∀ w',Below w3.heap.size w3 w' → (Kd.int .u32).C w' B r.den.length r.den):=⟨fun w' h=>natK_read (rat_den (ratK.K_below h (ratK.K_below HB3.out HA.out)))⟩
 have b1:=bin_val_length HLB.out.1
 have b2:=bin_val_length HLA.out.2
 have hBW:=Below.refl w3.heap.size w3
 have H6:Aside0 (∀ w',Below w3.heap.size w3 w' → w'.cell? ⟨w.heap.size,0,none⟩ = some (.bool r.neg) ∧ w'.cell? ⟨w.heap.size,1,none⟩ = some (.slice A r.num.length c) ∧ w'.cell? ⟨w.heap.size,2,none⟩ = some (.slice B r.den.length d) ∧ w'.cell? ⟨w.heap.size + 1,0,none⟩ = some (.bool r'.neg) ∧ w'.cell? ⟨w.heap.size + 1,1,none⟩ = some (.slice A' r'.num.length c') ∧ w'.cell? ⟨w.heap.size + 1,2,none⟩ = some (.slice B' r'.den.length d')):=⟨fun w' h=>⟨pw_cell_below h x0,pw_cell_below h x1,pw_cell_below h x2,pw_cell_below h y0,pw_cell_below h y1,pw_cell_below h y2⟩⟩
 go_wp2_with fail
 go_region_held3 (fun w'=>w'.cell? ⟨w.heap.size,0,none⟩ = some (.bool r.neg) ∧ w'.cell? ⟨w.heap.size,1,none⟩ = some (.slice A r.num.length c) ∧ w'.cell? ⟨w.heap.size,2,none⟩ = some (.slice B r.den.length d) ∧ w'.cell? ⟨w.heap.size + 1,0,none⟩ = some (.bool r'.neg) ∧ w'.cell? ⟨w.heap.size + 1,1,none⟩ = some (.slice A' r'.num.length c') ∧ w'.cell? ⟨w.heap.size + 1,2,none⟩ = some (.slice B' r'.den.length d'))
  ((first | exact H6.out _ (below_drew hBW) | exact H6.out _ hBp | exact H6.out _ hBq | exact H6.out _ hBu))
  (first | (go_at_call_of 100 (Value.slice A' r'.num.length c');(with_reducible refine (l1BitsX _ _ r'.num _ (C2.out _ (below_drew hBW)) HLB.out.1 (by omega)).mono ?_);rintro e wp ⟨Ap,cp,rfl,hop,hbp⟩;have hBp:=heldB2 (below_drew hBW) hbp) | (go_at_call_of 100 (Value.slice B r.den.length d);(with_reducible refine (l1BitsX _ _ r.den _ (C3.out _ hBp) HLA.out.2 (by omega)).mono ?_);rintro e wq ⟨Aq,cq,rfl,hoq,hbq⟩;have hBq:=heldB2 hBp hbq) | (go_at_call 122;(with_reducible refine (l1MulZ _ _ _ _ (val r'.num) (val r.den) Y _ (Kd.C_below (Kd.R_reads' hop).2.2 hbq) (Kd.R_reads' hoq).2.2 (by omega) (by omega) HYE.out).mono ?_);rintro e w4 ⟨AY,cY,rfl,ho,hbu⟩;have hBu:=heldB2 hBq hbu))
 have HKY_4:=Aside0.mk (Kd.R_reads' ho).2.2
 have HCY:=Aside0.mk (Kd.R_reads' ho).2.1
 have HLY:=Aside0.mk (show (bin Y).length ≤ 8796093022208 by have:=bin_mul_le b1 b2;rw [HYE.out] at this;omega)
 have HB4:=Aside0.mk (HB3.out.trans (hBu.mono HB3.out.size))
 have HX4:=Aside0.mk (HX3.out.below hBu HX3.out.lt)
 have HY4:=Aside0.mk (HY3.out.below hBu HY3.out.lt)
 have HZ4:=Aside0.mk (HZ3.out.below hBu HZ3.out.lt)
 have HKX_4:=Aside0.mk (Kd.C_below HKX_3.out hBu)
 clear HB3 HX3 HY3 HZ3 HKX_3
 clear x0 x1 x2 y0 y1 y2 hBW H6 C2 C3 b1 b2 ho hop hoq hbp hbq hbu hBp hBq hBu
 obtain ⟨x0,x1,x2⟩:=box3 HX4.out
 obtain ⟨y0,y1,y2⟩:=box3 HY4.out
 have C3:Aside0 (∀ w',Below w4.heap.size w4 w' → (Kd.int .u32).C w' B r.den.length r.den):=⟨fun w' h=>natK_read (rat_den (ratK.K_below h (ratK.K_below HB4.out HA.out)))⟩
 have C4:Aside0 (∀ w',Below w4.heap.size w4 w' → (Kd.int .u32).C w' B' r'.den.length r'.den):=⟨fun w' h=>natK_read (rat_den (ratK.K_below h (ratK.K_below HB4.out HB.out)))⟩
 have b1:=bin_val_length HLA.out.2
 have b2:=bin_val_length HLB.out.2
 have hBW:=Below.refl w4.heap.size w4
 have H6:Aside0 (∀ w',Below w4.heap.size w4 w' → w'.cell? ⟨w.heap.size,0,none⟩ = some (.bool r.neg) ∧ w'.cell? ⟨w.heap.size,1,none⟩ = some (.slice A r.num.length c) ∧ w'.cell? ⟨w.heap.size,2,none⟩ = some (.slice B r.den.length d) ∧ w'.cell? ⟨w.heap.size + 1,0,none⟩ = some (.bool r'.neg) ∧ w'.cell? ⟨w.heap.size + 1,1,none⟩ = some (.slice A' r'.num.length c') ∧ w'.cell? ⟨w.heap.size + 1,2,none⟩ = some (.slice B' r'.den.length d')):=⟨fun w' h=>⟨pw_cell_below h x0,pw_cell_below h x1,pw_cell_below h x2,pw_cell_below h y0,pw_cell_below h y1,pw_cell_below h y2⟩⟩
 go_wp2_with fail
 go_region_held3 (fun w'=>w'.cell? ⟨w.heap.size,0,none⟩ = some (.bool r.neg) ∧ w'.cell? ⟨w.heap.size,1,none⟩ = some (.slice A r.num.length c) ∧ w'.cell? ⟨w.heap.size,2,none⟩ = some (.slice B r.den.length d) ∧ w'.cell? ⟨w.heap.size + 1,0,none⟩ = some (.bool r'.neg) ∧ w'.cell? ⟨w.heap.size + 1,1,none⟩ = some (.slice A' r'.num.length c') ∧ w'.cell? ⟨w.heap.size + 1,2,none⟩ = some (.slice B' r'.den.length d'))
  ((first | exact H6.out _ (below_drew hBW) | exact H6.out _ hBp | exact H6.out _ hBq | exact H6.out _ hBu))
  (first | (go_at_call_of 100 (Value.slice B r.den.length d);(with_reducible refine (l1BitsX _ _ r.den _ (C3.out _ (below_drew hBW)) HLA.out.2 (by omega)).mono ?_);rintro e wp ⟨Ap,cp,rfl,hop,hbp⟩;have hBp:=heldB2 (below_drew hBW) hbp) | (go_at_call_of 100 (Value.slice B' r'.den.length d');(with_reducible refine (l1BitsX _ _ r'.den _ (C4.out _ hBp) HLB.out.2 (by omega)).mono ?_);rintro e wq ⟨Aq,cq,rfl,hoq,hbq⟩;have hBq:=heldB2 hBp hbq) | (go_at_call 122;(with_reducible refine (l1MulZ _ _ _ _ (val r.den) (val r'.den) D _ (Kd.C_below (Kd.R_reads' hop).2.2 hbq) (Kd.R_reads' hoq).2.2 (by omega) (by omega) HDE.out).mono ?_);rintro e w5 ⟨AD,cD,rfl,ho,hbu⟩;have hBu:=heldB2 hBq hbu))
 have HKD_5:=Aside0.mk (Kd.R_reads' ho).2.2
 have HCD:=Aside0.mk (Kd.R_reads' ho).2.1
 have HLD:=Aside0.mk (show (bin D).length ≤ 8796093022208 by have:=bin_mul_le b1 b2;rw [HDE.out] at this;omega)
 have HB5:=Aside0.mk (HB4.out.trans (hBu.mono HB4.out.size))
 have HX5:=Aside0.mk (HX4.out.below hBu HX4.out.lt)
 have HY5:=Aside0.mk (HY4.out.below hBu HY4.out.lt)
 have HZ5:=Aside0.mk (HZ4.out.below hBu HZ4.out.lt)
 have HKX_5:=Aside0.mk (Kd.C_below HKX_4.out hBu)
 have HKY_5:=Aside0.mk (Kd.C_below HKY_4.out hBu)
 clear HB4 HX4 HY4 HZ4 HKX_4 HKY_4
 clear x0 x1 x2 y0 y1 y2 hBW H6 C3 C4 b1 b2 ho hop hoq hbp hbq hbu hBp hBq hBu
 rcases HP.out with ⟨he,hZ,hres⟩ | ⟨he,hle,hZ,hres⟩ | ⟨he,hle,hZ,hres⟩
 ·have HQQ:=Aside0.mk hres.symm
  have HZE:=Aside0.mk hZ
  clear hZ hres HP
  have KX:Aside0 (∀ w',Below w5.heap.size w5 w' → Kd.bool.C w' AX (bin X).length (bin X)):=⟨fun w' h=>Kd.C_below HKX_5.out h⟩
  have KY:Aside0 (∀ w',Below w5.heap.size w5 w' → Kd.bool.C w' AY (bin Y).length (bin Y)):=⟨fun w' h=>Kd.C_below HKY_5.out h⟩
  have KD:Aside0 (∀ w',Below w5.heap.size w5 w' → Kd.bool.C w' AD (bin D).length (bin D)):=⟨fun w' h=>Kd.C_below HKD_5.out h⟩
  obtain ⟨x0,x1,x2⟩:=box3 HX5.out
  obtain ⟨y0,y1,y2⟩:=box3 HY5.out
  have lx:=HLX.out
  have ly:=HLY.out
  have ld:=HLD.out
  have lz:(bin Z).length ≤ 17592186044416:=by rw [← HZE.out];exact Nat.le_trans (bin_add_le lx ly) (by omega)
  have hBW:=Below.refl w5.heap.size w5
  have H6:Aside0 (∀ w',Below w5.heap.size w5 w' → w'.cell? ⟨w.heap.size,0,none⟩ = some (.bool r.neg) ∧ w'.cell? ⟨w.heap.size,1,none⟩ = some (.slice A r.num.length c) ∧ w'.cell? ⟨w.heap.size,2,none⟩ = some (.slice B r.den.length d) ∧ w'.cell? ⟨w.heap.size + 1,0,none⟩ = some (.bool r'.neg) ∧ w'.cell? ⟨w.heap.size + 1,1,none⟩ = some (.slice A' r'.num.length c') ∧ w'.cell? ⟨w.heap.size + 1,2,none⟩ = some (.slice B' r'.den.length d')):=⟨fun w' h=>⟨pw_cell_below h x0,pw_cell_below h x1,pw_cell_below h x2,pw_cell_below h y0,pw_cell_below h y1,pw_cell_below h y2⟩⟩
  go_wp2_with fail
  go_region_held3 (fun w'=>w'.cell? ⟨w.heap.size,0,none⟩ = some (.bool r.neg) ∧ w'.cell? ⟨w.heap.size,1,none⟩ = some (.slice A r.num.length c) ∧ w'.cell? ⟨w.heap.size,2,none⟩ = some (.slice B r.den.length d) ∧ w'.cell? ⟨w.heap.size + 1,0,none⟩ = some (.bool r'.neg) ∧ w'.cell? ⟨w.heap.size + 1,1,none⟩ = some (.slice A' r'.num.length c') ∧ w'.cell? ⟨w.heap.size + 1,2,none⟩ = some (.slice B' r'.den.length d'))
   ((first | exact H6.out _ (below_drew hBW) | exact H6.out _ hBp | exact H6.out _ hBz | exact store6 (H6.out _ hBz)))
   (first | (go_at_call 123;(with_reducible refine (l1AddZ _ _ _ _ X Y Z _ (KX.out _ (below_drew hBW)) (KY.out _ (below_drew hBW)) (by omega) (by omega) HZE.out).mono ?_);rintro e wp ⟨Ap,cp,rfl,hop,hbp⟩;have hBp:=heldB2 (below_drew hBW) hbp) | (go_at_call 121;(with_reducible refine (l1Make_calls _ Z D _ _ _ _ _ (Kd.R_reads' hop).2.2 (KD.out _ hBp) (Kd.R_reads' hop).2.1 HCD.out lz (by omega) HDN.out).mono ?_);rintro e wz ⟨Az,cz,Bz,dz,rfl,hMz,hbz⟩;have hBz:=heldB2 hBp hbz;obtain ⟨⟨z0,z1,z2⟩,u0,u1,u2⟩:=bfacts (HZ5.out.below hBz HZ5.out.lt);have HMZ:=heldM hMz hBp hBz))
  have hlt:=HZ5.out.lt
  clear x0 x1 x2 y0 y1 y2
  go_wp2
  refine bodyPost_ret (ret_rat Tryz.results87 _ _ (w.heap.size + 1 + 1) _ _ _ rfl (store3 (HZ5.out.below hBz HZ5.out.lt))) rfl ?_
  have hsz:=HB5.out.size
  obtain ⟨hzM,hzB⟩:=HMZ
  rw [HQQ.out]
  exact ⟨_,_,_,_,rfl,Kd.M_mono _ (fun _ _=>trivial) (far3 (ratK.M_lower HB5.out.size hzM) (fun k hk=>by omega)),below3 (HB5.out.trans (hzB.mono HB5.out.size)) (by omega)⟩
 ·have HQQ:=Aside0.mk hres.symm
  have HZE:=Aside0.mk hZ
  have HLE:=Aside0.mk hle
  clear hle
  clear hZ hres HP
  obtain ⟨x0,x1,x2⟩:=box3 HX5.out
  obtain ⟨y0,y1,y2⟩:=box3 HY5.out
  obtain ⟨v,hv⟩:∃ v,cmpN X Y = v:=⟨_,rfl⟩
  have hv0:decide (0 ≤ v) = true:=by
   have h:=HLE.out
   rw [← hv];unfold cmpN;rw [if_neg (by omega)];split <;> rfl
  have HV:=Aside0.mk hv
  clear hv
  go_wp2_with fail
  refine (cmpZ _ _ _ _ X Y v _ HKX_5.out HKY_5.out HV.out).mono ?_
  rintro e w6 ⟨rfl,hBu⟩
  have HB6:=Aside0.mk (HB5.out.trans (hBu.mono HB5.out.size))
  have HX6:=Aside0.mk (HX5.out.below hBu HX5.out.lt)
  have HY6:=Aside0.mk (HY5.out.below hBu HY5.out.lt)
  have HZ6:=Aside0.mk (HZ5.out.below hBu HZ5.out.lt)
  have HKX_6:=Aside0.mk (Kd.C_below HKX_5.out hBu)
  have HKY_6:=Aside0.mk (Kd.C_below HKY_5.out hBu)
  have HKD_6:=Aside0.mk (Kd.C_below HKD_5.out hBu)
  clear HB5 HX5 HY5 HZ5 HKX_5 HKY_5 HKD_5
  clear x0 x1 x2 y0 y1 y2 hBu
  have KX:Aside0 (∀ w',Below w6.heap.size w6 w' → Kd.bool.C w' AX (bin X).length (bin X)):=⟨fun w' h=>Kd.C_below HKX_6.out h⟩
  have KY:Aside0 (∀ w',Below w6.heap.size w6 w' → Kd.bool.C w' AY (bin Y).length (bin Y)):=⟨fun w' h=>Kd.C_below HKY_6.out h⟩
  have KD:Aside0 (∀ w',Below w6.heap.size w6 w' → Kd.bool.C w' AD (bin D).length (bin D)):=⟨fun w' h=>Kd.C_below HKD_6.out h⟩
  obtain ⟨x0,x1,x2⟩:=box3 HX6.out
  obtain ⟨y0,y1,y2⟩:=box3 HY6.out
  have lx:=HLX.out
  have ly:=HLY.out
  have ld:=HLD.out
  have lz:(bin Z).length ≤ 17592186044416:=by rw [← HZE.out];exact bin_le' (Nat.sub_le _ _) (by omega)
  have hBW:=Below.refl w6.heap.size w6
  have H6:Aside0 (∀ w',Below w6.heap.size w6 w' → w'.cell? ⟨w.heap.size,0,none⟩ = some (.bool r.neg) ∧ w'.cell? ⟨w.heap.size,1,none⟩ = some (.slice A r.num.length c) ∧ w'.cell? ⟨w.heap.size,2,none⟩ = some (.slice B r.den.length d) ∧ w'.cell? ⟨w.heap.size + 1,0,none⟩ = some (.bool r'.neg) ∧ w'.cell? ⟨w.heap.size + 1,1,none⟩ = some (.slice A' r'.num.length c') ∧ w'.cell? ⟨w.heap.size + 1,2,none⟩ = some (.slice B' r'.den.length d')):=⟨fun w' h=>⟨pw_cell_below h x0,pw_cell_below h x1,pw_cell_below h x2,pw_cell_below h y0,pw_cell_below h y1,pw_cell_below h y2⟩⟩
  go_wp2_with fail
  go_region_held3 (fun w'=>w'.cell? ⟨w.heap.size,0,none⟩ = some (.bool r.neg) ∧ w'.cell? ⟨w.heap.size,1,none⟩ = some (.slice A r.num.length c) ∧ w'.cell? ⟨w.heap.size,2,none⟩ = some (.slice B r.den.length d) ∧ w'.cell? ⟨w.heap.size + 1,0,none⟩ = some (.bool r'.neg) ∧ w'.cell? ⟨w.heap.size + 1,1,none⟩ = some (.slice A' r'.num.length c') ∧ w'.cell? ⟨w.heap.size + 1,2,none⟩ = some (.slice B' r'.den.length d'))
   ((first | exact H6.out _ (below_drew hBW) | exact H6.out _ hBp | exact H6.out _ hBz | exact store6 (H6.out _ hBz)))
   (first | (go_at_call 124;(with_reducible refine (l1SubZ _ _ _ _ X Y Z _ (KX.out _ (below_drew hBW)) (KY.out _ (below_drew hBW)) (by omega) (by omega) HLE.out HZE.out).mono ?_);rintro e wp ⟨Ap,cp,rfl,hop,hbp⟩;have hBp:=heldB2 (below_drew hBW) hbp) | (go_at_call 121;(with_reducible refine (l1Make_calls _ Z D _ _ _ _ _ (Kd.R_reads' hop).2.2 (KD.out _ hBp) (Kd.R_reads' hop).2.1 HCD.out lz (by omega) HDN.out).mono ?_);rintro e wz ⟨Az,cz,Bz,dz,rfl,hMz,hbz⟩;have hBz:=heldB2 hBp hbz;obtain ⟨⟨z0,z1,z2⟩,u0,u1,u2⟩:=bfacts (HZ6.out.below hBz HZ6.out.lt);have HMZ:=heldM hMz hBp hBz))
  have hlt:=HZ6.out.lt
  clear x0 x1 x2 y0 y1 y2
  go_wp2
  refine bodyPost_ret (ret_rat Tryz.results87 _ _ (w.heap.size + 1 + 1) _ _ _ rfl (store3 (HZ6.out.below hBz HZ6.out.lt))) rfl ?_
  have hsz:=HB6.out.size
  obtain ⟨hzM,hzB⟩:=HMZ
  rw [HQQ.out]
  exact ⟨_,_,_,_,rfl,Kd.M_mono _ (fun _ _=>trivial) (far3 (ratK.M_lower HB6.out.size hzM) (fun k hk=>by omega)),below3 (HB6.out.trans (hzB.mono HB6.out.size)) (by omega)⟩
 ·have HQQ:=Aside0.mk hres.symm
  have HZE:=Aside0.mk hZ
  have HLE:=Aside0.mk hle
  clear hle
  clear hZ hres HP
  obtain ⟨x0,x1,x2⟩:=box3 HX5.out
  obtain ⟨y0,y1,y2⟩:=box3 HY5.out
  obtain ⟨v,hv⟩:∃ v,cmpN X Y = v:=⟨_,rfl⟩
  have hv0:decide (0 ≤ v) = false:=by
   have h:=HLE.out
   rw [← hv];unfold cmpN;rw [if_pos h];rfl
  have HV:=Aside0.mk hv
  clear hv
  go_wp2_with fail
  refine (cmpZ _ _ _ _ X Y v _ HKX_5.out HKY_5.out HV.out).mono ?_
  rintro e w6 ⟨rfl,hBu⟩
  have HB6:=Aside0.mk (HB5.out.trans (hBu.mono HB5.out.size))
  have HX6:=Aside0.mk (HX5.out.below hBu HX5.out.lt)
  have HY6:=Aside0.mk (HY5.out.below hBu HY5.out.lt)
  have HZ6:=Aside0.mk (HZ5.out.below hBu HZ5.out.lt)
  have HKX_6:=Aside0.mk (Kd.C_below HKX_5.out hBu)
  have HKY_6:=Aside0.mk (Kd.C_below HKY_5.out hBu)
  have HKD_6:=Aside0.mk (Kd.C_below HKD_5.out hBu)
  clear HB5 HX5 HY5 HZ5 HKX_5 HKY_5 HKD_5
  clear x0 x1 x2 y0 y1 y2 hBu
  have KX:Aside0 (∀ w',Below w6.heap.size w6 w' → Kd.bool.C w' AX (bin X).length (bin X)):=⟨fun w' h=>Kd.C_below HKX_6.out h⟩
  have KY:Aside0 (∀ w',Below w6.heap.size w6 w' → Kd.bool.C w' AY (bin Y).length (bin Y)):=⟨fun w' h=>Kd.C_below HKY_6.out h⟩
  have KD:Aside0 (∀ w',Below w6.heap.size w6 w' → Kd.bool.C w' AD (bin D).length (bin D)):=⟨fun w' h=>Kd.C_below HKD_6.out h⟩
  obtain ⟨x0,x1,x2⟩:=box3 HX6.out
  obtain ⟨y0,y1,y2⟩:=box3 HY6.out
  have lx:=HLX.out
  have ly:=HLY.out
  have ld:=HLD.out
  have lz:(bin Z).length ≤ 17592186044416:=by rw [← HZE.out];exact bin_le' (Nat.sub_le _ _) (by omega)
  have hBW:=Below.refl w6.heap.size w6
  have H6:Aside0 (∀ w',Below w6.heap.size w6 w' → w'.cell? ⟨w.heap.size,0,none⟩ = some (.bool r.neg) ∧ w'.cell? ⟨w.heap.size,1,none⟩ = some (.slice A r.num.length c) ∧ w'.cell? ⟨w.heap.size,2,none⟩ = some (.slice B r.den.length d) ∧ w'.cell? ⟨w.heap.size + 1,0,none⟩ = some (.bool r'.neg) ∧ w'.cell? ⟨w.heap.size + 1,1,none⟩ = some (.slice A' r'.num.length c') ∧ w'.cell? ⟨w.heap.size + 1,2,none⟩ = some (.slice B' r'.den.length d')):=⟨fun w' h=>⟨pw_cell_below h x0,pw_cell_below h x1,pw_cell_below h x2,pw_cell_below h y0,pw_cell_below h y1,pw_cell_below h y2⟩⟩
  go_wp2_with fail
  go_region_held3 (fun w'=>w'.cell? ⟨w.heap.size,0,none⟩ = some (.bool r.neg) ∧ w'.cell? ⟨w.heap.size,1,none⟩ = some (.slice A r.num.length c) ∧ w'.cell? ⟨w.heap.size,2,none⟩ = some (.slice B r.den.length d) ∧ w'.cell? ⟨w.heap.size + 1,0,none⟩ = some (.bool r'.neg) ∧ w'.cell? ⟨w.heap.size + 1,1,none⟩ = some (.slice A' r'.num.length c') ∧ w'.cell? ⟨w.heap.size + 1,2,none⟩ = some (.slice B' r'.den.length d'))
   ((first | exact H6.out _ (below_drew hBW) | exact H6.out _ hBp | exact H6.out _ hBz | exact store6 (H6.out _ hBz)))
   (first | (go_at_call 124;(with_reducible refine (l1SubZ _ _ _ _ Y X Z _ (KY.out _ (below_drew hBW)) (KX.out _ (below_drew hBW)) (by omega) (by omega) (Nat.le_of_lt HLE.out) HZE.out).mono ?_);rintro e wp ⟨Ap,cp,rfl,hop,hbp⟩;have hBp:=heldB2 (below_drew hBW) hbp) | (go_at_call 121;(with_reducible refine (l1Make_calls _ Z D _ _ _ _ _ (Kd.R_reads' hop).2.2 (KD.out _ hBp) (Kd.R_reads' hop).2.1 HCD.out lz (by omega) HDN.out).mono ?_);rintro e wz ⟨Az,cz,Bz,dz,rfl,hMz,hbz⟩;have hBz:=heldB2 hBp hbz;obtain ⟨⟨z0,z1,z2⟩,u0,u1,u2⟩:=bfacts (HZ6.out.below hBz HZ6.out.lt);have HMZ:=heldM hMz hBp hBz))
  have hlt:=HZ6.out.lt
  clear x0 x1 x2 y0 y1 y2
  go_wp2
  refine bodyPost_ret (ret_rat Tryz.results87 _ _ (w.heap.size + 1 + 1) _ _ _ rfl (store3 (HZ6.out.below hBz HZ6.out.lt))) rfl ?_
  have hsz:=HB6.out.size
  obtain ⟨hzM,hzB⟩:=HMZ
  rw [HQQ.out]
  exact ⟨_,_,_,_,rfl,Kd.M_mono _ (fun _ _=>trivial) (far3 (ratK.M_lower HB6.out.size hzM) (fun k hk=>by omega)),below3 (HB6.out.trans (hzB.mono HB6.out.size)) (by omega)⟩
set_option maxHeartbeats 4000000 in
set_option maxRecDepth 100000 in
theorem l1add_small (qa qb:Rat) (A c B d A' c' B' d') (w:World) (ha:ratK.K w (repr qa) [.bool (repr qa).neg,.slice A (repr qa).num.length c,.slice B (repr qa).den.length d]) (hb:ratK.K w (repr qb) [.bool (repr qb).neg,.slice A' (repr qb).num.length c',.slice B' (repr qb).den.length d']) (hna:szR qa ≤ 137438953472) (hnb:szR qb ≤ 137438953472) (h1:qa ≠ 0) (h2:qb ≠ 0) (X Y D Z:Nat) (hX:val (repr qa).num * val (repr qb).den = X) (hY:val (repr qb).num * val (repr qa).den = Y) (hD:val (repr qa).den * val (repr qb).den = D) (hP:((repr qa).neg == (repr qb).neg) = true ∧ X + Y = Z ∧ mkRat (sgn (repr qa).neg Z) D = qa + qb ∨ ((repr qa).neg == (repr qb).neg) = false ∧ Y ≤ X ∧ X - Y = Z ∧ mkRat (sgn (repr qa).neg Z) D = qa + qb ∨ ((repr qa).neg == (repr qb).neg) = false ∧ X < Y ∧ Y - X = Z ∧ mkRat (sgn (repr qb).neg Z) D = qa + qb) (hs:smallR (repr qa) = true) (hs':smallR (repr qb) = true) :
  Calls Tryz.prog 87 #[.agg #[.bool (repr qa).neg,.slice A (repr qa).num.length c,.slice B (repr qa).den.length d],.agg #[.bool (repr qb).neg,.slice A' (repr qb).num.length c',.slice B' (repr qb).den.length d']] w (RatPost w (qa + qb)):=by
 have hu:=Tryz.underlying69
 unfold szR at hna hnb
 have e1:(repr qa).num.length ≠ 0:=fun h=>h1 (repr_num_len.1 h)
 have e2:(repr qb).num.length ≠ 0:=fun h=>h2 (repr_num_len.1 h)
 have hla:=repr_limbs qa
 have hlb:=repr_limbs qb
 have n1:=den_ne qa
 have n2:=den_ne qb
 have p1:=(repr_plain qa).2
 have p2:=(repr_plain qb).2
 obtain ⟨r,hr⟩:∃ r,r = repr qa:=⟨_,rfl⟩
 obtain ⟨r',hr'⟩:∃ r,r = repr qb:=⟨_,rfl⟩
 rw [← hr] at ha hna e1 hla n1 p1 hP hX hY hD ⊢
 rw [← hr'] at hb hnb e2 hlb n2 p2 hP hX hY hD ⊢
 have HQA:=Aside0.mk hr
 have HQB:=Aside0.mk hr'
 have HP:=Aside0.mk hP
 have HXE:=Aside0.mk hX
 have HYE:=Aside0.mk hY
 have HDE:=Aside0.mk hD
 have HDN:=Aside0.mk (show D ≠ 0 by rw [← hD];exact Nat.mul_ne_zero n1 n2)
 have HLA:=Aside0.mk hla
 have HLB:=Aside0.mk hlb
 have HN:=Aside0.mk (And.intro n1 n2)
 have HPL:=Aside0.mk (And.intro p1 p2)
 have HA:=Aside0.mk ha
 have HB:=Aside0.mk hb
 have d1:((r.num.length:Int) == 0) = false:=by rw [beq_eq_false_iff_ne];omega
 have d2:((r'.num.length:Int) == 0) = false:=by rw [beq_eq_false_iff_ne];omega
 rw [← hr] at hs
 rw [← hr'] at hs'
 have HS:=Aside0.mk hs
 have HS':=Aside0.mk hs'
 clear hs hs'
 clear ha hb e1 e2 hr hr' h1 h2 hla hlb n1 n2 p1 p2 hX hY hD hP
 go_enter Tryz.func87,Tryz.ntmps87
 go_wp2_with fail
 have f0:=((Blk.new w 69 #[.bool r.neg,.slice A r.num.length c,.slice B r.den.length d]).alloc (.cells #[.bool r'.neg,.slice A' r'.num.length c',.slice B' r'.den.length d'] 69)).alloc (.cells #[.bool false,.slice none 0 0,.slice none 0 0] 69)
 have f1:=(Blk.new (w.alloc (.cells #[.bool r.neg,.slice A r.num.length c,.slice B r.den.length d] 69)) 69 #[.bool r'.neg,.slice A' r'.num.length c',.slice B' r'.den.length d']).alloc (.cells #[.bool false,.slice none 0 0,.slice none 0 0] 69)
 rw [show (w.alloc (.cells #[.bool r.neg,.slice A r.num.length c,.slice B r.den.length d] 69)).heap.size = w.heap.size + 1 from by simp] at f1
 have f2:=Blk.new ((w.alloc (.cells #[.bool r.neg,.slice A r.num.length c,.slice B r.den.length d] 69)).alloc (.cells #[.bool r'.neg,.slice A' r'.num.length c',.slice B' r'.den.length d'] 69)) 69 #[.bool false,.slice none 0 0,.slice none 0 0]
 rw [show ((w.alloc (.cells #[.bool r.neg,.slice A r.num.length c,.slice B r.den.length d] 69)).alloc (.cells #[.bool r'.neg,.slice A' r'.num.length c',.slice B' r'.den.length d'] 69)).heap.size = w.heap.size + 1 + 1 from by simp] at f2
 have fb:=below_alloc (below_alloc (below_alloc (Below.refl w.heap.size w) (.cells #[.bool r.neg,.slice A r.num.length c,.slice B r.den.length d] 69)) (.cells #[.bool r'.neg,.slice A' r'.num.length c',.slice B' r'.den.length d'] 69)) (.cells #[.bool false,.slice none 0 0,.slice none 0 0] 69)
 generalize (((w.alloc (.cells #[.bool r.neg,.slice A r.num.length c,.slice B r.den.length d] 69)).alloc (.cells #[.bool r'.neg,.slice A' r'.num.length c',.slice B' r'.den.length d'] 69)).alloc (.cells #[.bool false,.slice none 0 0,.slice none 0 0] 69)) = W at f0 f1 f2 fb ⊢
 have HF0:=Aside0.mk f0
 have HF1:=Aside0.mk f1
 have HF2:=Aside0.mk f2
 have HF3:=Aside0.mk fb
 clear f0 f1 f2 fb
 have HB0:=HF3
 have HX0:=HF0
 have HY0:=HF1
 have HZ0:=HF2
 clear HF3 HF0 HF1 HF2
 refine (l1IsSmall_calls A B c d r true _ (ratK.K_below HB0.out HA.out) HLA.out.1 HLA.out.2 HS.out).mono ?_
 rintro e w1 ⟨rfl,hb⟩
 have HB1:=Aside0.mk (HB0.out.trans (hb.mono HB0.out.size))
 have HX1:=Aside0.mk (HX0.out.below hb HX0.out.lt)
 have HY1:=Aside0.mk (HY0.out.below hb HY0.out.lt)
 have HZ1:=Aside0.mk (HZ0.out.below hb HZ0.out.lt)
 obtain ⟨x0,x1,x2⟩:=box3 HX1.out
 obtain ⟨y0,y1,y2⟩:=box3 HY1.out
 clear hb
 go_wp2_with fail
 clear x0 x1 x2 y0 y1 y2
 refine (l1IsSmall_calls A' B' c' d' r' true _ (ratK.K_below HB1.out HB.out) HLB.out.1 HLB.out.2 HS'.out).mono ?_
 rintro e w2 ⟨rfl,hb⟩
 have HB2:=Aside0.mk (HB1.out.trans (hb.mono HB1.out.size))
 have HX2:=Aside0.mk (HX1.out.below hb HX1.out.lt)
 have HY2:=Aside0.mk (HY1.out.below hb HY1.out.lt)
 have HZ2:=Aside0.mk (HZ1.out.below hb HZ1.out.lt)
 obtain ⟨x0,x1,x2⟩:=box3 HX2.out
 obtain ⟨y0,y1,y2⟩:=box3 HY2.out
 clear hb
 clear x0 x1 x2 y0 y1 y2
 obtain ⟨x,y,z,hx,hy,hz,x0,x1,y0,y1,z0,z1,ex,ey,ez⟩:=small_sum HS.out HS'.out HLA.out HLB.out HPL.out HN.out
 have mx:IntKind.u64.wrap (rd r.num 0 * rd r'.den 0) = x:=by rw [IntKind.wrap_u64,hx];exact Int.emod_eq_of_lt x0 (by omega)
 have my:IntKind.u64.wrap (rd r'.num 0 * rd r.den 0) = y:=by rw [IntKind.wrap_u64,hy];exact Int.emod_eq_of_lt y0 (by omega)
 have mz:IntKind.u64.wrap (rd r.den 0 * rd r'.den 0) = z:=by rw [IntKind.wrap_u64,hz];exact Int.emod_eq_of_lt (by omega) (by omega)
 have exX:(X:Int) = x:=by rw [← HXE.out,← ex];omega
 have eyY:(Y:Int) = y:=by rw [← HYE.out,← ey];omega
 have ezD:z.toNat = D:=by rw [ez,HDE.out]
 have HXYZ:=Aside0.mk (And.intro exX (And.intro eyY ezD))
 have HXY:=Aside0.mk (And.intro x0 (And.intro x1 (And.intro y0 y1)))
 have HZB:=Aside0.mk (And.intro z0 z1)
 clear hx hy hz x0 x1 y0 y1 z0 z1 ex ey ez exX eyY ezD
 obtain ⟨x0,x1,x2⟩:=box3 HX2.out
 obtain ⟨y0,y1,y2⟩:=box3 HY2.out
 have C1:Aside0 (∀ w',Below w2.heap.size w2 w' → (Kd.int .u32).C w' A r.num.length r.num):=⟨fun w' h=>natK_read (rat_num (ratK.K_below h (ratK.K_below HB2.out HA.out)))⟩
 have C4:Aside0 (∀ w',Below w2.heap.size w2 w' → (Kd.int .u32).C w' B' r'.den.length r'.den):=⟨fun w' h=>natK_read (rat_den (ratK.K_below h (ratK.K_below HB2.out HB.out)))⟩
 have hBW:=Below.refl w2.heap.size w2
 have H6:Aside0 (∀ w',Below w2.heap.size w2 w' → w'.cell? ⟨w.heap.size,0,none⟩ = some (.bool r.neg) ∧ w'.cell? ⟨w.heap.size,1,none⟩ = some (.slice A r.num.length c) ∧ w'.cell? ⟨w.heap.size,2,none⟩ = some (.slice B r.den.length d) ∧ w'.cell? ⟨w.heap.size + 1,0,none⟩ = some (.bool r'.neg) ∧ w'.cell? ⟨w.heap.size + 1,1,none⟩ = some (.slice A' r'.num.length c') ∧ w'.cell? ⟨w.heap.size + 1,2,none⟩ = some (.slice B' r'.den.length d')):=⟨fun w' h=>⟨pw_cell_below h x0,pw_cell_below h x1,pw_cell_below h x2,pw_cell_below h y0,pw_cell_below h y1,pw_cell_below h y2⟩⟩
 go_wp2_with fail
 go_region_held3 (fun w'=>w'.cell? ⟨w.heap.size,0,none⟩ = some (.bool r.neg) ∧ w'.cell? ⟨w.heap.size,1,none⟩ = some (.slice A r.num.length c) ∧ w'.cell? ⟨w.heap.size,2,none⟩ = some (.slice B r.den.length d) ∧ w'.cell? ⟨w.heap.size + 1,0,none⟩ = some (.bool r'.neg) ∧ w'.cell? ⟨w.heap.size + 1,1,none⟩ = some (.slice A' r'.num.length c') ∧ w'.cell? ⟨w.heap.size + 1,2,none⟩ = some (.slice B' r'.den.length d'))
  ((exact H6.out _ (below_drew hBW)))
  (first | (go_at_call_of 97 (Value.slice A r.num.length c);(with_reducible refine (l1Small_calls _ _ r.num _ (C1.out _ (below_drew hBW)) HLA.out.1).mono ?_);rintro e wp ⟨rfl,rfl⟩) | (go_at_call_of 97 (Value.slice B' r'.den.length d');(with_reducible refine (l1Small_calls _ _ r'.den _ (C4.out _ (below_drew hBW)) HLB.out.2).mono ?_);rintro e wq ⟨rfl,rfl⟩))
 have hBd:=below_drew hBW
 generalize w2.drew = w3 at hBd ⊢
 have HB3:=Aside0.mk (HB2.out.trans (hBd.mono HB2.out.size))
 have HX3:=Aside0.mk (HX2.out.below hBd HX2.out.lt)
 have HY3:=Aside0.mk (HY2.out.below hBd HY2.out.lt)
 have HZ3:=Aside0.mk (HZ2.out.below hBd HZ2.out.lt)
 clear HB2 HX2 HY2 HZ2 
 clear x0 x1 x2 y0 y1 y2 hBW H6 C1 C4 hBd
 obtain ⟨x0,x1,x2⟩:=box3 HX3.out
 obtain ⟨y0,y1,y2⟩:=box3 HY3.out
 have C2:Aside0 (∀ w',Below w3.heap.size w3 w' → (Kd.int .u32).C w' A' r'.num.length r'.num):=⟨fun w' h=>natK_read (rat_num (ratK.K_below h (ratK.K_below HB3.out HB.out)))⟩
 have C3:Aside0 (∀ w',Below w3.heap.size w3 w' → (Kd.int .u32).C w' B r.den.length r.den):=⟨fun w' h=>natK_read (rat_den (ratK.K_below h (ratK.K_below HB3.out HA.out)))⟩
 have hBW:=Below.refl w3.heap.size w3
 have H6:Aside0 (∀ w',Below w3.heap.size w3 w' → w'.cell? ⟨w.heap.size,0,none⟩ = some (.bool r.neg) ∧ w'.cell? ⟨w.heap.size,1,none⟩ = some (.slice A r.num.length c) ∧ w'.cell? ⟨w.heap.size,2,none⟩ = some (.slice B r.den.length d) ∧ w'.cell? ⟨w.heap.size + 1,0,none⟩ = some (.bool r'.neg) ∧ w'.cell? ⟨w.heap.size + 1,1,none⟩ = some (.slice A' r'.num.length c') ∧ w'.cell? ⟨w.heap.size + 1,2,none⟩ = some (.slice B' r'.den.length d')):=⟨fun w' h=>⟨pw_cell_below h x0,pw_cell_below h x1,pw_cell_below h x2,pw_cell_below h y0,pw_cell_below h y1,pw_cell_below h y2⟩⟩
 go_wp2_with fail
 go_region_held3 (fun w'=>w'.cell? ⟨w.heap.size,0,none⟩ = some (.bool r.neg) ∧ w'.cell? ⟨w.heap.size,1,none⟩ = some (.slice A r.num.length c) ∧ w'.cell? ⟨w.heap.size,2,none⟩ = some (.slice B r.den.length d) ∧ w'.cell? ⟨w.heap.size + 1,0,none⟩ = some (.bool r'.neg) ∧ w'.cell? ⟨w.heap.size + 1,1,none⟩ = some (.slice A' r'.num.length c') ∧ w'.cell? ⟨w.heap.size + 1,2,none⟩ = some (.slice B' r'.den.length d'))
  ((exact H6.out _ (below_drew hBW)))
  (first | (go_at_call_of 97 (Value.slice A' r'.num.length c');(with_reducible refine (l1Small_calls _ _ r'.num _ (C2.out _ (below_drew hBW)) HLB.out.1).mono ?_);rintro e wp ⟨rfl,rfl⟩) | (go_at_call_of 97 (Value.slice B r.den.length d);(with_reducible refine (l1Small_calls _ _ r.den _ (C3.out _ (below_drew hBW)) HLA.out.2).mono ?_);rintro e wq ⟨rfl,rfl⟩))
 have hBd:=below_drew hBW
 generalize w3.drew = w4 at hBd ⊢
 have HB4:=Aside0.mk (HB3.out.trans (hBd.mono HB3.out.size))
 have HX4:=Aside0.mk (HX3.out.below hBd HX3.out.lt)
 have HY4:=Aside0.mk (HY3.out.below hBd HY3.out.lt)
 have HZ4:=Aside0.mk (HZ3.out.below hBd HZ3.out.lt)
 clear HB3 HX3 HY3 HZ3 
 clear x0 x1 x2 y0 y1 y2 hBW H6 C2 C3 hBd
 obtain ⟨x0,x1,x2⟩:=box3 HX4.out
 obtain ⟨y0,y1,y2⟩:=box3 HY4.out
 have C3:Aside0 (∀ w',Below w4.heap.size w4 w' → (Kd.int .u32).C w' B r.den.length r.den):=⟨fun w' h=>natK_read (rat_den (ratK.K_below h (ratK.K_below HB4.out HA.out)))⟩
 have C4:Aside0 (∀ w',Below w4.heap.size w4 w' → (Kd.int .u32).C w' B' r'.den.length r'.den):=⟨fun w' h=>natK_read (rat_den (ratK.K_below h (ratK.K_below HB4.out HB.out)))⟩
 have hBW:=Below.refl w4.heap.size w4
 have H6:Aside0 (∀ w',Below w4.heap.size w4 w' → w'.cell? ⟨w.heap.size,0,none⟩ = some (.bool r.neg) ∧ w'.cell? ⟨w.heap.size,1,none⟩ = some (.slice A r.num.length c) ∧ w'.cell? ⟨w.heap.size,2,none⟩ = some (.slice B r.den.length d) ∧ w'.cell? ⟨w.heap.size + 1,0,none⟩ = some (.bool r'.neg) ∧ w'.cell? ⟨w.heap.size + 1,1,none⟩ = some (.slice A' r'.num.length c') ∧ w'.cell? ⟨w.heap.size + 1,2,none⟩ = some (.slice B' r'.den.length d')):=⟨fun w' h=>⟨pw_cell_below h x0,pw_cell_below h x1,pw_cell_below h x2,pw_cell_below h y0,pw_cell_below h y1,pw_cell_below h y2⟩⟩
 go_wp2_with fail
 go_region_held3 (fun w'=>w'.cell? ⟨w.heap.size,0,none⟩ = some (.bool r.neg) ∧ w'.cell? ⟨w.heap.size,1,none⟩ = some (.slice A r.num.length c) ∧ w'.cell? ⟨w.heap.size,2,none⟩ = some (.slice B r.den.length d) ∧ w'.cell? ⟨w.heap.size + 1,0,none⟩ = some (.bool r'.neg) ∧ w'.cell? ⟨w.heap.size + 1,1,none⟩ = some (.slice A' r'.num.length c') ∧ w'.cell? ⟨w.heap.size + 1,2,none⟩ = some (.slice B' r'.den.length d'))
  ((exact H6.out _ (below_drew hBW)))
  (first | (go_at_call_of 97 (Value.slice B r.den.length d);(with_reducible refine (l1Small_calls _ _ r.den _ (C3.out _ (below_drew hBW)) HLA.out.2).mono ?_);rintro e wp ⟨rfl,rfl⟩) | (go_at_call_of 97 (Value.slice B' r'.den.length d');(with_reducible refine (l1Small_calls _ _ r'.den _ (C4.out _ (below_drew hBW)) HLB.out.2).mono ?_);rintro e wq ⟨rfl,rfl⟩))
 have hBd:=below_drew hBW
 generalize w4.drew = w5 at hBd ⊢
 have HB5:=Aside0.mk (HB4.out.trans (hBd.mono HB4.out.size))
 have HX5:=Aside0.mk (HX4.out.below hBd HX4.out.lt)
 have HY5:=Aside0.mk (HY4.out.below hBd HY4.out.lt)
 have HZ5:=Aside0.mk (HZ4.out.below hBd HZ4.out.lt)
 clear HB4 HX4 HY4 HZ4 
 clear x0 x1 x2 y0 y1 y2 hBW H6 C3 C4 hBd
 rcases HP.out with ⟨he,hZ,hres⟩ | ⟨he,hle,hZ,hres⟩ | ⟨he,hle,hZ,hres⟩
 ·have HQQ:=Aside0.mk hres.symm
  have HZE:=Aside0.mk hZ
  clear hZ hres HP
  obtain ⟨exX,eyY,ezD⟩:=HXYZ.out
  obtain ⟨x0,x1,y0,y1⟩:=HXY.out
  have hzz:=HZE.out
  obtain ⟨t,ht⟩:∃ t:Int,t = x + y:=⟨_,rfl⟩
  have mt:IntKind.u64.wrap (x + y) = t:=by rw [IntKind.wrap_u64,ht];exact Int.emod_eq_of_lt (by omega) (by omega)
  have tb:0 ≤ t ∧ t ≤ 18446744073709551615:=by omega
  have tZ:t.toNat = Z:=by omega
  have HT:=Aside0.mk (And.intro tZ ezD)
  have HTB:=Aside0.mk tb
  clear x0 x1 y0 y1 exX eyY ezD hzz ht tb tZ 
  obtain ⟨x0,x1,x2⟩:=box3 HX5.out
  obtain ⟨y0,y1,y2⟩:=box3 HY5.out
  go_wp2_with fail
  refine (l1MakeSmall_calls r.neg t z _ HTB.out.1 HTB.out.2 HZB.out.1 (by have:=HZB.out.2;omega)).mono ?_
  rw [HT.out.1,HT.out.2,← HQQ.out]
  rintro e wz ⟨A3,c3,B3,d3,rfl,hM,hb⟩
  have hlt:=HZ5.out.lt
  have HM:=Aside0.mk (Kd.M_mono _ (ok':=fun k=>w5.heap.size ≤ k) (fun k hk=>hk.2.1) (ratK.M_bound hM))
  have HB3:=Aside0.mk (HB5.out.trans (hb.mono HB5.out.size))
  have HRC:=Aside0.mk (HZ5.out.below hb HZ5.out.lt)
  obtain ⟨⟨z0,z1,z2⟩,q0,q1,q2⟩:=bfacts HRC.out
  clear hb hM x0 x1 x2 y0 y1 y2
  go_wp2
  refine bodyPost_ret (ret_rat Tryz.results87 _ _ (w.heap.size + 1 + 1) _ _ _ rfl (store3 HRC.out)) rfl ?_
  exact ⟨_,_,_,_,rfl,Kd.M_mono _ (fun _ _=>trivial) (far3 (ratK.M_lower HB5.out.size HM.out) (fun k hk=>by omega)),below3 HB3.out (by omega)⟩
 ·have HQQ:=Aside0.mk hres.symm
  have HZE:=Aside0.mk hZ
  have HLE:=Aside0.mk hle
  clear hle
  clear hZ hres HP
  obtain ⟨exX,eyY,ezD⟩:=HXYZ.out
  obtain ⟨x0,x1,y0,y1⟩:=HXY.out
  have hle0:=HLE.out
  have hzz:=HZE.out
  obtain ⟨t,ht⟩:∃ t:Int,t = x - y:=⟨_,rfl⟩
  have mt:IntKind.u64.wrap (x - y) = t:=by rw [IntKind.wrap_u64,ht];exact Int.emod_eq_of_lt (by omega) (by omega)
  have tb:0 ≤ t ∧ t ≤ 18446744073709551615:=by omega
  have tZ:t.toNat = Z:=by omega
  have hge:decide (y ≤ x) = true:=decide_eq_true (by omega)
  have HT:=Aside0.mk (And.intro tZ ezD)
  have HTB:=Aside0.mk tb
  clear x0 x1 y0 y1 exX eyY ezD hzz ht tb tZ hle0
  obtain ⟨x0,x1,x2⟩:=box3 HX5.out
  obtain ⟨y0,y1,y2⟩:=box3 HY5.out
  go_wp2_with fail
  refine (l1MakeSmall_calls r.neg t z _ HTB.out.1 HTB.out.2 HZB.out.1 (by have:=HZB.out.2;omega)).mono ?_
  rw [HT.out.1,HT.out.2,← HQQ.out]
  rintro e wz ⟨A3,c3,B3,d3,rfl,hM,hb⟩
  have hlt:=HZ5.out.lt
  have HM:=Aside0.mk (Kd.M_mono _ (ok':=fun k=>w5.heap.size ≤ k) (fun k hk=>hk.2.1) (ratK.M_bound hM))
  have HB3:=Aside0.mk (HB5.out.trans (hb.mono HB5.out.size))
  have HRC:=Aside0.mk (HZ5.out.below hb HZ5.out.lt)
  obtain ⟨⟨z0,z1,z2⟩,q0,q1,q2⟩:=bfacts HRC.out
  clear hb hM x0 x1 x2 y0 y1 y2
  go_wp2
  refine bodyPost_ret (ret_rat Tryz.results87 _ _ (w.heap.size + 1 + 1) _ _ _ rfl (store3 HRC.out)) rfl ?_
  exact ⟨_,_,_,_,rfl,Kd.M_mono _ (fun _ _=>trivial) (far3 (ratK.M_lower HB5.out.size HM.out) (fun k hk=>by omega)),below3 HB3.out (by omega)⟩
 ·have HQQ:=Aside0.mk hres.symm
  have HZE:=Aside0.mk hZ
  have HLE:=Aside0.mk hle
  clear hle
  clear hZ hres HP
  obtain ⟨exX,eyY,ezD⟩:=HXYZ.out
  obtain ⟨x0,x1,y0,y1⟩:=HXY.out
  have hle0:=HLE.out
  have hzz:=HZE.out
  obtain ⟨t,ht⟩:∃ t:Int,t = y - x:=⟨_,rfl⟩
  have mt:IntKind.u64.wrap (y - x) = t:=by rw [IntKind.wrap_u64,ht];exact Int.emod_eq_of_lt (by omega) (by omega)
  have tb:0 ≤ t ∧ t ≤ 18446744073709551615:=by omega
  have tZ:t.toNat = Z:=by omega
  have hge:decide (y ≤ x) = false:=decide_eq_false (by omega)
  have HT:=Aside0.mk (And.intro tZ ezD)
  have HTB:=Aside0.mk tb
  clear x0 x1 y0 y1 exX eyY ezD hzz ht tb tZ hle0
  obtain ⟨x0,x1,x2⟩:=box3 HX5.out
  obtain ⟨y0,y1,y2⟩:=box3 HY5.out
  go_wp2_with fail
  refine (l1MakeSmall_calls r'.neg t z _ HTB.out.1 HTB.out.2 HZB.out.1 (by have:=HZB.out.2;omega)).mono ?_
  rw [HT.out.1,HT.out.2,← HQQ.out]
  rintro e wz ⟨A3,c3,B3,d3,rfl,hM,hb⟩
  have hlt:=HZ5.out.lt
  have HM:=Aside0.mk (Kd.M_mono _ (ok':=fun k=>w5.heap.size ≤ k) (fun k hk=>hk.2.1) (ratK.M_bound hM))
  have HB3:=Aside0.mk (HB5.out.trans (hb.mono HB5.out.size))
  have HRC:=Aside0.mk (HZ5.out.below hb HZ5.out.lt)
  obtain ⟨⟨z0,z1,z2⟩,q0,q1,q2⟩:=bfacts HRC.out
  clear hb hM x0 x1 x2 y0 y1 y2
  go_wp2
  refine bodyPost_ret (ret_rat Tryz.results87 _ _ (w.heap.size + 1 + 1) _ _ _ rfl (store3 HRC.out)) rfl ?_
  exact ⟨_,_,_,_,rfl,Kd.M_mono _ (fun _ _=>trivial) (far3 (ratK.M_lower HB5.out.size HM.out) (fun k hk=>by omega)),below3 HB3.out (by omega)⟩
theorem l1Add_calls (qa qb:Rat) (A c B d A' c' B' d') (w:World) (ha:ratK.K w (repr qa) [.bool (repr qa).neg,.slice A (repr qa).num.length c,.slice B (repr qa).den.length d]) (hb:ratK.K w (repr qb) [.bool (repr qb).neg,.slice A' (repr qb).num.length c',.slice B' (repr qb).den.length d']) (hna:szR qa ≤ 137438953472) (hnb:szR qb ≤ 137438953472) :
  Calls Tryz.prog 87 #[.agg #[.bool (repr qa).neg,.slice A (repr qa).num.length c,.slice B (repr qa).den.length d],.agg #[.bool (repr qb).neg,.slice A' (repr qb).num.length c',.slice B' (repr qb).den.length d']] w (RatPost w (qa + qb)):=by
 by_cases h1:qa = 0
 ·rw [show qa + qb = qb by rw [h1,Rat.zero_add]]
  exact l1add_zero1 qa qb A c B d A' c' B' d' w ha hb hna hnb h1
 by_cases h2:qb = 0
 ·rw [show qa + qb = qa by rw [h2,Rat.add_zero]]
  exact l1add_zero2 qa qb A c B d A' c' B' d' w ha hb hna hnb h1 h2
 have hres:=rat_add qa qb
 obtain ⟨Z,hP⟩:∃ Z,((repr qa).neg == (repr qb).neg) = true ∧ val (repr qa).num * val (repr qb).den + val (repr qb).num * val (repr qa).den = Z ∧ mkRat (sgn (repr qa).neg Z) (val (repr qa).den * val (repr qb).den) = qa + qb ∨ ((repr qa).neg == (repr qb).neg) = false ∧ val (repr qb).num * val (repr qa).den ≤ val (repr qa).num * val (repr qb).den ∧ val (repr qa).num * val (repr qb).den - val (repr qb).num * val (repr qa).den = Z ∧ mkRat (sgn (repr qa).neg Z) (val (repr qa).den * val (repr qb).den) = qa + qb ∨ ((repr qa).neg == (repr qb).neg) = false ∧ val (repr qa).num * val (repr qb).den < val (repr qb).num * val (repr qa).den ∧ val (repr qb).num * val (repr qa).den - val (repr qa).num * val (repr qb).den = Z ∧ mkRat (sgn (repr qb).neg Z) (val (repr qa).den * val (repr qb).den) = qa + qb:=by
  cases he:((repr qa).neg == (repr qb).neg) with
  | true =>
   rw [← beq_iff_eq.1 he,sgn_add_same] at hres
   exact ⟨_,Or.inl ⟨rfl,rfl,hres⟩⟩
  | false =>
   have hne:=beq_eq_false_iff_ne.1 he
   rcases Nat.lt_or_ge (val (repr qa).num * val (repr qb).den) (val (repr qb).num * val (repr qa).den) with hlt | hle
   ·rw [sgn_add_lt hne (Nat.le_of_lt hlt)] at hres
    exact ⟨_,Or.inr (Or.inr ⟨rfl,hlt,rfl,hres⟩)⟩
   ·rw [sgn_add_ge hne hle] at hres
    exact ⟨_,Or.inr (Or.inl ⟨rfl,hle,rfl,hres⟩)⟩
 cases hs:smallR (repr qa) with
 | false=>exact l1add_big1 qa qb A c B d A' c' B' d' w ha hb hna hnb h1 h2 _ _ _ _ rfl rfl rfl hP hs
 | true =>
  cases hs':smallR (repr qb) with
  | false=>exact l1add_big2 qa qb A c B d A' c' B' d' w ha hb hna hnb h1 h2 _ _ _ _ rfl rfl rfl hP hs hs'
  | true=>exact l1add_small qa qb A c B d A' c' B' d' w ha hb hna hnb h1 h2 _ _ _ _ rfl rfl rfl hP hs hs'
end Go.Proofs.YtijldkknhphgcaaGreat.Hand
end

section
/- The document's l1Neg, l1Sub, l1Sign, l1Cmp, RatCmp and RatAdd. Conditions: the rationals can be read, their elements are limbs, and they have at most 2^37 limbs (RatCmp, RatAdd: 2^20 together). -/
set_option linter.unusedVariables false
set_option linter.unusedSimpArgs false
namespace Go.Proofs.YtijldkknhphgcaaGreat.Hand
open Go.RowKit Go.Proofs.YtijldkknhphgcaaGreatW.PrintWords Go.Proofs.YtijldkknhphgcaaGreatW.PrintLast Go.Proofs.YtijldkknhphgcaaGreatW.PrintMore
theorem szR_neg (q:Rat):szR (-q) = szR q:=by unfold szR;rw [repr_neg]
theorem ratM_neg {w:World} {base:Nat} {ok:Nat → Prop} {r:Rt} {v v':Value} {s:Bool} (h:ratK.M w base ok r [.bool s,v,v']) (b:Bool):ratK.M w base ok ⟨b,r.num,r.den⟩ [.bool b,v,v']:=by
 obtain ⟨P,rfl,h1,h2⟩:=ratK_rows h
 exact ratK_made2 (natK_made h1) (natK_made h2) (fun k hk=>hk.1) (fun k hk=>hk.1) (fun k hk hk'=>hk'.2 hk.2)
set_option maxHeartbeats 2000000 in
set_option maxRecDepth 100000 in
theorem l1Neg_calls (q:Rat) (A c B d) (w:World) (hr:ratK.K w (repr q) [.bool (repr q).neg,.slice A (repr q).num.length c,.slice B (repr q).den.length d]) (hn:szR q ≤ 1099511627776) :
  Calls Tryz.prog 102 #[.agg #[.bool (repr q).neg,.slice A (repr q).num.length c,.slice B (repr q).den.length d]] w (RatPost w (-q)):=by
 have hu:=Tryz.underlying69
 unfold szR at hn
 have HQ:=Aside0.mk (repr_neg q)
 obtain ⟨b,hb0⟩:∃ b,(decide (q ≠ 0) && !(repr q).neg) = b:=⟨_,rfl⟩
 rw [hb0] at HQ
 have hz:q ≠ 0 ↔ (repr q).num.length ≠ 0:=not_congr repr_num_len.symm
 obtain ⟨r,hr'⟩:∃ r,r = repr q:=⟨_,rfl⟩
 rw [← hr'] at hr hn HQ hb0 hz ⊢
 have HR:=Aside0.mk hr
 have hbb:(r.neg = true ∧ b = false) ∨ (r.neg = false ∧ decide (0 < r.num.length) = b):=by
  cases hs:r.neg with
  | true=>left;rw [hs] at hb0;simp at hb0;exact ⟨rfl,by rw [← hb0]⟩
  | false =>
   right
   refine ⟨rfl,?_⟩
   rw [← hb0,hs]
   by_cases h0:q ≠ 0
   ·have:=hz.1 h0
    rw [decide_eq_true h0,decide_eq_true (by omega)];rfl
   ·have:¬ r.num.length ≠ 0:=fun h=>h0 (hz.2 h)
    rw [decide_eq_false h0,decide_eq_false (by omega)];rfl
 clear hr hr' hz hb0
 go_enter Tryz.func102,Tryz.ntmps102
 go_wp2_with fail
 have f0:=(Blk.new w 69 #[.bool r.neg,.slice A r.num.length c,.slice B r.den.length d]).alloc (.cells #[.bool false,.slice none 0 0,.slice none 0 0] 69)
 have f1:=Blk.new (w.alloc (.cells #[.bool r.neg,.slice A r.num.length c,.slice B r.den.length d] 69)) 69 #[.bool false,.slice none 0 0,.slice none 0 0]
 rw [show (w.alloc (.cells #[.bool r.neg,.slice A r.num.length c,.slice B r.den.length d] 69)).heap.size = w.heap.size + 1 from by simp] at f1
 have fb:=below_alloc (below_alloc (Below.refl w.heap.size w) (.cells #[.bool r.neg,.slice A r.num.length c,.slice B r.den.length d] 69)) (.cells #[.bool false,.slice none 0 0,.slice none 0 0] 69)
 generalize ((w.alloc (.cells #[.bool r.neg,.slice A r.num.length c,.slice B r.den.length d] 69)).alloc (.cells #[.bool false,.slice none 0 0,.slice none 0 0] 69)) = W at f0 f1 fb ⊢
 have HX:=Aside0.mk f0
 have HZ:=Aside0.mk f1
 have HB0:=Aside0.mk fb
 clear f0 f1 fb
 refine (l1Copy_K r _ (ratK.K_below HB0.out HR.out) (by omega)).mono ?_
 rintro e w1 ⟨A1,c1,B1,d1,rfl,hM,hb⟩
 have HX1:=Aside0.mk (HX.out.below hb HX.out.lt)
 have HZ1:=Aside0.mk (HZ.out.below hb HZ.out.lt)
 have HB1:=Aside0.mk (HB0.out.trans (hb.mono HB0.out.size))
 have HM:=Aside0.mk hM
 have hs1:=hb.size
 clear hM hb
 go_upto_region 2 with fail
 have HC:=Aside0.mk (Blk.new w1 69 #[.bool r.neg,.slice A1 r.num.length c1,.slice B1 r.den.length d1])
 have hb:=below_alloc (Below.refl w1.heap.size w1) (.cells #[.bool r.neg,.slice A1 r.num.length c1,.slice B1 r.den.length d1] 69)
 generalize w1.alloc (.cells #[.bool r.neg,.slice A1 r.num.length c1,.slice B1 r.den.length d1] 69) = w2 at HC hb ⊢
 have HX2:=Aside0.mk (HX1.out.below hb HX1.out.lt)
 have HZ2:=Aside0.mk (HZ1.out.below hb HZ1.out.lt)
 have HB2:=Aside0.mk (HB1.out.trans (hb.mono HB1.out.size))
 have HM2:=Aside0.mk (Kd.M_below (ratM_neg (ratK.M_lower HB0.out.size (Kd.M_mono _ (ok':=fun k=>W.heap.size ≤ k ∧ k < w1.heap.size) (fun k hk=>⟨hk.2.1,hk.2.2.1⟩) (ratK.M_bound HM.out))) b) hb)
 clear hb
 have hlt:=HZ.out.lt
 obtain ⟨g,hg⟩:∃ g,g = w1.heap.size:=⟨_,rfl⟩
 rw [← hg] at HC ⊢
 have HC3:=Aside0.mk (HC.out.set_ 0 (.bool b))
 have HZ3:=Aside0.mk (HZ2.out.far (p:=⟨g,0,none⟩) (by show w.heap.size + 1 ≠ g;omega) (.bool b))
 have HB3:=Aside0.mk (HB2.out.setCell (p:=⟨g,0,none⟩) (by show w.heap.size ≤ g;omega) (.bool b))
 have HM3:=Aside0.mk (Kd.M_far HM2.out (p:=⟨g,0,none⟩) (fun k hk=>by show k ≠ g;omega) (.bool b))
 clear hg
 rcases hbb with ⟨hs,rfl⟩ | ⟨hs,hd⟩
 ·obtain ⟨x0,x1,x2⟩:=box3 HX2.out
  obtain ⟨⟨c0,c1',c2⟩,c3,c4,c5⟩:=bfacts HC.out
  rw [hs] at x0 c0
  go_upto_region 3 with fail
  generalize w2.setCell ⟨g,0,none⟩ (.bool false) = w3 at HC3 HZ3 HB3 HM3 ⊢
  obtain ⟨c0,c1',c2⟩:=box3 HC3.out
  obtain ⟨⟨z0,z1,z2⟩,q0,q1,q2⟩:=bfacts HZ3.out
  go_wp2
  refine bodyPost_ret (ret_rat Tryz.results102 _ _ (w.heap.size + 1) _ _ _ rfl (store3 HZ3.out)) rfl ?_
  refine rat_post2 HQ.out ?_ (below3 HB3.out (by omega))
  exact Kd.M_mono _ (fun _ _=>trivial) (far3 HM3.out (fun k hk=>by omega))
 ·obtain ⟨x0,x1,x2⟩:=box3 HX2.out
  obtain ⟨⟨c0,c1',c2⟩,c3,c4,c5⟩:=bfacts HC.out
  rw [hs] at x0 c0
  go_upto_region 3 with fail
  try rw [hd]
  generalize w2.setCell ⟨g,0,none⟩ (.bool b) = w3 at HC3 HZ3 HB3 HM3 ⊢
  obtain ⟨c0,c1',c2⟩:=box3 HC3.out
  obtain ⟨⟨z0,z1,z2⟩,q0,q1,q2⟩:=bfacts HZ3.out
  go_wp2
  refine bodyPost_ret (ret_rat Tryz.results102 _ _ (w.heap.size + 1) _ _ _ rfl (store3 HZ3.out)) rfl ?_
  refine rat_post2 HQ.out ?_ (below3 HB3.out (by omega))
  exact Kd.M_mono _ (fun _ _=>trivial) (far3 HM3.out (fun k hk=>by omega))
set_option maxHeartbeats 2000000 in
set_option maxRecDepth 100000 in
theorem l1Sub_calls (qa qb:Rat) (A c B d A' c' B' d') (w:World) (ha:ratK.K w (repr qa) [.bool (repr qa).neg,.slice A (repr qa).num.length c,.slice B (repr qa).den.length d]) (hb:ratK.K w (repr qb) [.bool (repr qb).neg,.slice A' (repr qb).num.length c',.slice B' (repr qb).den.length d']) (hna:szR qa ≤ 137438953472) (hnb:szR qb ≤ 137438953472) :
  Calls Tryz.prog 67 #[.agg #[.bool (repr qa).neg,.slice A (repr qa).num.length c,.slice B (repr qa).den.length d],.agg #[.bool (repr qb).neg,.slice A' (repr qb).num.length c',.slice B' (repr qb).den.length d']] w (RatPost w (qa - qb)):=by
 have hu:=Tryz.underlying69
 have hsa:szR qa ≤ 137438953472:=hna
 have hsb:szR qb ≤ 137438953472:=hnb
 obtain ⟨r,hr⟩:∃ r,r = repr qa:=⟨_,rfl⟩
 obtain ⟨r',hr'⟩:∃ r,r = repr qb:=⟨_,rfl⟩
 have HQA:=Aside0.mk hr
 have HQB:=Aside0.mk hr'
 rw [← hr] at ha ⊢
 rw [← hr'] at hb ⊢
 have HA:=Aside0.mk ha
 have HB:=Aside0.mk hb
 clear ha hb hr hr' hna hnb
 go_enter Tryz.func67,Tryz.ntmps67
 go_upto_region 1 with fail
 have f0:=((Blk.new w 69 #[.bool r.neg,.slice A r.num.length c,.slice B r.den.length d]).alloc (.cells #[.bool r'.neg,.slice A' r'.num.length c',.slice B' r'.den.length d'] 69)).alloc (.cells #[.bool false,.slice none 0 0,.slice none 0 0] 69)
 have f1:=(Blk.new (w.alloc (.cells #[.bool r.neg,.slice A r.num.length c,.slice B r.den.length d] 69)) 69 #[.bool r'.neg,.slice A' r'.num.length c',.slice B' r'.den.length d']).alloc (.cells #[.bool false,.slice none 0 0,.slice none 0 0] 69)
 rw [show (w.alloc (.cells #[.bool r.neg,.slice A r.num.length c,.slice B r.den.length d] 69)).heap.size = w.heap.size + 1 from by simp] at f1
 have f2:=Blk.new ((w.alloc (.cells #[.bool r.neg,.slice A r.num.length c,.slice B r.den.length d] 69)).alloc (.cells #[.bool r'.neg,.slice A' r'.num.length c',.slice B' r'.den.length d'] 69)) 69 #[.bool false,.slice none 0 0,.slice none 0 0]
 rw [show ((w.alloc (.cells #[.bool r.neg,.slice A r.num.length c,.slice B r.den.length d] 69)).alloc (.cells #[.bool r'.neg,.slice A' r'.num.length c',.slice B' r'.den.length d'] 69)).heap.size = w.heap.size + 1 + 1 from by simp] at f2
 have fb:=below_alloc (below_alloc (below_alloc (Below.refl w.heap.size w) (.cells #[.bool r.neg,.slice A r.num.length c,.slice B r.den.length d] 69)) (.cells #[.bool r'.neg,.slice A' r'.num.length c',.slice B' r'.den.length d'] 69)) (.cells #[.bool false,.slice none 0 0,.slice none 0 0] 69)
 generalize (((w.alloc (.cells #[.bool r.neg,.slice A r.num.length c,.slice B r.den.length d] 69)).alloc (.cells #[.bool r'.neg,.slice A' r'.num.length c',.slice B' r'.den.length d'] 69)).alloc (.cells #[.bool false,.slice none 0 0,.slice none 0 0] 69)) = w0 at f0 f1 f2 fb ⊢
 have HX0:=Aside0.mk f0
 have HY0:=Aside0.mk f1
 have HZ0:=Aside0.mk f2
 have HB0:=Aside0.mk fb
 clear f0 f1 f2 fb
 have CI:Aside0 (∀ w',Below w0.heap.size w0 w' → Calls Tryz.prog 102 #[.agg #[.bool r'.neg,.slice A' r'.num.length c',.slice B' r'.den.length d']] w' (RatPost w' (-qb))):=⟨fun w' h=>by have hk:=ratK.K_below h (ratK.K_below HB0.out HB.out);rw [HQB.out] at hk ⊢;exact l1Neg_calls qb _ _ _ _ _ hk (by omega)⟩
 have CM:Aside0 (∀ w' Ai ci Bi di,Below w0.heap.size w0 w' → ratK.K w' (repr (-qb)) [.bool (repr (-qb)).neg,.slice Ai (repr (-qb)).num.length ci,.slice Bi (repr (-qb)).den.length di] → Calls Tryz.prog 87 #[.agg #[.bool r.neg,.slice A r.num.length c,.slice B r.den.length d],.agg #[.bool (repr (-qb)).neg,.slice Ai (repr (-qb)).num.length ci,.slice Bi (repr (-qb)).den.length di]] w' (RatPost w' (qa - qb))):=⟨fun w' Ai ci Bi di h hi=>by rw [Rat.sub_eq_add_neg];have hk:=ratK.K_below h (ratK.K_below HB0.out HA.out);rw [HQA.out] at hk ⊢;exact l1Add_calls qa (-qb) _ _ _ _ _ _ _ _ _ hk hi hsa (by rw [szR_neg];omega)⟩
 clear hsa hsb
 obtain ⟨x0,x1,x2⟩:=box3 HX0.out
 obtain ⟨y0,y1,y2⟩:=box3 HY0.out
 have hBW:=Below.refl w0.heap.size w0
 have H6:Aside0 (∀ w',Below w0.heap.size w0 w' → w'.cell? ⟨w.heap.size,0,none⟩ = some (.bool r.neg) ∧ w'.cell? ⟨w.heap.size,1,none⟩ = some (.slice A r.num.length c) ∧ w'.cell? ⟨w.heap.size,2,none⟩ = some (.slice B r.den.length d) ∧ w'.cell? ⟨w.heap.size + 1,0,none⟩ = some (.bool r'.neg) ∧ w'.cell? ⟨w.heap.size + 1,1,none⟩ = some (.slice A' r'.num.length c') ∧ w'.cell? ⟨w.heap.size + 1,2,none⟩ = some (.slice B' r'.den.length d')):=⟨fun w' h=>⟨pw_cell_below h x0,pw_cell_below h x1,pw_cell_below h x2,pw_cell_below h y0,pw_cell_below h y1,pw_cell_below h y2⟩⟩
 go_wp2_with fail
 go_region_held3 (fun w'=>w'.cell? ⟨w.heap.size,0,none⟩ = some (.bool r.neg) ∧ w'.cell? ⟨w.heap.size,1,none⟩ = some (.slice A r.num.length c) ∧ w'.cell? ⟨w.heap.size,2,none⟩ = some (.slice B r.den.length d) ∧ w'.cell? ⟨w.heap.size + 1,0,none⟩ = some (.bool r'.neg) ∧ w'.cell? ⟨w.heap.size + 1,1,none⟩ = some (.slice A' r'.num.length c') ∧ w'.cell? ⟨w.heap.size + 1,2,none⟩ = some (.slice B' r'.den.length d'))
  ((first | exact H6.out _ (below_drew hBW) | exact H6.out _ hBi | exact H6.out _ hBz | exact store6 (H6.out _ hBz)))
  (first | (go_at_call 102;(with_reducible refine (CI.out _ (below_drew hBW)).mono ?_);rintro e wi ⟨Ai,ci,Bi,di,rfl,hoi,hbi⟩;have hBi:=heldB2 (below_drew hBW) hbi) | (go_at_call 87;(with_reducible refine (CM.out _ _ _ _ _ hBi (ratK.K_of_M hoi)).mono ?_);rintro e wz ⟨Az,cz,Bz,dz,rfl,hMz,hbz⟩;have hBz:=heldB2 hBi hbz;obtain ⟨⟨z0,z1,z2⟩,u0,u1,u2⟩:=bfacts (HZ0.out.below hBz HZ0.out.lt);have HMZ:=heldM hMz hBi hBz))
 have hlt:=HZ0.out.lt
 have hs2:=HB0.out.size
 clear x0 x1 x2 y0 y1 y2
 go_wp2
 refine bodyPost_ret (ret_rat Tryz.results67 _ _ (w.heap.size + 1 + 1) _ _ _ rfl (store3 (HZ0.out.below hBz HZ0.out.lt))) rfl ?_
 exact ⟨_,_,_,_,rfl,Kd.M_mono _ (fun _ _=>trivial) (far3 (ratK.M_lower HB0.out.size HMZ.1) (fun k hk=>by omega)),below3 (HB0.out.trans (HMZ.2.mono HB0.out.size)) (by omega)⟩
set_option maxRecDepth 100000 in
theorem l1Sign_calls (s:Bool) (A B:Option Addr) (n c m d:Nat) (z:Int) (w:World) (hz:signI s n = z) :
  Calls Tryz.prog 66 #[.agg #[.bool s,.slice A n c,.slice B m d]] w fun e w'=>e = .returned (.int .i64 z) ∧ Below w.heap.size w w':=by
 have hu:=Tryz.underlying69
 unfold signI at hz
 rcases Nat.eq_zero_or_pos n with h0 | h0
 ·rw [if_pos h0] at hz
  have hd:((n:Int) == 0) = true:=by rw [beq_iff_eq];omega
  subst hz
  clear h0
  go_enter Tryz.func66,Tryz.ntmps66
  go_wp2
  go_ret
  exact ⟨rfl,below_alloc (Below.refl _ _) _⟩
 ·rw [if_neg (by omega)] at hz
  have hd:((n:Int) == 0) = false:=by rw [beq_eq_false_iff_ne];omega
  subst hz
  clear h0
  cases s
  all_goals
   go_enter Tryz.func66,Tryz.ntmps66
   go_wp2
   go_ret
   exact ⟨rfl,below_alloc (Below.refl _ _) _⟩
def sgnQ (q:Rat):Int:=signI (repr q).neg (repr q).num.length
set_option maxHeartbeats 2000000 in
set_option maxRecDepth 100000 in
theorem l1Cmp_calls (qa qb:Rat) (A c B d A' c' B' d') (w:World) (ha:ratK.K w (repr qa) [.bool (repr qa).neg,.slice A (repr qa).num.length c,.slice B (repr qa).den.length d]) (hb:ratK.K w (repr qb) [.bool (repr qb).neg,.slice A' (repr qb).num.length c',.slice B' (repr qb).den.length d']) (hna:szR qa ≤ 137438953472) (hnb:szR qb ≤ 137438953472) :
  Calls Tryz.prog 34 #[.agg #[.bool (repr qa).neg,.slice A (repr qa).num.length c,.slice B (repr qa).den.length d],.agg #[.bool (repr qb).neg,.slice A' (repr qb).num.length c',.slice B' (repr qb).den.length d']] w fun e w'=>e = .returned (.int .i64 (sgnQ (qa - qb))) ∧ Below w.heap.size w w':=by
 obtain ⟨z,hz⟩:∃ z,sgnQ (qa - qb) = z:=⟨_,rfl⟩
 rw [hz]
 have HZQ:=Aside0.mk hz
 clear hz
 have hu:=Tryz.underlying69
 have hsa:szR qa ≤ 137438953472:=hna
 have hsb:szR qb ≤ 137438953472:=hnb
 obtain ⟨r,hr⟩:∃ r,r = repr qa:=⟨_,rfl⟩
 obtain ⟨r',hr'⟩:∃ r,r = repr qb:=⟨_,rfl⟩
 have HQA:=Aside0.mk hr
 have HQB:=Aside0.mk hr'
 rw [← hr] at ha ⊢
 rw [← hr'] at hb ⊢
 have HA:=Aside0.mk ha
 have HB:=Aside0.mk hb
 clear ha hb hr hr' hna hnb
 go_enter Tryz.func34,Tryz.ntmps34
 go_wp2_with fail
 have f0:=(Blk.new w 69 #[.bool r.neg,.slice A r.num.length c,.slice B r.den.length d]).alloc (.cells #[.bool r'.neg,.slice A' r'.num.length c',.slice B' r'.den.length d'] 69)
 have f1:=Blk.new (w.alloc (.cells #[.bool r.neg,.slice A r.num.length c,.slice B r.den.length d] 69)) 69 #[.bool r'.neg,.slice A' r'.num.length c',.slice B' r'.den.length d']
 rw [show (w.alloc (.cells #[.bool r.neg,.slice A r.num.length c,.slice B r.den.length d] 69)).heap.size = w.heap.size + 1 from by simp] at f1
 have fb:=below_alloc (below_alloc (Below.refl w.heap.size w) (.cells #[.bool r.neg,.slice A r.num.length c,.slice B r.den.length d] 69)) (.cells #[.bool r'.neg,.slice A' r'.num.length c',.slice B' r'.den.length d'] 69)
 generalize ((w.alloc (.cells #[.bool r.neg,.slice A r.num.length c,.slice B r.den.length d] 69)).alloc (.cells #[.bool r'.neg,.slice A' r'.num.length c',.slice B' r'.den.length d'] 69)) = W at f0 f1 fb ⊢
 have HB0:=Aside0.mk fb
 clear f0 f1 fb
 rw [HQA.out,HQB.out]
 refine (l1Sub_calls qa qb _ _ _ _ _ _ _ _ _ (by have:=ratK.K_below HB0.out HA.out;rw [HQA.out] at this;exact this) (by have:=ratK.K_below HB0.out HB.out;rw [HQB.out] at this;exact this) hsa hsb).mono ?_
 rintro e w1 ⟨A3,c3,B3,d3,rfl,hM,hb⟩
 have HB1:=Aside0.mk (HB0.out.trans (hb.mono HB0.out.size))
 clear hM hb
 go_wp2_with fail
 refine (l1Sign_calls _ _ _ _ _ _ _ z _ HZQ.out).mono ?_
 rintro e w2 ⟨rfl,hb⟩
 have HB2:=Aside0.mk (HB1.out.trans (hb.mono HB1.out.size))
 clear hb
 go_wp2
 go_ret
 exact ⟨rfl,HB2.out⟩
end Go.Proofs.YtijldkknhphgcaaGreat.Hand
end

section
/- The program's compare and RatCmp. Conditions: the rationals can be read, their elements are limbs, and they have at most 2^38 limbs (RatCmp: 2^20 together). -/
set_option linter.unusedVariables false
set_option linter.unusedSimpArgs false
namespace Go.Proofs.YtijldkknhphgcaaGreat.Hand
open Go.RowKit Go.Proofs.YtijldkknhphgcaaGreatW.PrintWords Go.Proofs.YtijldkknhphgcaaGreatW.PrintLast Go.Proofs.YtijldkknhphgcaaGreatW.PrintMore
def sgnZ (n:Int):Int:=if n < 0 then -1 else if n = 0 then 0 else 1
theorem sgnQ_num (q:Rat):sgnQ q = sgnZ q.num:=by
 unfold sgnQ signI sgnZ
 by_cases h0:q = 0
 ·rw [if_pos (repr_num_len.2 h0)]
  subst h0;rfl
 ·have hn:q.num ≠ 0:=fun h=>h0 (Rat.num_eq_zero.1 h)
  rw [if_neg (fun h=>h0 (repr_num_len.1 h)),show (repr q).neg = decide (q.num < 0) from rfl]
  by_cases h1:q.num < 0
  ·rw [if_pos h1,decide_eq_true h1];rfl
  ·rw [if_neg h1,if_neg hn,decide_eq_false h1];rfl
theorem sgnQ_mkRat (n:Int) {d:Nat} (hd:d ≠ 0):sgnQ (mkRat n d) = sgnZ n:=by
 rw [sgnQ_num]
 obtain ⟨m,hm,h1,h2⟩:=Rat.mkRat_num_den (n:=n) (n':=(mkRat n d).num) hd (d':=(mkRat n d).den) (z':=(mkRat n d).den_nz) (c:=(mkRat n d).reduced) rfl
 generalize (mkRat n d).num = a at h1
 have hm':(0:Int) < m:=by omega
 unfold sgnZ
 rw [h1]
 rcases Int.lt_trichotomy a 0 with h | h | h
 ·rw [if_pos h,if_pos (Int.mul_neg_of_neg_of_pos h hm')]
 ·subst h;simp
 ·have:=Int.mul_pos h hm'
  rw [if_neg (by omega),if_neg (by omega),if_neg (by omega),if_neg (by omega)]
theorem sgnZ_mul (a:Int) {d:Nat} (hd:d ≠ 0):sgnZ (a * d) = sgnZ a:=by
 have hm':(0:Int) < d:=by omega
 unfold sgnZ
 rcases Int.lt_trichotomy a 0 with h | h | h
 ·rw [if_pos h,if_pos (Int.mul_neg_of_neg_of_pos h hm')]
 ·subst h;simp
 ·have:=Int.mul_pos h hm'
  rw [if_neg (by omega),if_neg (by omega),if_neg (by omega),if_neg (by omega)]
theorem sgnZ_neg {n:Int} (h:n < 0):sgnZ n = -1:=by unfold sgnZ;rw [if_pos h]
theorem sgnZ_zero {n:Int} (h:n = 0):sgnZ n = 0:=by subst h;rfl
theorem sgnZ_pos {n:Int} (h:0 < n):sgnZ n = 1:=by unfold sgnZ;rw [if_neg (by omega),if_neg (by omega)]
theorem sgnZ_key (P Q:Int):sgnZ (P - Q) = if sgnZ P ≠ sgnZ Q ∨ sgnZ P = 0 then cmpI (sgnZ P) (sgnZ Q) else sgnZ P * cmpN P.natAbs Q.natAbs:=by
 rcases Int.lt_trichotomy P 0 with h | h | h <;> rcases Int.lt_trichotomy Q 0 with h' | h' | h'
 ·rw [sgnZ_neg h,sgnZ_neg h',if_neg (by decide)]
  rcases Int.lt_trichotomy P Q with k | k | k
  ·rw [sgnZ_neg (by omega),cmpN_gt (by omega)];rfl
  ·rw [sgnZ_zero (by omega),cmpN_eq (by omega)];rfl
  ·rw [sgnZ_pos (by omega),cmpN_lt (by omega)];rfl
 ·rw [sgnZ_neg h,sgnZ_zero h',if_pos (by decide),sgnZ_neg (by omega)];rfl
 ·rw [sgnZ_neg h,sgnZ_pos h',if_pos (by decide),sgnZ_neg (by omega)];rfl
 ·rw [sgnZ_zero h,sgnZ_neg h',if_pos (by decide),sgnZ_pos (by omega)];rfl
 ·rw [sgnZ_zero h,sgnZ_zero h',if_pos (by decide),sgnZ_zero (by omega)];rfl
 ·rw [sgnZ_zero h,sgnZ_pos h',if_pos (by decide),sgnZ_neg (by omega)];rfl
 ·rw [sgnZ_pos h,sgnZ_neg h',if_pos (by decide),sgnZ_pos (by omega)];rfl
 ·rw [sgnZ_pos h,sgnZ_zero h',if_pos (by decide),sgnZ_pos (by omega)];rfl
 ·rw [sgnZ_pos h,sgnZ_pos h',if_neg (by decide)]
  rcases Int.lt_trichotomy P Q with k | k | k
  ·rw [sgnZ_neg (by omega),cmpN_lt (by omega)];rfl
  ·rw [sgnZ_zero (by omega),cmpN_eq (by omega)];rfl
  ·rw [sgnZ_pos (by omega),cmpN_gt (by omega)];rfl
theorem sgnQ_sub (a b:Rat):sgnQ (a - b) = if sgnQ a ≠ sgnQ b ∨ sgnQ a = 0 then cmpI (sgnQ a) (sgnQ b) else sgnQ a * cmpN (val (repr a).num * val (repr b).den) (val (repr b).num * val (repr a).den):=by
 rw [Rat.sub_def',sgnQ_mkRat _ (Nat.mul_ne_zero a.den_nz b.den_nz),sgnQ_num a,sgnQ_num b,← sgnZ_mul a.num b.den_nz,← sgnZ_mul b.num a.den_nz,val_num,val_num,val_den,val_den]
 have e1:a.num.natAbs * b.den = (a.num * (b.den:Int)).natAbs:=by rw [Int.natAbs_mul];rfl
 have e2:b.num.natAbs * a.den = (b.num * (a.den:Int)).natAbs:=by rw [Int.natAbs_mul];rfl
 rw [e1,e2]
 exact sgnZ_key _ _
theorem cmpX (A A':Option Addr) (c c':Nat) (x y:Nat) (v:Int) (w:World) (hr:(Kd.int .u32).C w A (lim x).length (lim x)) (hr':(Kd.int .u32).C w A' (lim y).length (lim y)) (hv:cmpN x y = v) :
  Calls Tryz.prog 74 #[.slice A (lim x).length c,.slice A' (lim y).length c'] w fun e w'=>e = .returned (.int .i64 v) ∧ Below w.heap.size w w':=by
 refine (cmp_calls A A' c c' (lim x) (lim y) w hr hr' (limbs_lim x) (limbs_lim y) (plain_lim x) (plain_lim y)).mono ?_
 rintro e w' ⟨rfl,hd⟩
 rw [val_lim,val_lim,hv]
 exact ⟨rfl,hd.below⟩
set_option maxHeartbeats 2000000 in
set_option maxRecDepth 100000 in
theorem compare_ne (qa qb:Rat) (A c B d A' c' B' d') (w:World) (ha:ratK.K w (repr qa) [.bool (repr qa).neg,.slice A (repr qa).num.length c,.slice B (repr qa).den.length d]) (hb:ratK.K w (repr qb) [.bool (repr qb).neg,.slice A' (repr qb).num.length c',.slice B' (repr qb).den.length d']) (hna:szR qa ≤ 274877906944) (hnb:szR qb ≤ 274877906944) (s t z:Int) (hs:sgnQ qa = s) (ht:sgnQ qb = t) (hz:sgnQ (qa - qb) = z) (hne:(s != t) = true) (hc:cmpI s t = z) :
  Calls Tryz.prog 40 #[.agg #[.bool (repr qa).neg,.slice A (repr qa).num.length c,.slice B (repr qa).den.length d],.agg #[.bool (repr qb).neg,.slice A' (repr qb).num.length c',.slice B' (repr qb).den.length d']] w fun e w'=>e = .returned (.int .i64 (sgnQ (qa - qb))) ∧ Below w.heap.size w w':=by
 have hu:=Tryz.underlying69
 unfold szR at hna hnb
 have hla:=repr_limbs qa
 have hlb:=repr_limbs qb
 unfold sgnQ at hs ht
 rw [hz]
 obtain ⟨r,hr⟩:∃ r,r = repr qa:=⟨_,rfl⟩
 obtain ⟨r',hr'⟩:∃ r,r = repr qb:=⟨_,rfl⟩
 rw [← hr] at ha hna hla hs ⊢
 rw [← hr'] at hb hnb hlb ht ⊢
 have HA:=Aside0.mk ha
 have HB:=Aside0.mk hb
 have HLA:=Aside0.mk hla
 have HLB:=Aside0.mk hlb
 have HS:=Aside0.mk hs
 have HT:=Aside0.mk ht
 have HC:=Aside0.mk hc
 clear hc
 clear ha hb hr hr' hz hla hlb hs ht
 go_enter Tryz.func40,Tryz.ntmps40
 go_upto_region 1 with fail
 have f0:=(Blk.new w 69 #[.bool r.neg,.slice A r.num.length c,.slice B r.den.length d]).alloc (.cells #[.bool r'.neg,.slice A' r'.num.length c',.slice B' r'.den.length d'] 69)
 have f1:=Blk.new (w.alloc (.cells #[.bool r.neg,.slice A r.num.length c,.slice B r.den.length d] 69)) 69 #[.bool r'.neg,.slice A' r'.num.length c',.slice B' r'.den.length d']
 rw [show (w.alloc (.cells #[.bool r.neg,.slice A r.num.length c,.slice B r.den.length d] 69)).heap.size = w.heap.size + 1 from by simp] at f1
 have fb:=below_alloc (below_alloc (Below.refl w.heap.size w) (.cells #[.bool r.neg,.slice A r.num.length c,.slice B r.den.length d] 69)) (.cells #[.bool r'.neg,.slice A' r'.num.length c',.slice B' r'.den.length d'] 69)
 generalize ((w.alloc (.cells #[.bool r.neg,.slice A r.num.length c,.slice B r.den.length d] 69)).alloc (.cells #[.bool r'.neg,.slice A' r'.num.length c',.slice B' r'.den.length d'] 69)) = W at f0 f1 fb ⊢
 have HX0:=Aside0.mk f0
 have HY0:=Aside0.mk f1
 have HB0:=Aside0.mk fb
 clear f0 f1 fb
 obtain ⟨x0,x1,x2⟩:=box3 HX0.out
 obtain ⟨y0,y1,y2⟩:=box3 HY0.out
 have hBW:=Below.refl W.heap.size W
 have H6:Aside0 (∀ w',Below W.heap.size W w' → w'.cell? ⟨w.heap.size,0,none⟩ = some (.bool r.neg) ∧ w'.cell? ⟨w.heap.size,1,none⟩ = some (.slice A r.num.length c) ∧ w'.cell? ⟨w.heap.size,2,none⟩ = some (.slice B r.den.length d) ∧ w'.cell? ⟨w.heap.size + 1,0,none⟩ = some (.bool r'.neg) ∧ w'.cell? ⟨w.heap.size + 1,1,none⟩ = some (.slice A' r'.num.length c') ∧ w'.cell? ⟨w.heap.size + 1,2,none⟩ = some (.slice B' r'.den.length d')):=⟨fun w' h=>⟨pw_cell_below h x0,pw_cell_below h x1,pw_cell_below h x2,pw_cell_below h y0,pw_cell_below h y1,pw_cell_below h y2⟩⟩
 go_wp2_with fail
 go_region_held3 (fun w'=>w'.cell? ⟨w.heap.size,0,none⟩ = some (.bool r.neg) ∧ w'.cell? ⟨w.heap.size,1,none⟩ = some (.slice A r.num.length c) ∧ w'.cell? ⟨w.heap.size,2,none⟩ = some (.slice B r.den.length d) ∧ w'.cell? ⟨w.heap.size + 1,0,none⟩ = some (.bool r'.neg) ∧ w'.cell? ⟨w.heap.size + 1,1,none⟩ = some (.slice A' r'.num.length c') ∧ w'.cell? ⟨w.heap.size + 1,2,none⟩ = some (.slice B' r'.den.length d'))
  ((first | exact H6.out _ (below_drew hBW) | exact H6.out _ hBp | exact H6.out _ hBq))
  (first | (go_at_call_of 42 (Value.agg #[.bool r.neg,.slice A r.num.length c,.slice B r.den.length d]);(with_reducible refine (sign_calls _ _ _ _ _ _ _ s _ HS.out).mono ?_);rintro e wp ⟨rfl,hbp⟩;have hBp:=heldB2 (below_drew hBW) hbp) | (go_at_call_of 42 (Value.agg #[.bool r'.neg,.slice A' r'.num.length c',.slice B' r'.den.length d']);(with_reducible refine (sign_calls _ _ _ _ _ _ _ t _ HT.out).mono ?_);rintro e wq ⟨rfl,hbq⟩;have hBq:=heldB2 hBp hbq))
 have HBQ:=Aside0.mk hBq
 have HB1:=Aside0.mk (HB0.out.trans (hBq.mono HB0.out.size))
 have HX1:=Aside0.mk (HX0.out.below hBq HX0.out.lt)
 have HY1:=Aside0.mk (HY0.out.below hBq HY0.out.lt)
 clear hbp hbq hBp hBq hBW H6 x0 x1 x2 y0 y1 y2
 go_wp2_with fail
 refine (cmpInt_calls s t _).mono ?_
 rintro e w1 ⟨rfl,rfl⟩
 rw [HC.out]
 go_wp2
 go_ret
 exact ⟨rfl,HB1.out⟩
set_option maxHeartbeats 2000000 in
set_option maxRecDepth 100000 in
theorem compare_zero (qa qb:Rat) (A c B d A' c' B' d') (w:World) (ha:ratK.K w (repr qa) [.bool (repr qa).neg,.slice A (repr qa).num.length c,.slice B (repr qa).den.length d]) (hb:ratK.K w (repr qb) [.bool (repr qb).neg,.slice A' (repr qb).num.length c',.slice B' (repr qb).den.length d']) (hna:szR qa ≤ 274877906944) (hnb:szR qb ≤ 274877906944) (hs:sgnQ qa = 0) (ht:sgnQ qb = 0) (hz:sgnQ (qa - qb) = 0) :
  Calls Tryz.prog 40 #[.agg #[.bool (repr qa).neg,.slice A (repr qa).num.length c,.slice B (repr qa).den.length d],.agg #[.bool (repr qb).neg,.slice A' (repr qb).num.length c',.slice B' (repr qb).den.length d']] w fun e w'=>e = .returned (.int .i64 (sgnQ (qa - qb))) ∧ Below w.heap.size w w':=by
 have hu:=Tryz.underlying69
 unfold szR at hna hnb
 have hla:=repr_limbs qa
 have hlb:=repr_limbs qb
 unfold sgnQ at hs ht
 rw [hz]
 obtain ⟨r,hr⟩:∃ r,r = repr qa:=⟨_,rfl⟩
 obtain ⟨r',hr'⟩:∃ r,r = repr qb:=⟨_,rfl⟩
 rw [← hr] at ha hna hla hs ⊢
 rw [← hr'] at hb hnb hlb ht ⊢
 have HA:=Aside0.mk ha
 have HB:=Aside0.mk hb
 have HLA:=Aside0.mk hla
 have HLB:=Aside0.mk hlb
 have HS:=Aside0.mk hs
 have HT:=Aside0.mk ht
 clear ha hb hr hr' hz hla hlb hs ht
 go_enter Tryz.func40,Tryz.ntmps40
 go_upto_region 1 with fail
 have f0:=(Blk.new w 69 #[.bool r.neg,.slice A r.num.length c,.slice B r.den.length d]).alloc (.cells #[.bool r'.neg,.slice A' r'.num.length c',.slice B' r'.den.length d'] 69)
 have f1:=Blk.new (w.alloc (.cells #[.bool r.neg,.slice A r.num.length c,.slice B r.den.length d] 69)) 69 #[.bool r'.neg,.slice A' r'.num.length c',.slice B' r'.den.length d']
 rw [show (w.alloc (.cells #[.bool r.neg,.slice A r.num.length c,.slice B r.den.length d] 69)).heap.size = w.heap.size + 1 from by simp] at f1
 have fb:=below_alloc (below_alloc (Below.refl w.heap.size w) (.cells #[.bool r.neg,.slice A r.num.length c,.slice B r.den.length d] 69)) (.cells #[.bool r'.neg,.slice A' r'.num.length c',.slice B' r'.den.length d'] 69)
 generalize ((w.alloc (.cells #[.bool r.neg,.slice A r.num.length c,.slice B r.den.length d] 69)).alloc (.cells #[.bool r'.neg,.slice A' r'.num.length c',.slice B' r'.den.length d'] 69)) = W at f0 f1 fb ⊢
 have HX0:=Aside0.mk f0
 have HY0:=Aside0.mk f1
 have HB0:=Aside0.mk fb
 clear f0 f1 fb
 obtain ⟨x0,x1,x2⟩:=box3 HX0.out
 obtain ⟨y0,y1,y2⟩:=box3 HY0.out
 have hBW:=Below.refl W.heap.size W
 have H6:Aside0 (∀ w',Below W.heap.size W w' → w'.cell? ⟨w.heap.size,0,none⟩ = some (.bool r.neg) ∧ w'.cell? ⟨w.heap.size,1,none⟩ = some (.slice A r.num.length c) ∧ w'.cell? ⟨w.heap.size,2,none⟩ = some (.slice B r.den.length d) ∧ w'.cell? ⟨w.heap.size + 1,0,none⟩ = some (.bool r'.neg) ∧ w'.cell? ⟨w.heap.size + 1,1,none⟩ = some (.slice A' r'.num.length c') ∧ w'.cell? ⟨w.heap.size + 1,2,none⟩ = some (.slice B' r'.den.length d')):=⟨fun w' h=>⟨pw_cell_below h x0,pw_cell_below h x1,pw_cell_below h x2,pw_cell_below h y0,pw_cell_below h y1,pw_cell_below h y2⟩⟩
 go_wp2_with fail
 go_region_held3 (fun w'=>w'.cell? ⟨w.heap.size,0,none⟩ = some (.bool r.neg) ∧ w'.cell? ⟨w.heap.size,1,none⟩ = some (.slice A r.num.length c) ∧ w'.cell? ⟨w.heap.size,2,none⟩ = some (.slice B r.den.length d) ∧ w'.cell? ⟨w.heap.size + 1,0,none⟩ = some (.bool r'.neg) ∧ w'.cell? ⟨w.heap.size + 1,1,none⟩ = some (.slice A' r'.num.length c') ∧ w'.cell? ⟨w.heap.size + 1,2,none⟩ = some (.slice B' r'.den.length d'))
  ((first | exact H6.out _ (below_drew hBW) | exact H6.out _ hBp | exact H6.out _ hBq))
  (first | (go_at_call_of 42 (Value.agg #[.bool r.neg,.slice A r.num.length c,.slice B r.den.length d]);(with_reducible refine (sign_calls _ _ _ _ _ _ _ 0 _ HS.out).mono ?_);rintro e wp ⟨rfl,hbp⟩;have hBp:=heldB2 (below_drew hBW) hbp) | (go_at_call_of 42 (Value.agg #[.bool r'.neg,.slice A' r'.num.length c',.slice B' r'.den.length d']);(with_reducible refine (sign_calls _ _ _ _ _ _ _ 0 _ HT.out).mono ?_);rintro e wq ⟨rfl,hbq⟩;have hBq:=heldB2 hBp hbq))
 have HBQ:=Aside0.mk hBq
 have HB1:=Aside0.mk (HB0.out.trans (hBq.mono HB0.out.size))
 have HX1:=Aside0.mk (HX0.out.below hBq HX0.out.lt)
 have HY1:=Aside0.mk (HY0.out.below hBq HY0.out.lt)
 clear hbp hbq hBp hBq hBW H6 x0 x1 x2 y0 y1 y2
 go_wp2_with fail
 refine (cmpInt_calls 0 0 _).mono ?_
 rintro e w1 ⟨rfl,rfl⟩
 rw [show cmpI 0 0 = 0 from rfl]
 go_wp2
 go_ret
 exact ⟨rfl,HB1.out⟩
set_option maxHeartbeats 2000000 in
set_option maxRecDepth 100000 in
theorem compare_same (qa qb:Rat) (A c B d A' c' B' d') (w:World) (ha:ratK.K w (repr qa) [.bool (repr qa).neg,.slice A (repr qa).num.length c,.slice B (repr qa).den.length d]) (hb:ratK.K w (repr qb) [.bool (repr qb).neg,.slice A' (repr qb).num.length c',.slice B' (repr qb).den.length d']) (hna:szR qa ≤ 274877906944) (hnb:szR qb ≤ 274877906944) (s v z:Int) (hs:sgnQ qa = s) (ht:sgnQ qb = s) (hz:sgnQ (qa - qb) = z) (hne:(s == 0) = false) (hv:cmpN (val (repr qa).num * val (repr qb).den) (val (repr qb).num * val (repr qa).den) = v) (hw:IntKind.i64.wrap (s * v) = z) :
  Calls Tryz.prog 40 #[.agg #[.bool (repr qa).neg,.slice A (repr qa).num.length c,.slice B (repr qa).den.length d],.agg #[.bool (repr qb).neg,.slice A' (repr qb).num.length c',.slice B' (repr qb).den.length d']] w fun e w'=>e = .returned (.int .i64 (sgnQ (qa - qb))) ∧ Below w.heap.size w w':=by
 have hu:=Tryz.underlying69
 unfold szR at hna hnb
 have hla:=repr_limbs qa
 have hlb:=repr_limbs qb
 unfold sgnQ at hs ht
 rw [hz]
 obtain ⟨r,hr⟩:∃ r,r = repr qa:=⟨_,rfl⟩
 obtain ⟨r',hr'⟩:∃ r,r = repr qb:=⟨_,rfl⟩
 rw [← hr] at ha hna hla hs ⊢
 rw [← hr'] at hb hnb hlb ht ⊢
 have HA:=Aside0.mk ha
 have HB:=Aside0.mk hb
 have HLA:=Aside0.mk hla
 have HLB:=Aside0.mk hlb
 have HS:=Aside0.mk hs
 have HT:=Aside0.mk ht
 rw [← hr,← hr'] at hv
 have HV:=Aside0.mk hv
 have hss:(s != s) = false:=by simp
 clear hv
 clear ha hb hr hr' hz hla hlb hs ht
 go_enter Tryz.func40,Tryz.ntmps40
 go_upto_region 1 with fail
 have f0:=(Blk.new w 69 #[.bool r.neg,.slice A r.num.length c,.slice B r.den.length d]).alloc (.cells #[.bool r'.neg,.slice A' r'.num.length c',.slice B' r'.den.length d'] 69)
 have f1:=Blk.new (w.alloc (.cells #[.bool r.neg,.slice A r.num.length c,.slice B r.den.length d] 69)) 69 #[.bool r'.neg,.slice A' r'.num.length c',.slice B' r'.den.length d']
 rw [show (w.alloc (.cells #[.bool r.neg,.slice A r.num.length c,.slice B r.den.length d] 69)).heap.size = w.heap.size + 1 from by simp] at f1
 have fb:=below_alloc (below_alloc (Below.refl w.heap.size w) (.cells #[.bool r.neg,.slice A r.num.length c,.slice B r.den.length d] 69)) (.cells #[.bool r'.neg,.slice A' r'.num.length c',.slice B' r'.den.length d'] 69)
 generalize ((w.alloc (.cells #[.bool r.neg,.slice A r.num.length c,.slice B r.den.length d] 69)).alloc (.cells #[.bool r'.neg,.slice A' r'.num.length c',.slice B' r'.den.length d'] 69)) = W at f0 f1 fb ⊢
 have HX0:=Aside0.mk f0
 have HY0:=Aside0.mk f1
 have HB0:=Aside0.mk fb
 clear f0 f1 fb
 obtain ⟨x0,x1,x2⟩:=box3 HX0.out
 obtain ⟨y0,y1,y2⟩:=box3 HY0.out
 have hBW:=Below.refl W.heap.size W
 have H6:Aside0 (∀ w',Below W.heap.size W w' → w'.cell? ⟨w.heap.size,0,none⟩ = some (.bool r.neg) ∧ w'.cell? ⟨w.heap.size,1,none⟩ = some (.slice A r.num.length c) ∧ w'.cell? ⟨w.heap.size,2,none⟩ = some (.slice B r.den.length d) ∧ w'.cell? ⟨w.heap.size + 1,0,none⟩ = some (.bool r'.neg) ∧ w'.cell? ⟨w.heap.size + 1,1,none⟩ = some (.slice A' r'.num.length c') ∧ w'.cell? ⟨w.heap.size + 1,2,none⟩ = some (.slice B' r'.den.length d')):=⟨fun w' h=>⟨pw_cell_below h x0,pw_cell_below h x1,pw_cell_below h x2,pw_cell_below h y0,pw_cell_below h y1,pw_cell_below h y2⟩⟩
 go_wp2_with fail
 go_region_held3 (fun w'=>w'.cell? ⟨w.heap.size,0,none⟩ = some (.bool r.neg) ∧ w'.cell? ⟨w.heap.size,1,none⟩ = some (.slice A r.num.length c) ∧ w'.cell? ⟨w.heap.size,2,none⟩ = some (.slice B r.den.length d) ∧ w'.cell? ⟨w.heap.size + 1,0,none⟩ = some (.bool r'.neg) ∧ w'.cell? ⟨w.heap.size + 1,1,none⟩ = some (.slice A' r'.num.length c') ∧ w'.cell? ⟨w.heap.size + 1,2,none⟩ = some (.slice B' r'.den.length d'))
  ((first | exact H6.out _ (below_drew hBW) | exact H6.out _ hBp | exact H6.out _ hBq))
  (first | (go_at_call_of 42 (Value.agg #[.bool r.neg,.slice A r.num.length c,.slice B r.den.length d]);(with_reducible refine (sign_calls _ _ _ _ _ _ _ s _ HS.out).mono ?_);rintro e wp ⟨rfl,hbp⟩;have hBp:=heldB2 (below_drew hBW) hbp) | (go_at_call_of 42 (Value.agg #[.bool r'.neg,.slice A' r'.num.length c',.slice B' r'.den.length d']);(with_reducible refine (sign_calls _ _ _ _ _ _ _ s _ HT.out).mono ?_);rintro e wq ⟨rfl,hbq⟩;have hBq:=heldB2 hBp hbq))
 have HBQ:=Aside0.mk hBq
 have HB1:=Aside0.mk (HB0.out.trans (hBq.mono HB0.out.size))
 have HX1:=Aside0.mk (HX0.out.below hBq HX0.out.lt)
 have HY1:=Aside0.mk (HY0.out.below hBq HY0.out.lt)
 clear hbp hbq hBp hBq hBW H6 x0 x1 x2 y0 y1 y2
 have M1:Aside0 (∀ w',Below wq.heap.size wq w' → MulOk w' A r.num.length c r.num):=⟨fun w' h=>⟨rat_num (ratK.K_below h (ratK.K_below HB1.out HA.out)),HLA.out.1,by omega⟩⟩
 have M2:Aside0 (∀ w',Below wq.heap.size wq w' → MulOk w' B' r'.den.length d' r'.den):=⟨fun w' h=>⟨rat_den (ratK.K_below h (ratK.K_below HB1.out HB.out)),HLB.out.2,by omega⟩⟩
 have M3:Aside0 (∀ w',Below wq.heap.size wq w' → MulOk w' A' r'.num.length c' r'.num):=⟨fun w' h=>⟨rat_num (ratK.K_below h (ratK.K_below HB1.out HB.out)),HLB.out.1,by omega⟩⟩
 have M4:Aside0 (∀ w',Below wq.heap.size wq w' → MulOk w' B r.den.length d r.den):=⟨fun w' h=>⟨rat_den (ratK.K_below h (ratK.K_below HB1.out HA.out)),HLA.out.2,by omega⟩⟩
 obtain ⟨x0,x1,x2⟩:=box3 HX1.out
 obtain ⟨y0,y1,y2⟩:=box3 HY1.out
 have hBW:=Below.refl wq.heap.size wq
 have H6:Aside0 (∀ w',Below wq.heap.size wq w' → w'.cell? ⟨w.heap.size,0,none⟩ = some (.bool r.neg) ∧ w'.cell? ⟨w.heap.size,1,none⟩ = some (.slice A r.num.length c) ∧ w'.cell? ⟨w.heap.size,2,none⟩ = some (.slice B r.den.length d) ∧ w'.cell? ⟨w.heap.size + 1,0,none⟩ = some (.bool r'.neg) ∧ w'.cell? ⟨w.heap.size + 1,1,none⟩ = some (.slice A' r'.num.length c') ∧ w'.cell? ⟨w.heap.size + 1,2,none⟩ = some (.slice B' r'.den.length d')):=⟨fun w' h=>⟨pw_cell_below h x0,pw_cell_below h x1,pw_cell_below h x2,pw_cell_below h y0,pw_cell_below h y1,pw_cell_below h y2⟩⟩
 go_wp2_with fail
 go_region_held3 (fun w'=>w'.cell? ⟨w.heap.size,0,none⟩ = some (.bool r.neg) ∧ w'.cell? ⟨w.heap.size,1,none⟩ = some (.slice A r.num.length c) ∧ w'.cell? ⟨w.heap.size,2,none⟩ = some (.slice B r.den.length d) ∧ w'.cell? ⟨w.heap.size + 1,0,none⟩ = some (.bool r'.neg) ∧ w'.cell? ⟨w.heap.size + 1,1,none⟩ = some (.slice A' r'.num.length c') ∧ w'.cell? ⟨w.heap.size + 1,2,none⟩ = some (.slice B' r'.den.length d'))
  ((first | exact H6.out _ (below_drew hBW) | exact H6.out _ hBs | exact H6.out _ hBm | exact H6.out _ hBn | exact H6.out _ hBv))
  (first | (go_at_call_of 42 (Value.agg #[.bool r.neg,.slice A r.num.length c,.slice B r.den.length d]);(with_reducible refine (sign_calls _ _ _ _ _ _ _ s _ HS.out).mono ?_);rintro e ws ⟨rfl,hbs⟩;have hBs:=heldB2 (below_drew hBW) hbs) | (go_at_call_of 73 (Value.slice A r.num.length c);(with_reducible refine (mulX _ _ _ _ _ _ _ r.num r'.den (M1.out _ hBs) (M2.out _ hBs)).mono ?_);rintro e wm ⟨Am,cm,rfl,hom,hbm⟩;have hBm:=heldB2 hBs hbm) | (go_at_call_of 73 (Value.slice A' r'.num.length c');(with_reducible refine (mulX _ _ _ _ _ _ _ r'.num r.den (M3.out _ hBm) (M4.out _ hBm)).mono ?_);rintro e wn ⟨An,cn,rfl,hon,hbn⟩;have hBn:=heldB2 hBm hbn) | (go_at_call 74;(with_reducible refine (cmpX _ _ _ _ (val r.num * val r'.den) (val r'.num * val r.den) v _ (Kd.C_below (Kd.R_reads' hom).2.2 hbn) (Kd.R_reads' hon).2.2 HV.out).mono ?_);rintro e wv ⟨rfl,hbv⟩;have hBv:=heldB2 hBn hbv))
 have HB2:=Aside0.mk (HB1.out.trans (hBv.mono HB1.out.size))
 clear x0 x1 x2 y0 y1 y2
 go_wp2
 go_ret
 exact ⟨rfl,HB2.out⟩
theorem compare_calls (qa qb:Rat) (A c B d A' c' B' d') (w:World) (ha:ratK.K w (repr qa) [.bool (repr qa).neg,.slice A (repr qa).num.length c,.slice B (repr qa).den.length d]) (hb:ratK.K w (repr qb) [.bool (repr qb).neg,.slice A' (repr qb).num.length c',.slice B' (repr qb).den.length d']) (hna:szR qa ≤ 274877906944) (hnb:szR qb ≤ 274877906944) :
  Calls Tryz.prog 40 #[.agg #[.bool (repr qa).neg,.slice A (repr qa).num.length c,.slice B (repr qa).den.length d],.agg #[.bool (repr qb).neg,.slice A' (repr qb).num.length c',.slice B' (repr qb).den.length d']] w fun e w'=>e = .returned (.int .i64 (sgnQ (qa - qb))) ∧ Below w.heap.size w w':=by
 have h:=sgnQ_sub qa qb
 by_cases h1:sgnQ qa = sgnQ qb
 ·by_cases h2:sgnQ qa = 0
  ·rw [if_pos (.inr h2),← h1,h2] at h
   exact compare_zero qa qb A c B d A' c' B' d' w ha hb hna hnb h2 (h1 ▸ h2) h
  ·rw [if_neg (by rintro (h | h);exact h h1;exact h2 h)] at h
   refine compare_same qa qb A c B d A' c' B' d' w ha hb hna hnb (sgnQ qa) _ _ rfl h1.symm h (by rw [beq_eq_false_iff_ne];exact h2) rfl ?_
   have e1:sgnQ qa = -1 ∨ sgnQ qa = 0 ∨ sgnQ qa = 1:=by unfold sgnQ signI;split;(· simp);(· split <;> simp)
   have e2:∀ x y,cmpN x y = -1 ∨ cmpN x y = 0 ∨ cmpN x y = 1:=by intro x y;unfold cmpN;split;(· simp);(· split <;> simp)
   have e3:=e2 (val (repr qa).num * val (repr qb).den) (val (repr qb).num * val (repr qa).den)
   generalize cmpN (val (repr qa).num * val (repr qb).den) (val (repr qb).num * val (repr qa).den) = v at e3 ⊢
   rcases e1 with e1 | e1 | e1 <;> rcases e3 with rfl | rfl | rfl <;> rw [e1] <;> rfl
 ·rw [if_pos (.inl h1)] at h
  exact compare_ne qa qb A c B d A' c' B' d' w ha hb hna hnb _ _ _ rfl rfl h (by rw [bne_iff_ne];exact h1) rfl
end Go.Proofs.YtijldkknhphgcaaGreat.Hand
end

section
/- Comparisons of numbers, as the views have them. The conditions stand with each. -/
set_option linter.unusedVariables false
set_option linter.unusedSimpArgs false
namespace Go.Proofs.YtijldkknhphgcaaGreat.Pv
open Go.RowKit Go.Proofs.YtijldkknhphgcaaGreatW.PrintWords
def cmpF (a b:RtD):Int:=Hand.sgnQ (ratQ a - ratQ b)
def RGood (g:RtD):Prop:=Rok g ∧ rokF g = true
def cmpCon:Con:=⟨RtD × RtD,fun g=>[(true,rowR g.1),(true,rowR g.2)],fun g=>RGood g.1 ∧ RGood g.2,fun _ g=>int .i64 (cmpF g.1 g.2),true⟩
theorem args2 {m:M} {d e:Bool × List D} {vs:List Value} (h:argsRel m [d,e] vs):∃ v v' us us',vs = [v,v'] ∧ (RelDL m d.2 us ∧ mkV d.1 us = some v) ∧ RelDL m e.2 us' ∧ mkV e.1 us' = some v':=by
 obtain ⟨h1,h2⟩:=h
 match vs,h1 with
 | [v,v'],_ =>
  obtain ⟨us,h3⟩:=h2 0 _ v rfl rfl
  obtain ⟨us',h4⟩:=h2 1 _ v' rfl rfl
  exact ⟨v,v',us,us',rfl,h3,h4⟩
theorem rat_K {m:M} {g:RtD} {us:List Value} {v:Value} (h:RelDL m (rowR g) us) (hv:mkV true us = some v) (hr:RGood g) :
  ∃ A c B d,v = .agg #[.bool (Hand.repr (ratQ g)).neg,.slice A (Hand.repr (ratQ g)).num.length c,.slice B (Hand.repr (ratQ g)).den.length d] ∧
   Hand.ratK.K m.w (Hand.repr (ratQ g)) [.bool (Hand.repr (ratQ g)).neg,.slice A (Hand.repr (ratQ g)).num.length c,.slice B (Hand.repr (ratQ g)).den.length d] ∧
   (Hand.repr (ratQ g)).num.length ≤ 1048576 ∧ (Hand.repr (ratQ g)).den.length ≤ 1048576:=by
 obtain ⟨A,c,B,d,rfl,h1,h2,h3,h4⟩:=rat_v h hv hr.1
 have e1:(tR g).num.length = g.2.1.length:=ints_len _
 have e2:(tR g).den.length = g.2.2.length:=ints_len _
 have hK:=Hand.ratK_of h1 h2 h3 h4 (s:=(tR g).neg)
 rw [← repr_R hr.1 hr.2]
 exact ⟨A,c,B,d,rfl,hK,by rw [e1];exact hr.1.1.2,by rw [e2];exact hr.1.2.2⟩
theorem cmp_valid:Valid Tryz.prog 40 cmpCon:=by
 refine ⟨⟨_,Tryz.func40,rfl,rfl⟩,fun (g:RtD × RtD) (hp:RGood g.1 ∧ RGood g.2) nm w ok tk0 vs hok _ hargs=>?_⟩
 obtain ⟨v,v',us,us',rfl,⟨h1,h2⟩,h3,h4⟩:=args2 hargs
 obtain ⟨A,c,B,d,rfl,hK,l1,l2⟩:=rat_K h1 h2 hp.1
 obtain ⟨A',c',B',d',rfl,hK',l1',l2'⟩:=rat_K h3 h4 hp.2
 refine (Hand.compare_calls (ratQ g.1) (ratQ g.2) A c B d A' c' B' d' w hK hK' (by unfold Hand.szR;omega) (by unfold Hand.szR;omega)).mono ?_
 rintro e w' ⟨rfl,hb⟩
 exact ⟨_,TK.no,rfl,hb,relX_sc rfl⟩
theorem specCmp_valid:Valid Tryz.prog 34 cmpCon:=by
 refine ⟨⟨_,Tryz.func34,rfl,rfl⟩,fun (g:RtD × RtD) (hp:RGood g.1 ∧ RGood g.2) nm w ok tk0 vs hok _ hargs=>?_⟩
 obtain ⟨v,v',us,us',rfl,⟨h1,h2⟩,h3,h4⟩:=args2 hargs
 obtain ⟨A,c,B,d,rfl,hK,l1,l2⟩:=rat_K h1 h2 hp.1
 obtain ⟨A',c',B',d',rfl,hK',l1',l2'⟩:=rat_K h3 h4 hp.2
 refine (Hand.l1Cmp_calls (ratQ g.1) (ratQ g.2) A c B d A' c' B' d' w hK hK' (by unfold Hand.szR;omega) (by unfold Hand.szR;omega)).mono ?_
 rintro e w' ⟨rfl,hb⟩
 exact ⟨_,TK.no,rfl,hb,relX_sc rfl⟩
def signCon:Con:=⟨RtD,fun g=>[(true,rowR g)],Rok,fun _ g=>int .i64 (Hand.signI g.1 g.2.1.length),true⟩
theorem sign_valid:Valid Tryz.prog 42 signCon:=by
 refine ⟨⟨_,Tryz.func42,rfl,rfl⟩,fun (g:RtD) (hp:Rok g) nm w ok tk0 vs hok _ hargs=>?_⟩
 obtain ⟨A,c,B,d,rfl,h1,h2,h3,h4⟩:=rat_arg hargs hp
 have e1:(tR g).num.length = g.2.1.length:=ints_len _
 refine (Hand.sign_calls (tR g).neg A B (tR g).num.length c (tR g).den.length d _ w rfl).mono ?_
 rw [e1]
 rintro e w' ⟨rfl,hb⟩
 exact ⟨_,TK.no,rfl,hb,relX_sc rfl⟩
end Go.Proofs.YtijldkknhphgcaaGreat.Pv
end
