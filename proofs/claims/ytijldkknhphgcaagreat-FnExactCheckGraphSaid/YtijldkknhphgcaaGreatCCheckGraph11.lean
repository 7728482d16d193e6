/- Texts of one proof, one behind the other: each tells what it proves. -/
import Derived.Test.YtijldkknhphgcaaGreatCCheckGraph4

section
/- The document's functions on lists of bits, and its NatMul, NatDivMod, NatGcd. The conditions stand with each part. -/
set_option linter.unusedVariables false
set_option linter.unusedSimpArgs false
namespace Go.Proofs.YtijldkknhphgcaaGreat.Hand
open Go.RowKit Go.Proofs.YtijldkknhphgcaaGreatW.PrintWords
def bval:List Bool → Nat
 | []=>0
 | b :: l=>b.toNat + 2 * bval l
def bin (n:Nat):List Bool:=if h:n = 0 then [] else decide (n % 2 = 1) :: bin (n / 2)
termination_by n
decreasing_by omega
def BPlain (l:List Bool):Prop:=∀ h:l ≠ [],l.getLast h = true
abbrev rb (l:List Bool) (i:Int):Bool:=rdOf false l i
theorem bin_zero:bin 0 = []:=by rw [bin];simp
theorem bin_pos {n:Nat} (h:n ≠ 0):bin n = decide (n % 2 = 1) :: bin (n / 2):=by rw [bin];simp [h]
theorem bin_nil_iff {n:Nat}:bin n = [] ↔ n = 0:=by
 constructor
 ·intro h
  rcases Nat.eq_zero_or_pos n with h0 | h0
  ·exact h0
  ·rw [bin_pos (by omega)] at h;simp at h
 ·rintro rfl;exact bin_zero
theorem toNat_decide (n:Nat):(decide (n % 2 = 1)).toNat = n % 2:=by
 rcases Nat.mod_two_eq_zero_or_one n with h | h <;> simp [h]
theorem bval_bin (n:Nat):bval (bin n) = n:=by
 induction n using Nat.strongRecOn with
 | _ n ih =>
  rcases Nat.eq_zero_or_pos n with h | h
  ·subst h;rw [bin_zero];rfl
  ·rw [bin_pos (by omega),bval,ih _ (by omega),toNat_decide];omega
theorem bplain_bin (n:Nat):BPlain (bin n):=by
 induction n using Nat.strongRecOn with
 | _ n ih =>
  rcases Nat.eq_zero_or_pos n with h | h
  ·subst h;rw [bin_zero];intro hne;exact absurd rfl hne
  ·rw [bin_pos (by omega)]
   intro hne
   by_cases hd:n / 2 = 0
   ·simp only [hd,bin_zero,List.getLast_singleton]
    exact decide_eq_true (by omega)
   ·have hn:bin (n / 2) ≠ []:=fun h=>hd (bin_nil_iff.1 h)
    rw [List.getLast_cons hn]
    exact ih _ (by omega) hn
theorem bval_append (a b:List Bool):bval (a ++ b) = bval a + 2 ^ a.length * bval b:=by
 induction a with
 | nil=>simp [bval]
 | cons x xs ih =>
  simp only [List.cons_append,bval,List.length_cons,Nat.pow_succ,ih]
  rw [Nat.mul_add,Nat.mul_comm (2 ^ xs.length) 2,Nat.mul_assoc,Nat.add_assoc]
theorem bval_lt (a:List Bool):bval a < 2 ^ a.length:=by
 induction a with
 | nil=>simp [bval]
 | cons x xs ih =>
  rw [bval,List.length_cons,Nat.pow_succ]
  have:=Bool.toNat_lt x
  omega
theorem bval_one (b:Bool):bval [b] = b.toNat:=by simp [bval]
theorem rb_lt {a:List Bool} {i:Nat} (h:i < a.length):rb a (i:Int) = a[i]:=by
 unfold rb rdOf
 rw [Int.toNat_natCast,List.getD_eq_getElem?_getD,List.getElem?_eq_getElem h];rfl
theorem rb_ge {a:List Bool} {i:Nat} (h:a.length ≤ i):rb a (i:Int) = false:=by
 unfold rb rdOf
 rw [Int.toNat_natCast,List.getD_eq_getElem?_getD,List.getElem?_eq_none h];rfl
theorem bval_take_succ (a:List Bool) (i:Nat) (h:i < a.length):bval (a.take (i + 1)) = bval (a.take i) + (rb a (i:Int)).toNat * 2 ^ i:=by
 rw [List.take_succ_eq_append_getElem h,bval_append,List.length_take,Nat.min_eq_left (Nat.le_of_lt h),rb_lt h,bval_one,Nat.mul_comm]
theorem bval_take_succ' (a:List Bool) (i:Nat):bval (a.take (i + 1)) = bval (a.take i) + (rb a (i:Int)).toNat * 2 ^ i:=by
 rcases Nat.lt_or_ge i a.length with h | h
 ·exact bval_take_succ a i h
 ·rw [rb_ge h,List.take_of_length_le h,List.take_of_length_le (by omega)]
  simp
theorem bval_drop (a:List Bool) (i:Nat) (h:i < a.length):bval (a.drop i) = (rb a (i:Int)).toNat + 2 * bval (a.drop (i + 1)):=by
 rw [List.drop_eq_getElem_cons h,bval,rb_lt h]
theorem bval_split (a:List Bool) (i:Nat) (h:i ≤ a.length):bval a = bval (a.take i) + 2 ^ i * bval (a.drop i):=by
 have:=bval_append (a.take i) (a.drop i)
 rw [List.take_append_drop,List.length_take,Nat.min_eq_left h] at this
 exact this
theorem BPlain.tail {x:Bool} {xs:List Bool} (h:BPlain (x :: xs)):BPlain xs:=fun hne=>by
 have:=h (by simp)
 rwa [List.getLast_cons hne] at this
theorem BPlain.drop1 {xs:List Bool} (h:BPlain xs):BPlain (xs.drop 1):=by
 cases xs with
 | nil=>exact h
 | cons x xs=>exact h.tail
theorem bval_pos {l:List Bool} (hp:BPlain l) (hne:l ≠ []):0 < bval l:=by
 induction l with
 | nil=>exact absurd rfl hne
 | cons x xs ih =>
  rw [bval]
  rcases xs with _ | ⟨y,ys⟩
  ·have h1:=hp (by simp)
   simp at h1
   subst h1
   simp [bval]
  ·have:=ih hp.tail (by simp)
   omega
theorem pow_le_bval {l:List Bool} (hp:BPlain l) (hne:l ≠ []):2 ^ (l.length - 1) ≤ bval l:=by
 induction l with
 | nil=>exact absurd rfl hne
 | cons x xs ih =>
  rw [bval]
  rcases xs with _ | ⟨y,ys⟩
  ·have h1:=hp (by simp)
   simp at h1
   subst h1
   simp
  ·have:=ih hp.tail (by simp)
   simp only [List.length_cons,Nat.add_sub_cancel] at this ⊢
   rw [Nat.pow_succ]
   omega
theorem bin_bval {l:List Bool} (hp:BPlain l):bin (bval l) = l:=by
 induction l with
 | nil=>exact bin_zero
 | cons x xs ih =>
  have hpos:=bval_pos hp (by simp)
  rw [bin_pos (by omega),bval]
  have h2:=Bool.toNat_lt x
  have e1:(x.toNat + 2 * bval xs) % 2 = x.toNat:=by omega
  have e2:(x.toNat + 2 * bval xs) / 2 = bval xs:=by omega
  rw [e1,e2,ih hp.tail]
  cases x <;> rfl
theorem bin_length_le {n k:Nat} (h:n < 2 ^ k):(bin n).length ≤ k:=by
 rcases Nat.eq_zero_or_pos n with h0 | h0
 ·subst h0;rw [bin_zero];simp
 ·have h1:=pow_le_bval (bplain_bin n) (by intro e;rw [bin_nil_iff] at e;omega)
  rw [bval_bin] at h1
  rcases Nat.lt_or_ge k (bin n).length with h2 | h2
  ·have:=Nat.pow_le_pow_right (show 0 < 2 by omega) (show k ≤ (bin n).length - 1 by omega)
   omega
  ·exact h2
def btrimTo (l:List Bool):Nat → Nat
 | 0=>0
 | n + 1=>if rb l (n:Int) = true then n + 1 else btrimTo l n
def btrimN (l:List Bool):Nat:=btrimTo l l.length
theorem btrimTo_le (l:List Bool):∀ n,btrimTo l n ≤ n
 | 0=>Nat.le_refl _
 | n + 1=>by
  unfold btrimTo
  split
  ·exact Nat.le_refl _
  ·exact Nat.le_succ_of_le (btrimTo_le l n)
theorem btrimN_le (l:List Bool):btrimN l ≤ l.length:=btrimTo_le l _
theorem btrimTo_val (l:List Bool):∀ n,n ≤ l.length → bval (l.take (btrimTo l n)) = bval (l.take n)
 | 0,_=>rfl
 | n + 1,h=>by
  unfold btrimTo
  split
  ·rfl
  ·rename_i hz
   rw [btrimTo_val l n (by omega),bval_take_succ l n (by omega),Bool.eq_false_iff.mpr hz]
   simp
theorem btrimTo_last (l:List Bool):∀ n,n ≤ l.length → btrimTo l n = 0 ∨ ∃ m,btrimTo l n = m + 1 ∧ m < l.length ∧ rb l (m:Int) = true
 | 0,_=>.inl rfl
 | n + 1,h=>by
  unfold btrimTo
  split
  ·rename_i hz
   exact .inr ⟨n,rfl,by omega,hz⟩
  ·exact btrimTo_last l n (by omega)
theorem bplain_trim (l:List Bool):BPlain (l.take (btrimN l)):=by
 intro hne
 rcases btrimTo_last l l.length (Nat.le_refl _) with h | ⟨m,h,hm,hz⟩
 ·exfalso
  apply hne
  unfold btrimN
  rw [h];rfl
 ·have ht:l.take (btrimN l) = l.take m ++ [l[m]]:=by
   unfold btrimN
   rw [h,List.take_succ_eq_append_getElem hm]
  have he:=rb_lt hm
  simp only [ht,List.getLast_append,List.getLast_singleton]
  simp only [← he]
  simpa using hz
theorem btrim_eq (l:List Bool):l.take (btrimN l) = bin (bval l):=by
 rw [← bin_bval (bplain_trim l)]
 congr 1
 unfold btrimN
 rw [btrimTo_val l _ (Nat.le_refl _),List.take_length]
theorem btrimN_length (l:List Bool):btrimN l = (bin (bval l)).length:=by
 rw [← btrim_eq,List.length_take,Nat.min_eq_left (btrimN_le l)]
theorem lim_of_top {l:List Int} (hl:Limbs l) (h:l ≠ [] → 4294967296 ^ (l.length - 1) ≤ val l):l = lim (val l):=by
 rw [← trimL_eq hl]
 symm
 apply trimL_of_plain
 intro hne hz
 have h1:=h hne
 have hlen:l.length ≠ 0:=by intro e;exact hne (List.length_eq_zero_iff.mp e)
 obtain ⟨m,hm⟩:∃ m,l.length = m + 1:=⟨l.length - 1,by omega⟩
 have h2:=val_take_succ l m (by omega)
 rw [List.getLast_eq_getElem] at hz
 have h3:rd l (m:Int) = 0:=by
  rw [rd_lt (by omega)]
  simpa only [hm,Nat.add_sub_cancel] using hz
 rw [← hm,List.take_length,h3] at h2
 have h4:=val_lt (hl.take m)
 rw [List.length_take,Nat.min_eq_left (by omega)] at h4
 rw [hm,Nat.add_sub_cancel] at h1
 simp at h2
 omega
theorem two_pow_32 (n:Nat):(2:Nat) ^ (32 * n) = 4294967296 ^ n:=by
 rw [Nat.pow_mul]
end Go.Proofs.YtijldkknhphgcaaGreat.Hand
set_option linter.unusedVariables false
set_option linter.unusedSimpArgs false
namespace Go.Proofs.YtijldkknhphgcaaGreat.Hand
open Go.RowKit Go.Proofs.YtijldkknhphgcaaGreatW.PrintWords Go.Proofs.YtijldkknhphgcaaGreatW.PrintLast Go.Proofs.YtijldkknhphgcaaGreatW.PrintMore
theorem infoB:(Tryz.prog.info? 4).map (fun i=>(i.zero,i.size,i.bytes)) = some (some (.bool false),1,1):=by kernel_rfl
theorem btrim_calls (A:Option Addr) (c:Nat) (l:List Bool) (w:World) (hr:Kd.bool.C w A l.length l) (hc:l.length ≤ c) :
  Calls Tryz.prog 135 #[.slice A l.length c] w fun e w'=>e = .returned (.slice A (btrimN l) c) ∧ Drawn0 w w':=by
 have HR:=Aside0.mk hr
 have hlen:l.length ≤ 9223372036854775807:=hr.2.1
 clear hr
 go_enter Tryz.func135,Tryz.ntmps135
 go_wp2
 go_loopg [3] l.length (fun g v3 w'=>v3 = .int .i64 (g:Int) ∧ Aside0 (g ≤ l.length ∧ btrimTo l g = btrimN l) ∧ Aside0 (Drawn0 w w'))
 case atStart=>exact ⟨rfl,⟨Nat.le_refl _,rfl⟩,⟨Drawn0.refl _⟩⟩
 case round =>
  obtain ⟨rfl,HG,HD⟩:=hrel
  cases gk with
  | zero =>
   go_wp2
   go_ret
   exact ⟨by rw [← HG.out.2];rfl,HD.out⟩
  | succ k =>
   have hk:=HG.out.1
   obtain ⟨ad,e1,hx⟩:=Kd.at_bool HR.out (k:Int) (by omega) (by omega)
   subst e1
   rw [Int.toNat_natCast] at hx
   replace hx:=(HD.out.below.cell (World.block_lt_of_cell? w _ hx)).trans hx
   obtain ⟨g,hg⟩:∃ g:Int,g = ((k + 1:Nat):Int):=⟨_,rfl⟩
   rw [← hg]
   have g1:g - 1 = (k:Int):=by omega
   have g1':IntKind.i64.wrap (g - 1) = (k:Int):=by rw [g1];exact IntWalk.i64_in _ ⟨by omega,by omega⟩
   have g2:0 < g:=by omega
   have g3:(k:Int) < (l.length:Int):=by omega
   have hs:=HG.out.2
   rw [btrimTo] at hs
   by_cases hb:rb l (k:Int) = true
   ·rw [if_pos hb] at hs
    have hb':rdOf false l (k:Int) = true:=hb
    rw [hb'] at hx
    have HS:=Aside0.mk hs
    clear hb hb' hs
    go_wp2
    go_ret
    exact ⟨by rw [HS.out];rfl,HD.out⟩
   ·rw [if_neg hb] at hs
    have hb':rdOf false l (k:Int) = false:=by simpa using hb
    rw [hb'] at hx
    have HS:=Aside0.mk hs
    clear hb hb' hs
    go_wp2
    go_roundg k
    case measure=>omega
    case rel=>exact ⟨rfl,⟨by omega,HS.out⟩,HD⟩
def BitsIn (l:List Int) (i k:Nat) (v:Int) (o:List Bool):Prop :=
 o.length = 32 * i + k ∧ k ≤ 32 ∧ 0 ≤ v ∧ v < 4294967296 ∧ v.toNat * 2 ^ k ≤ 4294967295 ∧ bval o + 2 ^ (32 * i + k) * v.toNat = val (l.take i) + 4294967296 ^ i * (rd l (i:Int)).toNat
theorem bitsIn_step {l:List Int} {i k:Nat} {v:Int} {o:List Bool} (h:BitsIn l i k v o) (hk:k < 32):BitsIn l i (k + 1) (v / 2) (o ++ [v % 2 == 1]):=by
 obtain ⟨h1,h2,h3,h4,h5,h6⟩:=h
 obtain ⟨n,rfl⟩:=Int.eq_ofNat_of_zero_le h3
 have e1:(n:Int) / 2 = ((n / 2:Nat):Int):=rfl
 have e2:((n:Int) % 2 == 1) = decide (n % 2 = 1):=by
  rw [Bool.eq_iff_iff,beq_iff_eq,decide_eq_true_iff];omega
 rw [e1,e2]
 simp only [Int.toNat_natCast] at h5 h6
 refine ⟨by rw [List.length_append,List.length_singleton];omega,by omega,by omega,by omega,?_,?_⟩
 ·rw [Int.toNat_natCast,Nat.pow_succ]
  have:n / 2 * (2 ^ k * 2) ≤ n * 2 ^ k:=by
   rw [Nat.mul_comm (2 ^ k) 2,← Nat.mul_assoc]
   exact Nat.mul_le_mul_right _ (by omega)
  omega
 ·rw [← h6,bval_append,h1,bval_one,toNat_decide,Int.toNat_natCast,← Nat.add_assoc,Nat.pow_succ,Nat.mul_assoc,Nat.add_assoc,← Nat.mul_add]
  congr 2
  omega
theorem bitsIn_end {l:List Int} {i:Nat} {v:Int} {o:List Bool} (hi:i < l.length) (h:BitsIn l i 32 v o):o.length = 32 * (i + 1) ∧ bval o = val (l.take (i + 1)):=by
 obtain ⟨h1,h2,h3,h4,h5,h6⟩:=h
 have hv:v.toNat = 0:=by omega
 rw [hv,Nat.mul_zero,Nat.add_zero] at h6
 exact ⟨by omega,by rw [h6,val_take_succ l i hi,Nat.mul_comm]⟩
set_option maxRecDepth 100000 in
theorem l1Bits_calls (A:Option Addr) (c:Nat) (l:List Int) (w:World) (hr:(Kd.int .u32).C w A l.length l) (hl:Limbs l) (hn:l.length ≤ 1099511627776) :
  Calls Tryz.prog 100 #[.slice A l.length c] w fun e w'=>∃ v,e = .returned v ∧ Kd.bool.R 4 w' w.heap.size (fun _=>True) v (bin (val l)) ∧ Below w.heap.size w w':=by
 have HR:=Aside0.mk hr
 have HL:=Aside0.mk hl
 clear hr hl
 have hO:=Aside0.mk (show Kd.bool.R 4 (w.alloc (.cells #[] 4)) w.heap.size (fun _=>True) (.slice (some ⟨w.heap.size,0,none⟩) 0 0) [] from
  Kd.R_of_own (own_lit_of (enc:=Value.bool) w w.heap.size 4 [] (Nat.le_refl _) (by simp)) (fun k hk=>trivial))
 go_enter Tryz.func100,Tryz.ntmps100
 go_wp2
 go_loopg [3,4] l.length (fun g v3 v4 w'=>∃ i:Nat,v4 = .int .i64 (i:Int) ∧ Aside0 (i + g = l.length) ∧ ∃ o:List Bool,Aside0 (o.length = 32 * i ∧ bval o = val (l.take i)) ∧ Aside0 (Kd.bool.R 4 w' w.heap.size (fun _=>True) v3 o) ∧ Aside0 (Below w.heap.size w w'))
 case atStart=>exact ⟨0,rfl,⟨by omega⟩,[],⟨by simp [bval,val]⟩,hO,⟨below_alloc (Below.refl _ _) _⟩⟩
 case round =>
  clear hO
  obtain ⟨i,rfl,HI,o,HM,HO,HB⟩:=hrel
  by_cases hlt:i < l.length
  ·have hx0:=limbs_rd HL.out (i:Int)
   obtain ⟨x,hx⟩:∃ x,x = rd l (i:Int):=⟨_,rfl⟩
   rw [← hx] at hx0
   obtain ⟨ad,eA,hcx⟩:=Kd.at_int HR.out (i:Int) (by omega) (by omega)
   subst eA
   rw [Int.toNat_natCast,← hx] at hcx
   replace hcx:=(HB.out.cell (World.block_lt_of_cell? w _ hcx)).trans hcx
   have HXE:=Aside0.mk hx
   clear hx
   have hil:(i:Int) < (l.length:Int):=by omega
   go_wp2
   obtain ⟨gk_1,hgk1⟩:∃ g1,g1 = gk:=⟨_,rfl⟩
   subst hgk1
   go_loopg [3,5,6] 32 (fun g v3 v5 v6 w'=>∃ (v:Int) (k:Nat),v5 = .int .u32 v ∧ v6 = .int .i64 (k:Int) ∧ Aside0 (k + g = 32) ∧ ∃ o:List Bool,Aside0 (BitsIn l i k v o) ∧ Aside0 (Kd.bool.R 4 w' w.heap.size (fun _=>True) v3 o) ∧ Aside0 (Below w.heap.size w w'))
   case atStart=>exact ⟨x,0,rfl,rfl,⟨rfl⟩,o,⟨by rw [HM.out.1];rfl,by omega,hx0.1,hx0.2,by omega,by rw [HM.out.2,← HXE.out,Nat.add_zero,two_pow_32]⟩,HO,HB⟩
   case round =>
    clear HO HB HM hcx
    obtain ⟨v,k,rfl,rfl,HK,o,HM,HO,HB⟩:=hrel
    have hvb:=HM.out.2.2.1
    have hvc:=HM.out.2.2.2.1
    by_cases hk:k < 32
    ·have q1:(k:Int) < 32:=by omega
     have hol:=HM.out.1
     have hkb:k = k:=rfl
     go_wp2_with ((with_reducible refine gate_builtin (b:=.append) (xs:=#[.tmp 22,.tmp 26]) rfl ?_);at_builtin;refine Kd.R_append Kd.bool (w0:=w) w.heap.size rfl (.tmp 22) (.tmp 26) 92 4 (.bool false) 1 rfl Tryz.underlying92 infoB rfl (by decide) (by omega) u3 o (v % 2 == 1) [.bool (v % 2 == 1)] (fun _=>True) (fun _=>False) rfl rfl rfl (fun _ hk=>hk.elim) (fun _ _=>trivial) HO.out HB.out HB.out.size (by omega) ?_;intro v1 w1 ho hb hg hat;have HO1:=Aside0.mk ho;have HB1:=Aside0.mk hb;clear ho hb hg hat)
     go_roundg (gk - 1)
     case measure=>have:=HK.out;omega
     case rel=>exact ⟨_,k + 1,rfl,by go_num,⟨by have:=HK.out;omega⟩,_,⟨bitsIn_step HM.out hk⟩,HO1,HB1⟩
    ·have hke:k = 32:=by have:=HK.out;omega
     subst hke
     go_wp2
     go_roundg (gk_1 - 1)
     case measure=>have:=HI.out;omega
     case rel=>exact ⟨i + 1,by go_num,⟨by have:=HI.out;omega⟩,o,⟨bitsIn_end hlt HM.out⟩,HO,HB⟩
  ·have hie:i = l.length:=by have:=HI.out;omega
   subst hie
   obtain ⟨Ao,co,rfl⟩:=Kd.R_slice HO.out
   go_wp2_with fail
   refine (btrim_calls _ _ o _ (Kd.R_reads' HO.out).2.2 (Kd.R_reads' HO.out).2.1).mono ?_
   rintro e w1 ⟨rfl,hd⟩
   have HB1:=Aside0.mk (HB.out.trans (hd.below.mono HB.out.size))
   have HO1:=Aside0.mk (Kd.R_take (m:=btrimN o) (Kd.R_below HO.out hd.below) (btrimN_le o))
   clear hd
   go_wp2
   go_ret
   have e:=HM.out.2
   rw [List.take_length] at e
   exact ⟨_,rfl,by rw [← e,← btrim_eq];exact HO1.out,HB1.out⟩
end Go.Proofs.YtijldkknhphgcaaGreat.Hand
set_option linter.unusedVariables false
set_option linter.unusedSimpArgs false
namespace Go.Proofs.YtijldkknhphgcaaGreat.Hand
open Go.RowKit Go.Proofs.YtijldkknhphgcaaGreatW.PrintWords Go.Proofs.YtijldkknhphgcaaGreatW.PrintLast Go.Proofs.YtijldkknhphgcaaGreatW.PrintMore
def PartIn (T:List Bool) (j g:Nat) (v:Int):Prop :=
 g ≤ 32 ∧ 0 ≤ v ∧ v.toNat = bval ((T.drop (j + g)).take (32 - g)) ∧ v < ((2 ^ (32 - g):Nat):Int)
theorem bval_take_lt (l:List Bool) (n:Nat):bval (l.take n) < 2 ^ n:=by
 have h1:=bval_lt (l.take n)
 have h2:(l.take n).length ≤ n:=by rw [List.length_take];omega
 exact Nat.lt_of_lt_of_le h1 (Nat.pow_le_pow_right (by omega) h2)
theorem bval_drop_take (T:List Bool) (j n:Nat):bval ((T.drop j).take (n + 1)) = (rb T (j:Int)).toNat + 2 * bval ((T.drop (j + 1)).take n):=by
 rcases Nat.lt_or_ge j T.length with h | h
 ·rw [List.drop_eq_getElem_cons h,List.take_succ_cons,bval,rb_lt h]
 ·rw [rb_ge h,List.drop_eq_nil_of_le h,List.drop_eq_nil_of_le (by omega)]
  simp [bval]
theorem partIn_start (T:List Bool) (j:Nat):PartIn T j 32 0:=⟨by omega,by omega,by simp [bval],by simp⟩
theorem partIn_step {T:List Bool} {j g:Nat} {v:Int} {b:Bool} (h:PartIn T j (g + 1) v) (hb:rb T ((j + g:Nat):Int) = b):PartIn T j g (v * 2 + (b.toNat:Int)) ∧ v * 2 + (b.toNat:Int) < 4294967296:=by
 obtain ⟨h1,h2,h3,h4⟩:=h
 have hb2:=Bool.toNat_lt b
 have e:32 - g = 32 - (g + 1) + 1:=by omega
 have hv:(v * 2 + (b.toNat:Int)).toNat = bval ((T.drop (j + g)).take (32 - g)):=by
  rw [e,bval_drop_take,hb,Nat.add_assoc j g 1,← h3]
  omega
 have hlt:=bval_take_lt (T.drop (j + g)) (32 - g)
 have hle:2 ^ (32 - g) ≤ 2 ^ 32:=Nat.pow_le_pow_right (by omega) (by omega)
 have h32:(2 ^ 32:Nat) = 4294967296:=rfl
 refine ⟨⟨by omega,by omega,hv,by omega⟩,by omega⟩
def LimbsOut (T:List Bool) (m:Nat) (o:List Int):Prop :=
 o.length = m ∧ Limbs o ∧ val o = bval (T.take (32 * m)) ∧ (m ≠ 0 → 32 * (m - 1) < T.length)
theorem limbsOut_step {T:List Bool} {m:Nat} {o:List Int} {v:Int} (h:LimbsOut T m o) (hm:32 * m < T.length) (hv:PartIn T (32 * m) 0 v):LimbsOut T (m + 1) (o ++ [v]):=by
 obtain ⟨h1,h2,h3,h4⟩:=h
 obtain ⟨_,v1,v2,v3⟩:=hv
 have h32:(2 ^ (32 - 0):Nat) = 4294967296:=rfl
 rw [h32] at v3
 refine ⟨by rw [List.length_append,List.length_singleton];omega,h2.append (Limbs.cons ⟨v1,by omega⟩ Limbs.nil),?_,fun _=>by rw [Nat.add_sub_cancel];exact hm⟩
 rw [val_append,h1,val_one,v2,h3,Nat.mul_add,Nat.mul_one,List.take_add,bval_append,List.length_take,Nat.min_eq_left (by omega),two_pow_32]
 rfl
theorem limbsOut_end {T:List Bool} {m:Nat} {o:List Int} (hT:BPlain T) (h:LimbsOut T m o) (hm:T.length ≤ 32 * m):o = lim (bval T):=by
 obtain ⟨h1,h2,h3,h4⟩:=h
 rw [List.take_of_length_le hm] at h3
 rw [← h3]
 apply lim_of_top h2
 intro hne
 have hm0:m ≠ 0:=by intro e;subst e;exact hne (List.length_eq_zero_iff.mp h1)
 have h5:=h4 hm0
 have h6:=pow_le_bval hT (by intro e;subst e;simp at h5)
 rw [h3,h1,← two_pow_32]
 exact Nat.le_trans (Nat.pow_le_pow_right (by omega) (by omega)) h6
set_option maxRecDepth 100000 in
theorem l1Limbs_calls (A:Option Addr) (c:Nat) (l:List Bool) (w:World) (hr:Kd.bool.C w A l.length l) (hc:l.length ≤ c) (hn:l.length ≤ 70368744177664) :
  Calls Tryz.prog 140 #[.slice A l.length c] w fun e w'=>∃ v,e = .returned v ∧ (Kd.int .u32).R 134 w' w.heap.size (fun _=>True) v (lim (bval l)) ∧ Below w.heap.size w w':=by
 have HR:=Aside0.mk hr
 have HC:=Aside0.mk hc
 clear hr hc
 go_enter Tryz.func140,Tryz.ntmps140
 go_wp2_with fail
 refine (btrim_calls _ _ l _ HR.out HC.out).mono ?_
 rintro e w1 ⟨rfl,hd⟩
 have HB1:=Aside0.mk hd.below
 obtain ⟨T,hT⟩:∃ T,T = l.take (btrimN l):=⟨_,rfl⟩
 have hTl:btrimN l = T.length:=by rw [hT,List.length_take,Nat.min_eq_left (btrimN_le l)]
 have HT:=Aside0.mk (show Kd.bool.C w A T.length T from by rw [hT];exact Kd.C_take HR.out (btrimN_le l))
 have hTn:T.length ≤ 70368744177664:=by have:=btrimN_le l;omega
 have HTB:=Aside0.mk (show T = bin (bval l) from by rw [hT,btrim_eq])
 rw [hTl]
 have hO:=Aside0.mk (show (Kd.int .u32).R 134 (w1.alloc (.cells #[] 134)) w.heap.size (fun _=>True) (.slice (some ⟨w1.heap.size,0,none⟩) 0 0) [] from
  Kd.R_of_own (own_lit w1 w.heap.size 134 .u32 [] hd.below.size (by simp)) (fun k hk=>trivial))
 clear hd hT hTl HR HC
 go_wp2
 go_loopg [4,5] T.length (fun g v4 v5 w'=>∃ m:Nat,v5 = .int .i64 ((32 * m:Nat):Int) ∧ Aside0 (g = T.length - 32 * m ∧ 32 * m ≤ T.length + 31) ∧ ∃ o:List Int,Aside0 (LimbsOut T m o) ∧ Aside0 ((Kd.int .u32).R 134 w' w.heap.size (fun _=>True) v4 o) ∧ Aside0 (Below w.heap.size w w'))
 case atStart=>exact ⟨0,rfl,⟨by omega⟩,[],⟨rfl,Limbs.nil,by simp [val,bval],by omega⟩,hO,⟨below_alloc HB1.out _⟩⟩
 case round =>
  clear hO HB1
  obtain ⟨m,rfl,HI,o,HM,HO,HB⟩:=hrel
  have him:=HI.out.2
  obtain ⟨i,hi⟩:∃ i:Int,i = ((32 * m:Nat):Int):=⟨_,rfl⟩
  rw [← hi]
  have hi0:0 ≤ i:=by omega
  have hi1:i ≤ (T.length:Int) + 31:=by omega
  have HIE:=Aside0.mk hi
  by_cases hlt:32 * m < T.length
  ·have hil:i < (T.length:Int):=by omega
   obtain ⟨gk_1,hgk1⟩:∃ g1,g1 = gk:=⟨_,rfl⟩
   subst hgk1
   clear hi
   go_wp2
   go_loopg [6,7] 32 (fun g v6 v7 w'=>∃ v:Int,v6 = .int .u32 v ∧ v7 = .int .i64 ((g:Int) - 1) ∧ Aside0 (PartIn T (32 * m) g v) ∧ Aside0 (Drawn0 wr w'))
   case atStart=>exact ⟨0,rfl,by go_num,⟨partIn_start T _⟩,⟨Drawn0.refl _⟩⟩
   case round =>
    obtain ⟨v,rfl,rfl,HV,HD⟩:=hrel
    cases gk with
    | zero =>
     obtain ⟨z,hz⟩:∃ z:Int,z = ((0:Nat):Int) - 1:=⟨_,rfl⟩
     rw [← hz]
     have hzn:z < 0:=by omega
     have hzd:decide (0 ≤ z) = false:=decide_eq_false (by omega)
     have HO2:=Aside0.mk (Kd.R_below HO.out HD.out.below)
     have HB2:=Aside0.mk (HB.out.trans (HD.out.below.mono HB.out.size))
     have hol:=HM.out.1
     clear hz HO HB
     go_wp2_with ((with_reducible refine gate_builtin (b:=.append) (xs:=#[.tmp 39,.tmp 41]) rfl ?_);at_builtin;refine Kd.R_append (Kd.int .u32) (w0:=w) w.heap.size rfl (.tmp 39) (.tmp 41) 67 134 (.int .u32 0) 4 rfl Tryz.underlying67 infoU rfl (by decide) (by omega) _ o v [.int .u32 v] (fun _=>True) (fun _=>False) rfl rfl rfl (fun _ hk=>hk.elim) (fun _ _=>trivial) HO2.out HB2.out HB2.out.size (by omega) ?_;intro v1 w2 ho hb hg hat;have HO1:=Aside0.mk ho;have HB1:=Aside0.mk hb;clear ho hb hg hat)
     go_roundg (T.length - 32 * (m + 1))
     case measure=>have:=HI.out;omega
     case rel=>exact ⟨m + 1,by rw [HIE.out];rfl,⟨by omega⟩,_,⟨limbsOut_step HM.out hlt HV.out⟩,HO1,HB1⟩
    | succ k =>
     rw [show ((k + 1:Nat):Int) - 1 = (k:Int) from by omega]
     have hk:=HV.out.1
     have hv0:=HV.out.2.1
     have hv1:=HV.out.2.2.2
     have hle:2 ^ (32 - (k + 1)) ≤ 2 ^ 31:=Nat.pow_le_pow_right (by omega) (by omega)
     have h31:(2 ^ 31:Nat) = 2147483648:=rfl
     have hv2:v < 2147483648:=by omega
     have m1:IntKind.u32.wrap (v * 2) = v * 2:=by rw [IntKind.wrap_u32];omega
     have m2:IntKind.u32.wrap (v * 2 + 1) = v * 2 + 1:=by rw [IntKind.wrap_u32];omega
     have n1:IntKind.i64.wrap (i + (k:Int)) = i + (k:Int):=IntWalk.i64_in _ ⟨by omega,by omega⟩
     have n2:0 ≤ i + (k:Int):=by omega
     have n3:(i + (k:Int)).toNat = 32 * m + k:=by have:=HIE.out;omega
     clear hv1 hle h31
     by_cases hin:i + (k:Int) < (T.length:Int)
     ·have d1:decide (i + (k:Int) < (T.length:Int)) = true:=decide_eq_true hin
      obtain ⟨ad,eA,hx⟩:=Kd.at_bool HT.out (i + (k:Int)) n2 hin
      subst eA
      rw [n3,show rdOf false T (i + (k:Int)) = rb T ((32 * m + k:Nat):Int) from by rw [HIE.out];congr 1] at hx
      replace hx:=(HB.out.cell (World.block_lt_of_cell? _ _ hx)).trans hx
      replace hx:=(HD.out.below.cell (World.block_lt_of_cell? _ _ hx)).trans hx
      obtain ⟨b,hb⟩:∃ b,rb T ((32 * m + k:Nat):Int) = b:=⟨_,rfl⟩
      rw [hb] at hx
      have HS:=Aside0.mk (partIn_step HV.out hb)
      clear hb
      cases b with
      | true =>
       go_wp2
       go_roundg k
       case measure=>omega
       case rel=>exact ⟨_,rfl,by go_num,⟨HS.out.1⟩,HD⟩
      | false =>
       go_wp2
       go_roundg k
       case measure=>omega
       case rel=>exact ⟨_,rfl,by go_num,⟨by simpa using HS.out.1⟩,HD⟩
     ·have d1:decide (i + (k:Int) < (T.length:Int)) = false:=decide_eq_false hin
      have hb:rb T ((32 * m + k:Nat):Int) = false:=rb_ge (by have:=HIE.out;omega)
      have HS:=Aside0.mk (partIn_step HV.out hb)
      go_wp2
      go_roundg k
      case measure=>omega
      case rel=>exact ⟨_,rfl,by go_num,⟨by simpa using HS.out.1⟩,HD⟩
  ·have hil:¬ i < (T.length:Int):=by omega
   clear hi
   go_wp2
   go_ret
   have hend:=limbsOut_end (by rw [HTB.out];exact bplain_bin _) HM.out (by omega)
   have hT2:=HTB.out
   refine ⟨_,rfl,?_,HB.out⟩
   rw [show lim (bval l) = o from by rw [hend,hT2,bval_bin]]
   exact HO.out
end Go.Proofs.YtijldkknhphgcaaGreat.Hand
set_option linter.unusedVariables false
set_option linter.unusedSimpArgs false
namespace Go.Proofs.YtijldkknhphgcaaGreat.Hand
open Go.RowKit Go.Proofs.YtijldkknhphgcaaGreatW.PrintWords Go.Proofs.YtijldkknhphgcaaGreatW.PrintLast Go.Proofs.YtijldkknhphgcaaGreatW.PrintMore
theorem bval_lt_of_length {l l':List Bool} (hp':BPlain l') (h:l.length < l'.length):bval l < bval l':=by
 have h1:=bval_lt l
 have h2:=pow_le_bval hp' (by intro e;subst e;simp at h)
 have h3:2 ^ l.length ≤ 2 ^ (l'.length - 1):=Nat.pow_le_pow_right (by omega) (by omega)
 omega
theorem bval_lt_of_top {l l':List Bool} {i:Nat} (hi:i < l.length) (he:l.length = l'.length) (hd:l.drop (i + 1) = l'.drop (i + 1)) (h:rb l (i:Int) = false) (h':rb l' (i:Int) = true):bval l < bval l':=by
 have a1:=bval_split l (i + 1) hi
 have a2:=bval_split l' (i + 1) (by omega)
 have b1:=bval_take_succ l i hi
 have b2:=bval_take_succ l' i (by omega)
 have c1:=bval_lt (l.take i)
 rw [List.length_take,Nat.min_eq_left (by omega)] at c1
 rw [hd] at a1
 rw [h] at b1
 rw [h'] at b2
 simp at b1 b2
 omega
set_option maxRecDepth 100000 in
theorem l1CmpBits_calls (A A':Option Addr) (c c':Nat) (l l':List Bool) (w:World) (hr:Kd.bool.C w A l.length l) (hr':Kd.bool.C w A' l'.length l') (hp:BPlain l) (hp':BPlain l') :
  Calls Tryz.prog 98 #[.slice A l.length c,.slice A' l'.length c'] w fun e w'=>e = .returned (.int .i64 (cmpN (bval l) (bval l'))) ∧ Drawn0 w w':=by
 have HR:=Aside0.mk hr
 have HR':=Aside0.mk hr'
 have hlen:l.length ≤ 9223372036854775807:=hr.2.1
 clear hr hr'
 rcases Nat.lt_trichotomy l.length l'.length with h | h | h
 ·have he:=cmpN_lt (bval_lt_of_length hp' h)
  have d1:decide (l.length < l'.length) = true:=decide_eq_true h
  have d2:(l.length:Int) < (l'.length:Int):=by omega
  rw [he]
  go_enter Tryz.func98,Tryz.ntmps98
  go_wp2
  go_ret
  exact ⟨rfl,Drawn0.refl _⟩
 ·have HE:=Aside0.mk h
  have d1:decide (l.length < l'.length) = false:=decide_eq_false (by omega)
  have d2:decide (l'.length < l.length) = false:=decide_eq_false (by omega)
  have d3:¬ (l.length:Int) < (l'.length:Int):=by omega
  have d4:¬ (l'.length:Int) < (l.length:Int):=by omega
  clear h hp hp'
  go_enter Tryz.func98,Tryz.ntmps98
  go_wp2
  go_loopg [5] l.length (fun k v5 w'=>v5 = .int .i64 ((k:Int) - 1) ∧ Aside0 (k ≤ l.length) ∧ Aside0 (l.drop k = l'.drop k) ∧ Aside0 (Drawn0 w w'))
  case atStart=>exact ⟨by go_num,⟨Nat.le_refl _⟩,⟨by rw [List.drop_length,HE.out,List.drop_length]⟩,⟨Drawn0.refl _⟩⟩
  case round =>
   obtain ⟨rfl,HK,HD,HW⟩:=hrel
   cases gk with
   | zero =>
    obtain ⟨z,hz⟩:∃ z:Int,z = ((0:Nat):Int) - 1:=⟨_,rfl⟩
    rw [← hz]
    have hzn:z < 0:=by omega
    have hzd:decide (0 ≤ z) = false:=decide_eq_false (by omega)
    clear hz
    go_wp2
    go_ret
    have hd:=HD.out
    rw [List.drop_zero,List.drop_zero] at hd
    exact ⟨by rw [cmpN_eq (by rw [hd])];rfl,HW.out⟩
   | succ k1 =>
    have hk:=HK.out
    rw [show ((k1 + 1:Nat):Int) - 1 = (k1:Int) from by omega]
    obtain ⟨ad,e1,hx⟩:=Kd.at_bool HR.out (k1:Int) (by omega) (by omega)
    subst e1
    obtain ⟨ad',e2,hy⟩:=Kd.at_bool HR'.out (k1:Int) (by omega) (by have:=HE.out;omega)
    subst e2
    rw [Int.toNat_natCast] at hx hy
    replace hx:=(HW.out.below.cell (World.block_lt_of_cell? w _ hx)).trans hx
    replace hy:=(HW.out.below.cell (World.block_lt_of_cell? w _ hy)).trans hy
    have q1:(k1:Int) < (l.length:Int):=by omega
    have q2:(k1:Int) < (l'.length:Int):=by have:=HE.out;omega
    obtain ⟨x,hxe⟩:∃ x,rdOf false l (k1:Int) = x:=⟨_,rfl⟩
    obtain ⟨y,hye⟩:∃ y,rdOf false l' (k1:Int) = y:=⟨_,rfl⟩
    rw [hxe] at hx
    rw [hye] at hy
    have HXE:=Aside0.mk hxe
    have HYE:=Aside0.mk hye
    clear hxe hye
    have hsame:x = y → l.drop k1 = l'.drop k1:=by
     intro e
     have h1:k1 < l.length:=by omega
     have h2:k1 < l'.length:=by have:=HE.out;omega
     rw [List.drop_eq_getElem_cons h1,List.drop_eq_getElem_cons h2,HD.out,← rb_lt h1,← rb_lt h2]
     congr 1
     exact HXE.out.trans (e.trans HYE.out.symm)
    have HS:=Aside0.mk hsame
    clear hsame
    cases x <;> cases y
    case false.false =>
     go_wp2
     go_quiet (fail)
     go_wp2
     go_roundg k1
     case measure=>omega
     case rel=>exact ⟨by go_num,⟨by omega⟩,⟨HS.out (by first | rfl | trivial)⟩,⟨HW.out.step _⟩⟩
    case true.true =>
     go_wp2
     go_quiet (fail)
     go_wp2
     go_roundg k1
     case measure=>omega
     case rel=>exact ⟨by go_num,⟨by omega⟩,⟨HS.out (by first | rfl | trivial)⟩,⟨HW.out.step _⟩⟩
    case false.true =>
     go_wp2
     go_quiet (fail)
     go_wp2
     go_ret
     have he:=cmpN_lt (bval_lt_of_top (by omega) HE.out HD.out HXE.out HYE.out)
     rw [he]
     exact ⟨rfl,HW.out.step _⟩
    case true.false =>
     go_wp2
     go_quiet (fail)
     go_wp2
     go_ret
     have he:=cmpN_gt (bval_lt_of_top (by have:=HE.out;omega) HE.out.symm HD.out.symm HYE.out HXE.out)
     rw [he]
     exact ⟨rfl,HW.out.step _⟩
 ·have he:=cmpN_gt (bval_lt_of_length hp h)
  have d1:decide (l.length < l'.length) = false:=decide_eq_false (by omega)
  have d2:decide (l'.length < l.length) = true:=decide_eq_true h
  have d3:¬ (l.length:Int) < (l'.length:Int):=by omega
  have d4:(l'.length:Int) < (l.length:Int):=by omega
  rw [he]
  go_enter Tryz.func98,Tryz.ntmps98
  go_wp2
  go_ret
  exact ⟨rfl,Drawn0.refl _⟩
end Go.Proofs.YtijldkknhphgcaaGreat.Hand
set_option linter.unusedVariables false
set_option linter.unusedSimpArgs false
namespace Go.Proofs.YtijldkknhphgcaaGreat.Hand
open Go.RowKit Go.Proofs.YtijldkknhphgcaaGreatW.PrintWords Go.Proofs.YtijldkknhphgcaaGreatW.PrintLast Go.Proofs.YtijldkknhphgcaaGreatW.PrintMore
def AddBIn (a b:List Bool) (i:Nat) (c:Bool) (o:List Bool):Prop :=
 o.length = i ∧ bval o + c.toNat * 2 ^ i = bval (a.take i) + bval (b.take i)
theorem addB_step {a b o:List Bool} {i:Nat} {c x y:Bool} (h:AddBIn a b i c o) (hx:rb a (i:Int) = x) (hy:rb b (i:Int) = y):AddBIn a b (i + 1) ((x && y) || (x && c) || (y && c)) (o ++ [(x != y) != c]):=by
 obtain ⟨h1,h2⟩:=h
 refine ⟨by rw [List.length_append,List.length_singleton,h1],?_⟩
 rw [bval_append,bval_take_succ',bval_take_succ',hx,hy,bval_one,h1,Nat.pow_succ]
 generalize 2 ^ i = P at *
 cases x <;> cases y <;> cases c <;> simp at * <;> omega
theorem bit_case {w0 w:World} {A:Option Addr} {l:List Bool} (hr:Kd.bool.C w0 A l.length l) (hb:Below w0.heap.size w0 w) (i:Nat) :
  (decide ((i:Int) < (l.length:Int)) = true ∧ (i:Int) < (l.length:Int) ∧ decide (i < l.length) = true ∧ ∃ ad x,A = some ad ∧ rb l (i:Int) = x ∧ w.cell? (ad.add i) = some (.bool x)) ∨ (decide ((i:Int) < (l.length:Int)) = false ∧ ¬ (i:Int) < (l.length:Int) ∧ decide (i < l.length) = false ∧ rb l (i:Int) = false):=by
 rcases Nat.lt_or_ge i l.length with h | h
 ·obtain ⟨ad,e1,hx⟩:=Kd.at_bool hr (i:Int) (by omega) (by omega)
  rw [Int.toNat_natCast] at hx
  exact .inl ⟨decide_eq_true (by omega),by omega,decide_eq_true h,ad,_,e1,rfl,(hb.cell (World.block_lt_of_cell? w0 _ hx)).trans hx⟩
 ·exact .inr ⟨decide_eq_false (by omega),by omega,decide_eq_false (by omega),rb_ge h⟩
set_option maxHeartbeats 8000000 in
set_option maxRecDepth 100000 in
theorem l1AddBits_calls (A A':Option Addr) (c c':Nat) (l l':List Bool) (w:World) (hr:Kd.bool.C w A l.length l) (hr':Kd.bool.C w A' l'.length l') (hn:l.length ≤ 35184372088832) (hn':l'.length ≤ 35184372088832) :
  Calls Tryz.prog 123 #[.slice A l.length c,.slice A' l'.length c'] w fun e w'=>∃ v,e = .returned v ∧ Kd.bool.R 4 w' w.heap.size (fun _=>True) v (bin (bval l + bval l')) ∧ Below w.heap.size w w':=by
 have HR:=Aside0.mk hr
 have HR':=Aside0.mk hr'
 clear hr hr'
 have hO:=Aside0.mk (show Kd.bool.R 4 (w.alloc (.cells #[] 4)) w.heap.size (fun _=>True) (.slice (some ⟨w.heap.size,0,none⟩) 0 0) [] from
  Kd.R_of_own (own_lit_of (enc:=Value.bool) w w.heap.size 4 [] (Nat.le_refl _) (by simp)) (fun k hk=>trivial))
 go_enter Tryz.func123,Tryz.ntmps123
 go_wp2
 go_loopg [5,6,7] (l.length + l'.length) (fun g v5 v6 v7 w'=>∃ (cy:Bool) (i:Nat),v6 = .bool cy ∧ v7 = .int .i64 (i:Int) ∧ Aside0 (i + g = l.length + l'.length) ∧ ∃ o:List Bool,Aside0 (AddBIn l l' i cy o) ∧ Aside0 (Kd.bool.R 4 w' w.heap.size (fun _=>True) v5 o) ∧ Aside0 (Below w.heap.size w w'))
 case atStart=>exact ⟨false,0,rfl,rfl,⟨by omega⟩,[],⟨rfl,by simp [bval]⟩,hO,⟨below_alloc (Below.refl _ _) _⟩⟩
 case round =>
  clear hO
  obtain ⟨cy,i,rfl,rfl,HI,o,HM,HO,HB⟩:=hrel
  have HOL:=Aside0.mk HM.out.1
  have hib:i ≤ l.length + l'.length:=by have:=HI.out;omega
  have hob:o.length ≤ l.length + l'.length:=by have:=HOL.out;omega
  by_cases hend:l.length ≤ i ∧ l'.length ≤ i
  ·have d1:decide ((i:Int) < (l.length:Int)) = false:=decide_eq_false (by omega)
   have d2:decide ((i:Int) < (l'.length:Int)) = false:=decide_eq_false (by omega)
   have d1':decide (i < l.length) = false:=decide_eq_false (by omega)
   have d2':decide (i < l'.length) = false:=decide_eq_false (by omega)
   have hsum:=HM.out.2
   rw [List.take_of_length_le hend.1,List.take_of_length_le hend.2] at hsum
   have HSUM:=Aside0.mk hsum
   clear hsum hend
   cases cy with
   | true =>
    go_wp2_with ((with_reducible refine gate_builtin (b:=.append) (xs:=#[.tmp 68,.tmp 69]) rfl ?_);at_builtin;refine Kd.R_append Kd.bool (w0:=w) (World.heap w).size rfl (.tmp 68) (.tmp 69) 92 4 (.bool false) 1 rfl Tryz.underlying92 infoB rfl (by decide) (by omega) _ o true [.bool true] (fun _=>True) (fun _=>False) rfl rfl rfl (fun _ hk=>hk.elim) (fun _ _=>trivial) HO.out HB.out (Below.size HB.out) (by omega) ?_;intro v1 w1 ho hb hg hat;have HO1:=Aside0.mk ho;have HB1:=Aside0.mk hb;clear ho hb hg hat)
    obtain ⟨Ao,co,rfl⟩:=Kd.R_slice HO1.out
    refine (btrim_calls _ _ _ _ (Kd.R_reads' HO1.out).2.2 (Kd.R_reads' HO1.out).2.1).mono ?_
    rintro e w1 ⟨rfl,hd⟩
    have HB2:=Aside0.mk (HB1.out.trans (hd.below.mono HB1.out.size))
    have HO2:=Aside0.mk (Kd.R_take (m:=btrimN (o ++ [true])) (Kd.R_below HO1.out hd.below) (btrimN_le _))
    clear hd
    go_wp2
    go_ret
    have e:bval (o ++ [true]) = bval l + bval l':=by
     rw [← HSUM.out,bval_append,bval_one,HOL.out]
     simp
    exact ⟨_,rfl,by rw [← e,← btrim_eq];exact HO2.out,HB2.out⟩
   | false =>
    obtain ⟨Ao,co,rfl⟩:=Kd.R_slice HO.out
    go_wp2_with fail
    refine (btrim_calls _ _ o _ (Kd.R_reads' HO.out).2.2 (Kd.R_reads' HO.out).2.1).mono ?_
    rintro e w1 ⟨rfl,hd⟩
    have HB1:=Aside0.mk (HB.out.trans (hd.below.mono HB.out.size))
    have HO1:=Aside0.mk (Kd.R_take (m:=btrimN o) (Kd.R_below HO.out hd.below) (btrimN_le o))
    clear hd
    go_wp2
    go_ret
    have e:=HSUM.out
    simp at e
    exact ⟨_,rfl,by rw [← e,← btrim_eq];exact HO1.out,HB1.out⟩
  ·have hil:i < l.length + l'.length:=by omega
   have hc1:=bit_case HR.out HB.out i
   have hc2:=bit_case HR'.out HB.out i
   rcases hc1 with ⟨d1,q1,p1,ad,x,rfl,hx,hcx⟩ | ⟨d1,q1,p1,hx⟩ <;> rcases hc2 with ⟨d2,q2,p2,ad',y,rfl,hy,hcy⟩ | ⟨d2,q2,p2,hy⟩
   case inr.inr=>omega
   case inl.inl =>
    have HST:=Aside0.mk (addB_step HM.out hx hy)
    clear hx hy
    cases x <;> cases y <;> cases cy
    case false.false.false =>
     go_wp2_with ((with_reducible refine gate_builtin (b:=.append) (xs:=#[.tmp 43,.tmp 49]) rfl ?_);at_builtin;refine Kd.R_append Kd.bool (w0:=w) (World.heap w).size rfl (.tmp 43) (.tmp 49) 92 4 (.bool false) 1 rfl Tryz.underlying92 infoB rfl (by decide) (by omega) _ o ((false != false) != false) [.bool ((false != false) != false)] (fun _=>True) (fun _=>False) rfl rfl rfl (fun _ hk=>hk.elim) (fun _ _=>trivial) HO.out HB.out (Below.size HB.out) (by omega) ?_;intro v1 w1 ho hb hg hat;have HO1:=Aside0.mk ho;have HB1:=Aside0.mk hb;clear ho hb hg hat)
     go_roundg (gk - 1)
     case measure=>have:=HI.out;omega
     case rel=>exact ⟨_,i + 1,rfl,by go_num,⟨by have:=HI.out;omega⟩,_,HST,HO1,HB1⟩
    case false.false.true =>
     go_wp2_with ((with_reducible refine gate_builtin (b:=.append) (xs:=#[.tmp 43,.tmp 49]) rfl ?_);at_builtin;refine Kd.R_append Kd.bool (w0:=w) (World.heap w).size rfl (.tmp 43) (.tmp 49) 92 4 (.bool false) 1 rfl Tryz.underlying92 infoB rfl (by decide) (by omega) _ o ((false != false) != true) [.bool ((false != false) != true)] (fun _=>True) (fun _=>False) rfl rfl rfl (fun _ hk=>hk.elim) (fun _ _=>trivial) HO.out HB.out (Below.size HB.out) (by omega) ?_;intro v1 w1 ho hb hg hat;have HO1:=Aside0.mk ho;have HB1:=Aside0.mk hb;clear ho hb hg hat)
     go_roundg (gk - 1)
     case measure=>have:=HI.out;omega
     case rel=>exact ⟨_,i + 1,rfl,by go_num,⟨by have:=HI.out;omega⟩,_,HST,HO1,HB1⟩
    case false.true.false =>
     go_wp2_with ((with_reducible refine gate_builtin (b:=.append) (xs:=#[.tmp 43,.tmp 49]) rfl ?_);at_builtin;refine Kd.R_append Kd.bool (w0:=w) (World.heap w).size rfl (.tmp 43) (.tmp 49) 92 4 (.bool false) 1 rfl Tryz.underlying92 infoB rfl (by decide) (by omega) _ o ((false != true) != false) [.bool ((false != true) != false)] (fun _=>True) (fun _=>False) rfl rfl rfl (fun _ hk=>hk.elim) (fun _ _=>trivial) HO.out HB.out (Below.size HB.out) (by omega) ?_;intro v1 w1 ho hb hg hat;have HO1:=Aside0.mk ho;have HB1:=Aside0.mk hb;clear ho hb hg hat)
     go_roundg (gk - 1)
     case measure=>have:=HI.out;omega
     case rel=>exact ⟨_,i + 1,rfl,by go_num,⟨by have:=HI.out;omega⟩,_,HST,HO1,HB1⟩
    case false.true.true =>
     go_wp2_with ((with_reducible refine gate_builtin (b:=.append) (xs:=#[.tmp 43,.tmp 49]) rfl ?_);at_builtin;refine Kd.R_append Kd.bool (w0:=w) (World.heap w).size rfl (.tmp 43) (.tmp 49) 92 4 (.bool false) 1 rfl Tryz.underlying92 infoB rfl (by decide) (by omega) _ o ((false != true) != true) [.bool ((false != true) != true)] (fun _=>True) (fun _=>False) rfl rfl rfl (fun _ hk=>hk.elim) (fun _ _=>trivial) HO.out HB.out (Below.size HB.out) (by omega) ?_;intro v1 w1 ho hb hg hat;have HO1:=Aside0.mk ho;have HB1:=Aside0.mk hb;clear ho hb hg hat)
     go_roundg (gk - 1)
     case measure=>have:=HI.out;omega
     case rel=>exact ⟨_,i + 1,rfl,by go_num,⟨by have:=HI.out;omega⟩,_,HST,HO1,HB1⟩
    case true.false.false =>
     go_wp2_with ((with_reducible refine gate_builtin (b:=.append) (xs:=#[.tmp 43,.tmp 49]) rfl ?_);at_builtin;refine Kd.R_append Kd.bool (w0:=w) (World.heap w).size rfl (.tmp 43) (.tmp 49) 92 4 (.bool false) 1 rfl Tryz.underlying92 infoB rfl (by decide) (by omega) _ o ((true != false) != false) [.bool ((true != false) != false)] (fun _=>True) (fun _=>False) rfl rfl rfl (fun _ hk=>hk.elim) (fun _ _=>trivial) HO.out HB.out (Below.size HB.out) (by omega) ?_;intro v1 w1 ho hb hg hat;have HO1:=Aside0.mk ho;have HB1:=Aside0.mk hb;clear ho hb hg hat)
     go_roundg (gk - 1)
     case measure=>have:=HI.out;omega
     case rel=>exact ⟨_,i + 1,rfl,by go_num,⟨by have:=HI.out;omega⟩,_,HST,HO1,HB1⟩
    case true.false.true =>
     go_wp2_with ((with_reducible refine gate_builtin (b:=.append) (xs:=#[.tmp 43,.tmp 49]) rfl ?_);at_builtin;refine Kd.R_append Kd.bool (w0:=w) (World.heap w).size rfl (.tmp 43) (.tmp 49) 92 4 (.bool false) 1 rfl Tryz.underlying92 infoB rfl (by decide) (by omega) _ o ((true != false) != true) [.bool ((true != false) != true)] (fun _=>True) (fun _=>False) rfl rfl rfl (fun _ hk=>hk.elim) (fun _ _=>trivial) HO.out HB.out (Below.size HB.out) (by omega) ?_;intro v1 w1 ho hb hg hat;have HO1:=Aside0.mk ho;have HB1:=Aside0.mk hb;clear ho hb hg hat)
     go_roundg (gk - 1)
     case measure=>have:=HI.out;omega
     case rel=>exact ⟨_,i + 1,rfl,by go_num,⟨by have:=HI.out;omega⟩,_,HST,HO1,HB1⟩
    case true.true.false =>
     go_wp2_with ((with_reducible refine gate_builtin (b:=.append) (xs:=#[.tmp 43,.tmp 49]) rfl ?_);at_builtin;refine Kd.R_append Kd.bool (w0:=w) (World.heap w).size rfl (.tmp 43) (.tmp 49) 92 4 (.bool false) 1 rfl Tryz.underlying92 infoB rfl (by decide) (by omega) _ o ((true != true) != false) [.bool ((true != true) != false)] (fun _=>True) (fun _=>False) rfl rfl rfl (fun _ hk=>hk.elim) (fun _ _=>trivial) HO.out HB.out (Below.size HB.out) (by omega) ?_;intro v1 w1 ho hb hg hat;have HO1:=Aside0.mk ho;have HB1:=Aside0.mk hb;clear ho hb hg hat)
     go_roundg (gk - 1)
     case measure=>have:=HI.out;omega
     case rel=>exact ⟨_,i + 1,rfl,by go_num,⟨by have:=HI.out;omega⟩,_,HST,HO1,HB1⟩
    case true.true.true =>
     go_wp2_with ((with_reducible refine gate_builtin (b:=.append) (xs:=#[.tmp 43,.tmp 49]) rfl ?_);at_builtin;refine Kd.R_append Kd.bool (w0:=w) (World.heap w).size rfl (.tmp 43) (.tmp 49) 92 4 (.bool false) 1 rfl Tryz.underlying92 infoB rfl (by decide) (by omega) _ o ((true != true) != true) [.bool ((true != true) != true)] (fun _=>True) (fun _=>False) rfl rfl rfl (fun _ hk=>hk.elim) (fun _ _=>trivial) HO.out HB.out (Below.size HB.out) (by omega) ?_;intro v1 w1 ho hb hg hat;have HO1:=Aside0.mk ho;have HB1:=Aside0.mk hb;clear ho hb hg hat)
     go_roundg (gk - 1)
     case measure=>have:=HI.out;omega
     case rel=>exact ⟨_,i + 1,rfl,by go_num,⟨by have:=HI.out;omega⟩,_,HST,HO1,HB1⟩
   case inl.inr =>
    have HST:=Aside0.mk (addB_step HM.out hx hy)
    clear hx hy
    cases x <;> cases cy
    case false.false =>
     go_wp2_with ((with_reducible refine gate_builtin (b:=.append) (xs:=#[.tmp 43,.tmp 49]) rfl ?_);at_builtin;refine Kd.R_append Kd.bool (w0:=w) (World.heap w).size rfl (.tmp 43) (.tmp 49) 92 4 (.bool false) 1 rfl Tryz.underlying92 infoB rfl (by decide) (by omega) _ o ((false != false) != false) [.bool ((false != false) != false)] (fun _=>True) (fun _=>False) rfl rfl rfl (fun _ hk=>hk.elim) (fun _ _=>trivial) HO.out HB.out (Below.size HB.out) (by omega) ?_;intro v1 w1 ho hb hg hat;have HO1:=Aside0.mk ho;have HB1:=Aside0.mk hb;clear ho hb hg hat)
     go_roundg (gk - 1)
     case measure=>have:=HI.out;omega
     case rel=>exact ⟨_,i + 1,rfl,by go_num,⟨by have:=HI.out;omega⟩,_,HST,HO1,HB1⟩
    case false.true =>
     go_wp2_with ((with_reducible refine gate_builtin (b:=.append) (xs:=#[.tmp 43,.tmp 49]) rfl ?_);at_builtin;refine Kd.R_append Kd.bool (w0:=w) (World.heap w).size rfl (.tmp 43) (.tmp 49) 92 4 (.bool false) 1 rfl Tryz.underlying92 infoB rfl (by decide) (by omega) _ o ((false != false) != true) [.bool ((false != false) != true)] (fun _=>True) (fun _=>False) rfl rfl rfl (fun _ hk=>hk.elim) (fun _ _=>trivial) HO.out HB.out (Below.size HB.out) (by omega) ?_;intro v1 w1 ho hb hg hat;have HO1:=Aside0.mk ho;have HB1:=Aside0.mk hb;clear ho hb hg hat)
     go_roundg (gk - 1)
     case measure=>have:=HI.out;omega
     case rel=>exact ⟨_,i + 1,rfl,by go_num,⟨by have:=HI.out;omega⟩,_,HST,HO1,HB1⟩
    case true.false =>
     go_wp2_with ((with_reducible refine gate_builtin (b:=.append) (xs:=#[.tmp 43,.tmp 49]) rfl ?_);at_builtin;refine Kd.R_append Kd.bool (w0:=w) (World.heap w).size rfl (.tmp 43) (.tmp 49) 92 4 (.bool false) 1 rfl Tryz.underlying92 infoB rfl (by decide) (by omega) _ o ((true != false) != false) [.bool ((true != false) != false)] (fun _=>True) (fun _=>False) rfl rfl rfl (fun _ hk=>hk.elim) (fun _ _=>trivial) HO.out HB.out (Below.size HB.out) (by omega) ?_;intro v1 w1 ho hb hg hat;have HO1:=Aside0.mk ho;have HB1:=Aside0.mk hb;clear ho hb hg hat)
     go_roundg (gk - 1)
     case measure=>have:=HI.out;omega
     case rel=>exact ⟨_,i + 1,rfl,by go_num,⟨by have:=HI.out;omega⟩,_,HST,HO1,HB1⟩
    case true.true =>
     go_wp2_with ((with_reducible refine gate_builtin (b:=.append) (xs:=#[.tmp 43,.tmp 49]) rfl ?_);at_builtin;refine Kd.R_append Kd.bool (w0:=w) (World.heap w).size rfl (.tmp 43) (.tmp 49) 92 4 (.bool false) 1 rfl Tryz.underlying92 infoB rfl (by decide) (by omega) _ o ((true != false) != true) [.bool ((true != false) != true)] (fun _=>True) (fun _=>False) rfl rfl rfl (fun _ hk=>hk.elim) (fun _ _=>trivial) HO.out HB.out (Below.size HB.out) (by omega) ?_;intro v1 w1 ho hb hg hat;have HO1:=Aside0.mk ho;have HB1:=Aside0.mk hb;clear ho hb hg hat)
     go_roundg (gk - 1)
     case measure=>have:=HI.out;omega
     case rel=>exact ⟨_,i + 1,rfl,by go_num,⟨by have:=HI.out;omega⟩,_,HST,HO1,HB1⟩
   case inr.inl =>
    have HST:=Aside0.mk (addB_step HM.out hx hy)
    clear hx hy
    cases y <;> cases cy
    case false.false =>
     go_wp2_with ((with_reducible refine gate_builtin (b:=.append) (xs:=#[.tmp 43,.tmp 49]) rfl ?_);at_builtin;refine Kd.R_append Kd.bool (w0:=w) (World.heap w).size rfl (.tmp 43) (.tmp 49) 92 4 (.bool false) 1 rfl Tryz.underlying92 infoB rfl (by decide) (by omega) _ o ((false != false) != false) [.bool ((false != false) != false)] (fun _=>True) (fun _=>False) rfl rfl rfl (fun _ hk=>hk.elim) (fun _ _=>trivial) HO.out HB.out (Below.size HB.out) (by omega) ?_;intro v1 w1 ho hb hg hat;have HO1:=Aside0.mk ho;have HB1:=Aside0.mk hb;clear ho hb hg hat)
     go_roundg (gk - 1)
     case measure=>have:=HI.out;omega
     case rel=>exact ⟨_,i + 1,rfl,by go_num,⟨by have:=HI.out;omega⟩,_,HST,HO1,HB1⟩
    case false.true =>
     go_wp2_with ((with_reducible refine gate_builtin (b:=.append) (xs:=#[.tmp 43,.tmp 49]) rfl ?_);at_builtin;refine Kd.R_append Kd.bool (w0:=w) (World.heap w).size rfl (.tmp 43) (.tmp 49) 92 4 (.bool false) 1 rfl Tryz.underlying92 infoB rfl (by decide) (by omega) _ o ((false != false) != true) [.bool ((false != false) != true)] (fun _=>True) (fun _=>False) rfl rfl rfl (fun _ hk=>hk.elim) (fun _ _=>trivial) HO.out HB.out (Below.size HB.out) (by omega) ?_;intro v1 w1 ho hb hg hat;have HO1:=Aside0.mk ho;have HB1:=Aside0.mk hb;clear ho hb hg hat)
     go_roundg (gk - 1)
     case measure=>have:=HI.out;omega
     case rel=>exact ⟨_,i + 1,rfl,by go_num,⟨by have:=HI.out;omega⟩,_,HST,HO1,HB1⟩
    case true.false =>
     go_wp2_with ((with_reducible refine gate_builtin (b:=.append) (xs:=#[.tmp 43,.tmp 49]) rfl ?_);at_builtin;refine Kd.R_append Kd.bool (w0:=w) (World.heap w).size rfl (.tmp 43) (.tmp 49) 92 4 (.bool false) 1 rfl Tryz.underlying92 infoB rfl (by decide) (by omega) _ o ((false != true) != false) [.bool ((false != true) != false)] (fun _=>True) (fun _=>False) rfl rfl rfl (fun _ hk=>hk.elim) (fun _ _=>trivial) HO.out HB.out (Below.size HB.out) (by omega) ?_;intro v1 w1 ho hb hg hat;have HO1:=Aside0.mk ho;have HB1:=Aside0.mk hb;clear ho hb hg hat)
     go_roundg (gk - 1)
     case measure=>have:=HI.out;omega
     case rel=>exact ⟨_,i + 1,rfl,by go_num,⟨by have:=HI.out;omega⟩,_,HST,HO1,HB1⟩
    case true.true =>
     go_wp2_with ((with_reducible refine gate_builtin (b:=.append) (xs:=#[.tmp 43,.tmp 49]) rfl ?_);at_builtin;refine Kd.R_append Kd.bool (w0:=w) (World.heap w).size rfl (.tmp 43) (.tmp 49) 92 4 (.bool false) 1 rfl Tryz.underlying92 infoB rfl (by decide) (by omega) _ o ((false != true) != true) [.bool ((false != true) != true)] (fun _=>True) (fun _=>False) rfl rfl rfl (fun _ hk=>hk.elim) (fun _ _=>trivial) HO.out HB.out (Below.size HB.out) (by omega) ?_;intro v1 w1 ho hb hg hat;have HO1:=Aside0.mk ho;have HB1:=Aside0.mk hb;clear ho hb hg hat)
     go_roundg (gk - 1)
     case measure=>have:=HI.out;omega
     case rel=>exact ⟨_,i + 1,rfl,by go_num,⟨by have:=HI.out;omega⟩,_,HST,HO1,HB1⟩
end Go.Proofs.YtijldkknhphgcaaGreat.Hand
set_option linter.unusedVariables false
set_option linter.unusedSimpArgs false
namespace Go.Proofs.YtijldkknhphgcaaGreat.Hand
open Go.RowKit Go.Proofs.YtijldkknhphgcaaGreatW.PrintWords Go.Proofs.YtijldkknhphgcaaGreatW.PrintLast Go.Proofs.YtijldkknhphgcaaGreatW.PrintMore
def SubBIn (a b:List Bool) (i:Nat) (c:Bool) (o:List Bool):Prop :=
 o.length = i ∧ bval o + bval (b.take i) = bval (a.take i) + c.toNat * 2 ^ i
theorem subB_step {a b o:List Bool} {i:Nat} {c x y:Bool} (h:SubBIn a b i c o) (hx:rb a (i:Int) = x) (hy:rb b (i:Int) = y):SubBIn a b (i + 1) ((!x && y) || (!x && c) || (y && c)) (o ++ [(x != y) != c]):=by
 obtain ⟨h1,h2⟩:=h
 refine ⟨by rw [List.length_append,List.length_singleton,h1],?_⟩
 rw [bval_append,bval_take_succ',bval_take_succ',hx,hy,bval_one,h1,Nat.pow_succ]
 generalize 2 ^ i = P at *
 cases x <;> cases y <;> cases c <;> simp at * <;> omega
theorem subB_end {a b o:List Bool} {c:Bool} (h:SubBIn a b a.length c o) (hle:bval b ≤ bval a):bval o = bval a - bval b:=by
 obtain ⟨h1,h2⟩:=h
 rw [List.take_length] at h2
 have ha:=bval_lt a
 have ho:=bval_lt o
 rw [h1] at ho
 have hb:bval (b.take a.length) = bval b:=by
  rcases Nat.lt_or_ge a.length b.length with h3 | h3
  ·have h4:=bval_split b a.length (by omega)
   rcases Nat.eq_zero_or_pos (bval (b.drop a.length)) with h5 | h5
   ·rw [h5] at h4;omega
   ·have:2 ^ a.length * 1 ≤ 2 ^ a.length * bval (b.drop a.length):=Nat.mul_le_mul_left _ h5
    omega
  ·rw [List.take_of_length_le h3]
 rw [hb] at h2
 have h2c:=Bool.toNat_lt c
 cases c
 ·simp at h2;omega
 ·simp at h2;omega
set_option maxHeartbeats 8000000 in
set_option maxRecDepth 100000 in
theorem l1SubBits_calls (A A':Option Addr) (c c':Nat) (l l':List Bool) (w:World) (hr:Kd.bool.C w A l.length l) (hr':Kd.bool.C w A' l'.length l') (hn:l.length ≤ 35184372088832) (hn':l'.length ≤ 35184372088832) (hle:bval l' ≤ bval l) :
  Calls Tryz.prog 124 #[.slice A l.length c,.slice A' l'.length c'] w fun e w'=>∃ v,e = .returned v ∧ Kd.bool.R 4 w' w.heap.size (fun _=>True) v (bin (bval l - bval l')) ∧ Below w.heap.size w w':=by
 have HR:=Aside0.mk hr
 have HR':=Aside0.mk hr'
 have HLE:=Aside0.mk hle
 clear hr hr' hle
 have hO:=Aside0.mk (show Kd.bool.R 4 (w.alloc (.cells #[] 4)) w.heap.size (fun _=>True) (.slice (some ⟨w.heap.size,0,none⟩) 0 0) [] from
  Kd.R_of_own (own_lit_of (enc:=Value.bool) w w.heap.size 4 [] (Nat.le_refl _) (by simp)) (fun k hk=>trivial))
 go_enter Tryz.func124,Tryz.ntmps124
 go_wp2
 go_loopg [5,6,7] l.length (fun g v5 v6 v7 w'=>∃ (cy:Bool) (i:Nat),v6 = .bool cy ∧ v7 = .int .i64 (i:Int) ∧ Aside0 (i + g = l.length) ∧ ∃ o:List Bool,Aside0 (SubBIn l l' i cy o) ∧ Aside0 (Kd.bool.R 4 w' w.heap.size (fun _=>True) v5 o) ∧ Aside0 (Below w.heap.size w w'))
 case atStart=>exact ⟨false,0,rfl,rfl,⟨by omega⟩,[],⟨rfl,by simp [bval]⟩,hO,⟨below_alloc (Below.refl _ _) _⟩⟩
 case round =>
  clear hO
  obtain ⟨cy,i,rfl,rfl,HI,o,HM,HO,HB⟩:=hrel
  have hib:i ≤ l.length:=by have:=HI.out;omega
  have hob:o.length ≤ l.length:=by have:=HM.out.1;omega
  have hc1:=bit_case HR.out HB.out i
  rcases hc1 with ⟨d1,q1,p1,ad,x,rfl,hx,hcx⟩ | ⟨d1,q1,p1,hx⟩
  case inr =>
   have hie:i = l.length:=by omega
   subst hie
   have HEND:=Aside0.mk (subB_end HM.out HLE.out)
   obtain ⟨Ao,co,rfl⟩:=Kd.R_slice HO.out
   clear hx
   go_wp2_with fail
   refine (btrim_calls _ _ o _ (Kd.R_reads' HO.out).2.2 (Kd.R_reads' HO.out).2.1).mono ?_
   rintro e w1 ⟨rfl,hd⟩
   have HB1:=Aside0.mk (HB.out.trans (hd.below.mono HB.out.size))
   have HO1:=Aside0.mk (Kd.R_take (m:=btrimN o) (Kd.R_below HO.out hd.below) (btrimN_le o))
   clear hd
   go_wp2
   go_ret
   exact ⟨_,rfl,by rw [← HEND.out,← btrim_eq];exact HO1.out,HB1.out⟩
  case inl =>
   have hc2:=bit_case HR'.out HB.out i
   rcases hc2 with ⟨d2,q2,p2,ad',y,rfl,hy,hcy⟩ | ⟨d2,q2,p2,hy⟩
   ·have HST:=Aside0.mk (subB_step HM.out hx hy)
    clear hx hy
    cases x <;> cases y <;> cases cy
    case false.false.false =>
     go_wp2_with ((with_reducible refine gate_builtin (b:=.append) (xs:=#[.tmp 31,.tmp 37]) rfl ?_);at_builtin;refine Kd.R_append Kd.bool (w0:=w) (World.heap w).size rfl (.tmp 31) (.tmp 37) 92 4 (.bool false) 1 rfl Tryz.underlying92 infoB rfl (by decide) (by omega) _ o ((false != false) != false) [.bool ((false != false) != false)] (fun _=>True) (fun _=>False) rfl rfl rfl (fun _ hk=>hk.elim) (fun _ _=>trivial) HO.out HB.out (Below.size HB.out) (by omega) ?_;intro v1 w1 ho hb hg hat;have HO1:=Aside0.mk ho;have HB1:=Aside0.mk hb;clear ho hb hg hat)
     go_roundg (gk - 1)
     case measure=>have:=HI.out;omega
     case rel=>exact ⟨_,i + 1,rfl,by go_num,⟨by have:=HI.out;omega⟩,_,HST,HO1,HB1⟩
    case false.false.true =>
     go_wp2_with ((with_reducible refine gate_builtin (b:=.append) (xs:=#[.tmp 31,.tmp 37]) rfl ?_);at_builtin;refine Kd.R_append Kd.bool (w0:=w) (World.heap w).size rfl (.tmp 31) (.tmp 37) 92 4 (.bool false) 1 rfl Tryz.underlying92 infoB rfl (by decide) (by omega) _ o ((false != false) != true) [.bool ((false != false) != true)] (fun _=>True) (fun _=>False) rfl rfl rfl (fun _ hk=>hk.elim) (fun _ _=>trivial) HO.out HB.out (Below.size HB.out) (by omega) ?_;intro v1 w1 ho hb hg hat;have HO1:=Aside0.mk ho;have HB1:=Aside0.mk hb;clear ho hb hg hat)
     go_roundg (gk - 1)
     case measure=>have:=HI.out;omega
     case rel=>exact ⟨_,i + 1,rfl,by go_num,⟨by have:=HI.out;omega⟩,_,HST,HO1,HB1⟩
    case false.true.false =>
     go_wp2_with ((with_reducible refine gate_builtin (b:=.append) (xs:=#[.tmp 31,.tmp 37]) rfl ?_);at_builtin;refine Kd.R_append Kd.bool (w0:=w) (World.heap w).size rfl (.tmp 31) (.tmp 37) 92 4 (.bool false) 1 rfl Tryz.underlying92 infoB rfl (by decide) (by omega) _ o ((false != true) != false) [.bool ((false != true) != false)] (fun _=>True) (fun _=>False) rfl rfl rfl (fun _ hk=>hk.elim) (fun _ _=>trivial) HO.out HB.out (Below.size HB.out) (by omega) ?_;intro v1 w1 ho hb hg hat;have HO1:=Aside0.mk ho;have HB1:=Aside0.mk hb;clear ho hb hg hat)
     go_roundg (gk - 1)
     case measure=>have:=HI.out;omega
     case rel=>exact ⟨_,i + 1,rfl,by go_num,⟨by have:=HI.out;omega⟩,_,HST,HO1,HB1⟩
    case false.true.true =>
     go_wp2_with ((with_reducible refine gate_builtin (b:=.append) (xs:=#[.tmp 31,.tmp 37]) rfl ?_);at_builtin;refine Kd.R_append Kd.bool (w0:=w) (World.heap w).size rfl (.tmp 31) (.tmp 37) 92 4 (.bool false) 1 rfl Tryz.underlying92 infoB rfl (by decide) (by omega) _ o ((false != true) != true) [.bool ((false != true) != true)] (fun _=>True) (fun _=>False) rfl rfl rfl (fun _ hk=>hk.elim) (fun _ _=>trivial) HO.out HB.out (Below.size HB.out) (by omega) ?_;intro v1 w1 ho hb hg hat;have HO1:=Aside0.mk ho;have HB1:=Aside0.mk hb;clear ho hb hg hat)
     go_roundg (gk - 1)
     case measure=>have:=HI.out;omega
     case rel=>exact ⟨_,i + 1,rfl,by go_num,⟨by have:=HI.out;omega⟩,_,HST,HO1,HB1⟩
    case true.false.false =>
     go_wp2_with ((with_reducible refine gate_builtin (b:=.append) (xs:=#[.tmp 31,.tmp 37]) rfl ?_);at_builtin;refine Kd.R_append Kd.bool (w0:=w) (World.heap w).size rfl (.tmp 31) (.tmp 37) 92 4 (.bool false) 1 rfl Tryz.underlying92 infoB rfl (by decide) (by omega) _ o ((true != false) != false) [.bool ((true != false) != false)] (fun _=>True) (fun _=>False) rfl rfl rfl (fun _ hk=>hk.elim) (fun _ _=>trivial) HO.out HB.out (Below.size HB.out) (by omega) ?_;intro v1 w1 ho hb hg hat;have HO1:=Aside0.mk ho;have HB1:=Aside0.mk hb;clear ho hb hg hat)
     go_roundg (gk - 1)
     case measure=>have:=HI.out;omega
     case rel=>exact ⟨_,i + 1,rfl,by go_num,⟨by have:=HI.out;omega⟩,_,HST,HO1,HB1⟩
    case true.false.true =>
     go_wp2_with ((with_reducible refine gate_builtin (b:=.append) (xs:=#[.tmp 31,.tmp 37]) rfl ?_);at_builtin;refine Kd.R_append Kd.bool (w0:=w) (World.heap w).size rfl (.tmp 31) (.tmp 37) 92 4 (.bool false) 1 rfl Tryz.underlying92 infoB rfl (by decide) (by omega) _ o ((true != false) != true) [.bool ((true != false) != true)] (fun _=>True) (fun _=>False) rfl rfl rfl (fun _ hk=>hk.elim) (fun _ _=>trivial) HO.out HB.out (Below.size HB.out) (by omega) ?_;intro v1 w1 ho hb hg hat;have HO1:=Aside0.mk ho;have HB1:=Aside0.mk hb;clear ho hb hg hat)
     go_roundg (gk - 1)
     case measure=>have:=HI.out;omega
     case rel=>exact ⟨_,i + 1,rfl,by go_num,⟨by have:=HI.out;omega⟩,_,HST,HO1,HB1⟩
    case true.true.false =>
     go_wp2_with ((with_reducible refine gate_builtin (b:=.append) (xs:=#[.tmp 31,.tmp 37]) rfl ?_);at_builtin;refine Kd.R_append Kd.bool (w0:=w) (World.heap w).size rfl (.tmp 31) (.tmp 37) 92 4 (.bool false) 1 rfl Tryz.underlying92 infoB rfl (by decide) (by omega) _ o ((true != true) != false) [.bool ((true != true) != false)] (fun _=>True) (fun _=>False) rfl rfl rfl (fun _ hk=>hk.elim) (fun _ _=>trivial) HO.out HB.out (Below.size HB.out) (by omega) ?_;intro v1 w1 ho hb hg hat;have HO1:=Aside0.mk ho;have HB1:=Aside0.mk hb;clear ho hb hg hat)
     go_roundg (gk - 1)
     case measure=>have:=HI.out;omega
     case rel=>exact ⟨_,i + 1,rfl,by go_num,⟨by have:=HI.out;omega⟩,_,HST,HO1,HB1⟩
    case true.true.true =>
     go_wp2_with ((with_reducible refine gate_builtin (b:=.append) (xs:=#[.tmp 31,.tmp 37]) rfl ?_);at_builtin;refine Kd.R_append Kd.bool (w0:=w) (World.heap w).size rfl (.tmp 31) (.tmp 37) 92 4 (.bool false) 1 rfl Tryz.underlying92 infoB rfl (by decide) (by omega) _ o ((true != true) != true) [.bool ((true != true) != true)] (fun _=>True) (fun _=>False) rfl rfl rfl (fun _ hk=>hk.elim) (fun _ _=>trivial) HO.out HB.out (Below.size HB.out) (by omega) ?_;intro v1 w1 ho hb hg hat;have HO1:=Aside0.mk ho;have HB1:=Aside0.mk hb;clear ho hb hg hat)
     go_roundg (gk - 1)
     case measure=>have:=HI.out;omega
     case rel=>exact ⟨_,i + 1,rfl,by go_num,⟨by have:=HI.out;omega⟩,_,HST,HO1,HB1⟩
   ·have HST:=Aside0.mk (subB_step HM.out hx hy)
    clear hx hy
    cases x <;> cases cy
    case false.false =>
     go_wp2_with ((with_reducible refine gate_builtin (b:=.append) (xs:=#[.tmp 31,.tmp 37]) rfl ?_);at_builtin;refine Kd.R_append Kd.bool (w0:=w) (World.heap w).size rfl (.tmp 31) (.tmp 37) 92 4 (.bool false) 1 rfl Tryz.underlying92 infoB rfl (by decide) (by omega) _ o ((false != false) != false) [.bool ((false != false) != false)] (fun _=>True) (fun _=>False) rfl rfl rfl (fun _ hk=>hk.elim) (fun _ _=>trivial) HO.out HB.out (Below.size HB.out) (by omega) ?_;intro v1 w1 ho hb hg hat;have HO1:=Aside0.mk ho;have HB1:=Aside0.mk hb;clear ho hb hg hat)
     go_roundg (gk - 1)
     case measure=>have:=HI.out;omega
     case rel=>exact ⟨_,i + 1,rfl,by go_num,⟨by have:=HI.out;omega⟩,_,HST,HO1,HB1⟩
    case false.true =>
     go_wp2_with ((with_reducible refine gate_builtin (b:=.append) (xs:=#[.tmp 31,.tmp 37]) rfl ?_);at_builtin;refine Kd.R_append Kd.bool (w0:=w) (World.heap w).size rfl (.tmp 31) (.tmp 37) 92 4 (.bool false) 1 rfl Tryz.underlying92 infoB rfl (by decide) (by omega) _ o ((false != false) != true) [.bool ((false != false) != true)] (fun _=>True) (fun _=>False) rfl rfl rfl (fun _ hk=>hk.elim) (fun _ _=>trivial) HO.out HB.out (Below.size HB.out) (by omega) ?_;intro v1 w1 ho hb hg hat;have HO1:=Aside0.mk ho;have HB1:=Aside0.mk hb;clear ho hb hg hat)
     go_roundg (gk - 1)
     case measure=>have:=HI.out;omega
     case rel=>exact ⟨_,i + 1,rfl,by go_num,⟨by have:=HI.out;omega⟩,_,HST,HO1,HB1⟩
    case true.false =>
     go_wp2_with ((with_reducible refine gate_builtin (b:=.append) (xs:=#[.tmp 31,.tmp 37]) rfl ?_);at_builtin;refine Kd.R_append Kd.bool (w0:=w) (World.heap w).size rfl (.tmp 31) (.tmp 37) 92 4 (.bool false) 1 rfl Tryz.underlying92 infoB rfl (by decide) (by omega) _ o ((true != false) != false) [.bool ((true != false) != false)] (fun _=>True) (fun _=>False) rfl rfl rfl (fun _ hk=>hk.elim) (fun _ _=>trivial) HO.out HB.out (Below.size HB.out) (by omega) ?_;intro v1 w1 ho hb hg hat;have HO1:=Aside0.mk ho;have HB1:=Aside0.mk hb;clear ho hb hg hat)
     go_roundg (gk - 1)
     case measure=>have:=HI.out;omega
     case rel=>exact ⟨_,i + 1,rfl,by go_num,⟨by have:=HI.out;omega⟩,_,HST,HO1,HB1⟩
    case true.true =>
     go_wp2_with ((with_reducible refine gate_builtin (b:=.append) (xs:=#[.tmp 31,.tmp 37]) rfl ?_);at_builtin;refine Kd.R_append Kd.bool (w0:=w) (World.heap w).size rfl (.tmp 31) (.tmp 37) 92 4 (.bool false) 1 rfl Tryz.underlying92 infoB rfl (by decide) (by omega) _ o ((true != false) != true) [.bool ((true != false) != true)] (fun _=>True) (fun _=>False) rfl rfl rfl (fun _ hk=>hk.elim) (fun _ _=>trivial) HO.out HB.out (Below.size HB.out) (by omega) ?_;intro v1 w1 ho hb hg hat;have HO1:=Aside0.mk ho;have HB1:=Aside0.mk hb;clear ho hb hg hat)
     go_roundg (gk - 1)
     case measure=>have:=HI.out;omega
     case rel=>exact ⟨_,i + 1,rfl,by go_num,⟨by have:=HI.out;omega⟩,_,HST,HO1,HB1⟩
end Go.Proofs.YtijldkknhphgcaaGreat.Hand
set_option linter.unusedVariables false
set_option linter.unusedSimpArgs false
namespace Go.Proofs.YtijldkknhphgcaaGreat.Hand
open Go.RowKit Go.Proofs.YtijldkknhphgcaaGreatW.PrintWords Go.Proofs.YtijldkknhphgcaaGreatW.PrintLast Go.Proofs.YtijldkknhphgcaaGreatW.PrintMore
theorem bval_set (a:List Bool) (i:Nat) (y:Bool) (h:i < a.length):bval (a.set i y) + (rb a (i:Int)).toNat * 2 ^ i = bval a + y.toNat * 2 ^ i:=by
 induction a generalizing i with
 | nil=>simp at h
 | cons x xs ih =>
  cases i with
  | zero=>simp [bval,rb,rdOf];omega
  | succ i =>
   have h':i < xs.length:=by simpa using h
   have:=ih i h'
   rw [rb_lt h'] at this
   rw [rb_lt h]
   simp only [List.set_cons_succ,bval,List.getElem_cons_succ,Nat.pow_succ]
   rw [← Nat.mul_assoc,← Nat.mul_assoc]
   omega
theorem bval_replicate (n:Nat):bval (List.replicate n false) = 0:=by
 induction n with
 | zero=>rfl
 | succ n ih=>rw [List.replicate_succ,bval,ih];rfl
def MulBOut (a b:List Bool) (j:Nat) (o:List Bool):Prop:=o.length = a.length + b.length ∧ bval o = bval a * bval (b.take j)
def MulBIn (a o0:List Bool) (j i:Nat) (c:Bool) (o:List Bool):Prop:=o.length = o0.length ∧ bval o + c.toNat * 2 ^ (j + i) = bval o0 + bval (a.take i) * 2 ^ j
theorem mulB_step {a o0 o:List Bool} {j i:Nat} {c x y:Bool} (h:MulBIn a o0 j i c o) (hl:j + i < o.length) (hx:rb o ((j + i:Nat):Int) = x) (hy:rb a (i:Int) = y) :
  MulBIn a o0 j (i + 1) ((x && y) || (x && c) || (y && c)) (o.set (j + i) ((x != y) != c)):=by
 obtain ⟨h1,h2⟩:=h
 refine ⟨by rw [List.length_set,h1],?_⟩
 have h3:=bval_set o (j + i) ((x != y) != c) hl
 rw [hx] at h3
 rw [bval_take_succ',hy,← Nat.add_assoc,Nat.pow_succ,Nat.add_mul,Nat.mul_assoc y.toNat,← Nat.pow_add,Nat.add_comm i j]
 generalize 2 ^ (j + i) = P at *
 generalize bval (a.take i) * 2 ^ j = S at *
 cases x <;> cases y <;> cases c <;> simp at * <;> omega
theorem mulB_end {a b o0 o:List Bool} {j i:Nat} {c:Bool} (h0:MulBOut a b j o0) (hj:j < b.length) (hb:rb b (j:Int) = true) (h:MulBIn a o0 j i c o) (hi:j + i = o.length):MulBOut a b (j + 1) o:=by
 obtain ⟨g1,g2⟩:=h0
 obtain ⟨h1,h2⟩:=h
 refine ⟨by omega,?_⟩
 rw [List.take_of_length_le (by omega),hi] at h2
 have e:bval a * bval (b.take (j + 1)) = bval o0 + bval a * 2 ^ j:=by
  rw [bval_take_succ b j hj,hb,g2,Nat.mul_add]
  simp
 rw [e]
 have h3:bval a * bval (b.take (j + 1)) < 2 ^ o.length:=by
  rw [show o.length = a.length + b.length from by omega,Nat.pow_add]
  have k1:=bval_lt a
  have k2:bval (b.take (j + 1)) < 2 ^ b.length:=by
   have:=bval_lt (b.take (j + 1))
   exact Nat.lt_of_lt_of_le this (Nat.pow_le_pow_right (by omega) (by rw [List.length_take];omega))
  exact Nat.mul_lt_mul_of_lt_of_le k1 (Nat.le_of_lt k2) (by omega)
 rw [e] at h3
 cases c
 ·simp at h2;omega
 ·simp at h2;omega
theorem mulB_skip {a b o:List Bool} {j:Nat} (h:MulBOut a b j o) (hj:j < b.length) (hb:rb b (j:Int) = false):MulBOut a b (j + 1) o:=by
 obtain ⟨g1,g2⟩:=h
 refine ⟨g1,?_⟩
 rw [bval_take_succ b j hj,hb,g2]
 simp
set_option maxHeartbeats 8000000 in
set_option maxRecDepth 100000 in
theorem l1MulBits_calls (A A':Option Addr) (c c':Nat) (l l':List Bool) (w:World) (hr:Kd.bool.C w A l.length l) (hr':Kd.bool.C w A' l'.length l') (hn:l.length ≤ 35184372088832) (hn':l'.length ≤ 35184372088832) :
  Calls Tryz.prog 122 #[.slice A l.length c,.slice A' l'.length c'] w fun e w'=>∃ v,e = .returned v ∧ Kd.bool.R 4 w' w.heap.size (fun _=>True) v (bin (bval l * bval l')) ∧ Below w.heap.size w w':=by
 have HR:=Aside0.mk hr
 have HR':=Aside0.mk hr'
 clear hr hr'
 have hmk:∀ W:World,(Instr.makeSlice 92 (.int .i64 ((l.length:Int) + (l'.length:Int))) (.int .i64 ((l.length:Int) + (l'.length:Int)))).run Tryz.prog W = .ok (.slice (some ⟨W.heap.size,0,none⟩) (l.length + l'.length) (l.length + l'.length)) (W.alloc (.cells (madeCells #[.bool false] (l.length + l'.length)) 4)):=by
  intro W
  rw [show ((l.length:Int) + (l'.length:Int)) = ((l.length + l'.length:Nat):Int) from by omega]
  exact print_make_of 92 4 (.bool false) 1 Tryz.underlying92 infoB rfl (by omega) _ (by omega) W
 have hO:=Aside0.mk (show Kd.bool.R 4 (w.alloc (.cells (madeCells #[.bool false] (l.length + l'.length)) 4)) w.heap.size (fun _=>True) (.slice (some ⟨w.heap.size,0,none⟩) (l.length + l'.length) (l.length + l'.length)) (List.replicate (l.length + l'.length) false) from
  Kd.R_of_own (own_made_of' (enc:=Value.bool) (d:=false) w w.heap.size 4 _ (Nat.le_refl _) (by omega)) (fun k hk=>trivial))
 go_enter Tryz.func122,Tryz.ntmps122
 go_wp2
 go_loopg [6] l'.length (fun g v6 w'=>∃ j:Nat,v6 = .int .i64 (j:Int) ∧ Aside0 (j + g = l'.length) ∧ ∃ o:List Bool,Aside0 (MulBOut l l' j o) ∧ Aside0 (Kd.bool.R 4 w' w.heap.size (fun _=>True) (.slice (some ⟨w.heap.size,0,none⟩) (l.length + l'.length) (l.length + l'.length)) o) ∧ Aside0 (Below w.heap.size w w'))
 case atStart=>exact ⟨0,rfl,⟨by omega⟩,_,⟨by rw [List.length_replicate],by rw [bval_replicate];simp [bval]⟩,hO,⟨below_alloc (Below.refl _ _) _⟩⟩
 case round =>
  clear hO hmk
  obtain ⟨j,rfl,HJ,o0,HM0,HO,HB⟩:=hrel
  obtain ⟨gk_1,hgk1⟩:∃ g1,g1 = gk:=⟨_,rfl⟩
  subst hgk1
  have hc1:=bit_case HR'.out HB.out j
  rcases hc1 with ⟨d1,q1,p1,ad',b,rfl,hb,hcb⟩ | ⟨d1,q1,p1,hb⟩
  ·have HBJ:=Aside0.mk hb
   clear hb
   cases b with
   | false =>
    go_wp2
    go_roundg (gk_1 - 1)
    case measure=>have:=HJ.out;omega
    case rel=>exact ⟨j + 1,by go_num,⟨by have:=HJ.out;omega⟩,o0,⟨mulB_skip HM0.out (by omega) HBJ.out⟩,HO,HB⟩
   | true =>
    have hjl:j < l'.length:=by omega
    go_wp2
    go_loopg [7,8] (l.length + l'.length) (fun g v7 v8 w'=>∃ (cy:Bool) (i:Nat),v7 = .bool cy ∧ v8 = .int .i64 (i:Int) ∧ Aside0 (j + i + g = l.length + l'.length + j ∧ j + i ≤ l.length + l'.length) ∧ ∃ o:List Bool,Aside0 (MulBIn l o0 j i cy o) ∧ Aside0 (Kd.bool.R 4 w' w.heap.size (fun _=>True) (.slice (some ⟨w.heap.size,0,none⟩) (l.length + l'.length) (l.length + l'.length)) o) ∧ Aside0 (Below w.heap.size w w'))
    case atStart=>exact ⟨false,0,rfl,rfl,⟨by omega⟩,o0,⟨rfl,by simp [bval]⟩,HO,HB⟩
    case round =>
     clear HO HB hcb
     obtain ⟨cy,i,rfl,rfl,HII,o,HM,HO,HB⟩:=hrel
     obtain ⟨gk_2,hgk2⟩:∃ g1,g1 = gk:=⟨_,rfl⟩
     subst hgk2
     have hol:=HM.out.1
     have hol0:=HM0.out.1
     have HOL:=Aside0.mk (And.intro hol hol0)
     clear hol hol0
     have hii:=HII.out.2
     by_cases hend:j + i = l.length + l'.length
     ·have e1:¬ ((j:Int) + (i:Int) < (l.length:Int) + (l'.length:Int)):=by omega
      have e2:decide (j + i < l.length + l'.length) = false:=decide_eq_false (by omega)
      go_wp2
      go_roundg (gk_1 - 1)
      case measure=>have:=HJ.out;omega
      case rel=>exact ⟨j + 1,by go_num,⟨by have:=HJ.out;omega⟩,o,⟨mulB_end HM0.out hjl HBJ.out HM.out (by have:=HOL.out;omega)⟩,HO,HB⟩
     ·have e1:(j:Int) + (i:Int) < (l.length:Int) + (l'.length:Int):=by omega
      have e3:(0:Int) ≤ (j:Int) + (i:Int):=by omega
      have e4:((j:Int) + (i:Int)).toNat = j + i:=by omega
      obtain ⟨hcx,hfx⟩:=Kd.R_celln false HO.out ((j + i:Nat):Int) (by omega) (by omega)
      rw [Int.toNat_natCast] at hcx hfx
      obtain ⟨x,hx⟩:∃ x,rb o ((j + i:Nat):Int) = x:=⟨_,rfl⟩
      rw [show rdOf false o ((j + i:Nat):Int) = x from hx] at hcx
      have hput:∀ {W:World} {b:Bool},Kd.bool.R 4 W w.heap.size (fun _=>True) (.slice (some ⟨w.heap.size,0,none⟩) (l.length + l'.length) (l.length + l'.length)) o → Kd.bool.R 4 (W.setCell ⟨w.heap.size,j + i,none⟩ (.bool b)) w.heap.size (fun _=>True) (.slice (some ⟨w.heap.size,0,none⟩) (l.length + l'.length) (l.length + l'.length)) (o.set (j + i) b):=by
       intro W b h
       have h1:=(Kd.R_putg h ((j + i:Nat):Int) b).1
       rwa [Int.toNat_natCast] at h1
      have hc2:=bit_case HR.out HB.out i
      rcases hc2 with ⟨d2,q2,p2,ad,y,rfl,hy,hcy⟩ | ⟨d2,q2,p2,hy⟩
      ·have HST:=Aside0.mk (mulB_step HM.out (by have:=HOL.out;omega) hx hy)
       clear hx hy
       cases x <;> cases y <;> cases cy
       case false.false.false =>
        go_wp2
        go_roundg (gk_2 - 1)
        case measure=>have:=HII.out;omega
        case rel=>exact ⟨_,i + 1,rfl,by go_num,⟨by have:=HII.out;omega⟩,_,HST,⟨hput HO.out⟩,⟨below_set HB.out (Nat.le_refl _)⟩⟩
       case false.false.true =>
        go_wp2
        go_roundg (gk_2 - 1)
        case measure=>have:=HII.out;omega
        case rel=>exact ⟨_,i + 1,rfl,by go_num,⟨by have:=HII.out;omega⟩,_,HST,⟨hput HO.out⟩,⟨below_set HB.out (Nat.le_refl _)⟩⟩
       case false.true.false =>
        go_wp2
        go_roundg (gk_2 - 1)
        case measure=>have:=HII.out;omega
        case rel=>exact ⟨_,i + 1,rfl,by go_num,⟨by have:=HII.out;omega⟩,_,HST,⟨hput HO.out⟩,⟨below_set HB.out (Nat.le_refl _)⟩⟩
       case false.true.true =>
        go_wp2
        go_roundg (gk_2 - 1)
        case measure=>have:=HII.out;omega
        case rel=>exact ⟨_,i + 1,rfl,by go_num,⟨by have:=HII.out;omega⟩,_,HST,⟨hput HO.out⟩,⟨below_set HB.out (Nat.le_refl _)⟩⟩
       case true.false.false =>
        go_wp2
        go_roundg (gk_2 - 1)
        case measure=>have:=HII.out;omega
        case rel=>exact ⟨_,i + 1,rfl,by go_num,⟨by have:=HII.out;omega⟩,_,HST,⟨hput HO.out⟩,⟨below_set HB.out (Nat.le_refl _)⟩⟩
       case true.false.true =>
        go_wp2
        go_roundg (gk_2 - 1)
        case measure=>have:=HII.out;omega
        case rel=>exact ⟨_,i + 1,rfl,by go_num,⟨by have:=HII.out;omega⟩,_,HST,⟨hput HO.out⟩,⟨below_set HB.out (Nat.le_refl _)⟩⟩
       case true.true.false =>
        go_wp2
        go_roundg (gk_2 - 1)
        case measure=>have:=HII.out;omega
        case rel=>exact ⟨_,i + 1,rfl,by go_num,⟨by have:=HII.out;omega⟩,_,HST,⟨hput HO.out⟩,⟨below_set HB.out (Nat.le_refl _)⟩⟩
       case true.true.true =>
        go_wp2
        go_roundg (gk_2 - 1)
        case measure=>have:=HII.out;omega
        case rel=>exact ⟨_,i + 1,rfl,by go_num,⟨by have:=HII.out;omega⟩,_,HST,⟨hput HO.out⟩,⟨below_set HB.out (Nat.le_refl _)⟩⟩
      ·have HST:=Aside0.mk (mulB_step HM.out (by have:=HOL.out;omega) hx hy)
       clear hx hy
       cases x <;> cases cy
       case false.false =>
        go_wp2
        go_roundg (gk_2 - 1)
        case measure=>have:=HII.out;omega
        case rel=>exact ⟨_,i + 1,rfl,by go_num,⟨by have:=HII.out;omega⟩,_,HST,⟨hput HO.out⟩,⟨below_set HB.out (Nat.le_refl _)⟩⟩
       case false.true =>
        go_wp2
        go_roundg (gk_2 - 1)
        case measure=>have:=HII.out;omega
        case rel=>exact ⟨_,i + 1,rfl,by go_num,⟨by have:=HII.out;omega⟩,_,HST,⟨hput HO.out⟩,⟨below_set HB.out (Nat.le_refl _)⟩⟩
       case true.false =>
        go_wp2
        go_roundg (gk_2 - 1)
        case measure=>have:=HII.out;omega
        case rel=>exact ⟨_,i + 1,rfl,by go_num,⟨by have:=HII.out;omega⟩,_,HST,⟨hput HO.out⟩,⟨below_set HB.out (Nat.le_refl _)⟩⟩
       case true.true =>
        go_wp2
        go_roundg (gk_2 - 1)
        case measure=>have:=HII.out;omega
        case rel=>exact ⟨_,i + 1,rfl,by go_num,⟨by have:=HII.out;omega⟩,_,HST,⟨hput HO.out⟩,⟨below_set HB.out (Nat.le_refl _)⟩⟩
  ·have hje:j = l'.length:=by have:=HJ.out;omega
   subst hje
   have HEND:=Aside0.mk HM0.out.2
   clear hb
   go_wp2_with fail
   have hbt:=btrim_calls _ (l.length + l'.length) o0 _ (Kd.R_reads' HO.out).2.2 (by have:=HM0.out.1;omega)
   rw [HM0.out.1] at hbt
   refine hbt.mono ?_
   rintro e w1 ⟨rfl,hd⟩
   have HB1:=Aside0.mk (HB.out.trans (hd.below.mono HB.out.size))
   have HO1:=Aside0.mk (Kd.R_take (m:=btrimN o0) (Kd.R_below HO.out hd.below) (btrimN_le o0))
   clear hd
   go_wp2
   go_ret
   have e:=HEND.out
   rw [List.take_length] at e
   exact ⟨_,rfl,by rw [← e,← btrim_eq];exact HO1.out,HB1.out⟩
end Go.Proofs.YtijldkknhphgcaaGreat.Hand
set_option linter.unusedVariables false
set_option linter.unusedSimpArgs false
namespace Go.Proofs.YtijldkknhphgcaaGreat.Hand
open Go.RowKit Go.Proofs.YtijldkknhphgcaaGreatW.PrintWords Go.Proofs.YtijldkknhphgcaaGreatW.PrintLast Go.Proofs.YtijldkknhphgcaaGreatW.PrintMore
def DivBIn (a:List Bool) (b g r:Nat) (Q:List Bool):Prop :=
 Q.length = a.length ∧ r < b ∧ bval (a.drop g) = bval (Q.drop g) * b + r ∧ ∀ k:Nat,k < g → rb Q (k:Int) = false
theorem divB_start (a:List Bool) {b:Nat} (hb:0 < b):DivBIn a b a.length 0 (List.replicate a.length false):=by
 refine ⟨by simp,hb,by simp [bval],fun k hk=>?_⟩
 rw [rb_lt (by simpa using hk)]
 simp
theorem divB_keep {a Q:List Bool} {b i r:Nat} (h:DivBIn a b (i + 1) r Q) (hi:i < a.length) (hlt:(rb a (i:Int)).toNat + 2 * r < b):DivBIn a b i ((rb a (i:Int)).toNat + 2 * r) Q:=by
 obtain ⟨h1,h2,h3,h4⟩:=h
 refine ⟨h1,hlt,?_,fun k hk=>h4 k (by omega)⟩
 rw [bval_drop a i hi,bval_drop Q i (by omega),h3,h4 i (by omega)]
 have:2 * bval (Q.drop (i + 1)) * b = 2 * (bval (Q.drop (i + 1)) * b):=Nat.mul_assoc _ _ _
 simp only [Bool.toNat_false,Nat.zero_add]
 omega
theorem rb_set_ne {Q:List Bool} {i k:Nat} (x:Bool) (h:i ≠ k):rb (Q.set i x) (k:Int) = rb Q (k:Int):=by
 unfold rb rdOf
 rw [Int.toNat_natCast,List.getD_eq_getElem?_getD,List.getD_eq_getElem?_getD,List.getElem?_set_ne h]
theorem rb_set_eq {Q:List Bool} {i:Nat} (x:Bool) (h:i < Q.length):rb (Q.set i x) (i:Int) = x:=by
 rw [rb_lt (by rw [List.length_set];exact h),List.getElem_set_self]
theorem divB_put {a Q:List Bool} {b i r:Nat} (h:DivBIn a b (i + 1) r Q) (hi:i < a.length) (hge:b ≤ (rb a (i:Int)).toNat + 2 * r):DivBIn a b i ((rb a (i:Int)).toNat + 2 * r - b) (Q.set i true):=by
 obtain ⟨h1,h2,h3,h4⟩:=h
 have hx:=Bool.toNat_lt (rb a (i:Int))
 refine ⟨by rw [List.length_set,h1],by omega,?_,fun k hk=>by rw [rb_set_ne true (by omega)];exact h4 k (by omega)⟩
 rw [bval_drop a i hi,bval_drop _ i (by rw [List.length_set];omega),h3,rb_set_eq true (by omega),List.drop_set_of_lt (by omega)]
 have:(1 + 2 * bval (Q.drop (i + 1))) * b = b + 2 * (bval (Q.drop (i + 1)) * b):=by rw [Nat.add_mul,Nat.one_mul,Nat.mul_assoc]
 simp only [Bool.toNat_true]
 omega
theorem divB_end {a Q:List Bool} {b r:Nat} (h:DivBIn a b 0 r Q):bval Q = bval a / b ∧ r = bval a % b:=by
 obtain ⟨h1,h2,h3,h4⟩:=h
 rw [List.drop_zero,List.drop_zero] at h3
 have hb:0 < b:=by omega
 rw [h3,Nat.mul_comm]
 exact ⟨by rw [Nat.mul_add_div hb,Nat.div_eq_of_lt h2,Nat.add_zero],by rw [Nat.mul_add_mod,Nat.mod_eq_of_lt h2]⟩
def DivBPost (base:Nat) (w0:World) (q r:List Bool) (e:Ending) (w':World):Prop :=
 ∃ v1 v2,e = .returned (.tuple #[v1,v2]) ∧ Kd.bool.R 4 w' base (fun _=>True) v1 q ∧ Kd.bool.R 4 w' base (fun _=>True) v2 r ∧ Below base w0 w'
set_option maxHeartbeats 2000000 in
set_option maxRecDepth 100000 in
theorem l1DivBits_calls (A A':Option Addr) (c c':Nat) (l l':List Bool) (w:World) (hr:Kd.bool.C w A l.length l) (hr':Kd.bool.C w A' l'.length l') (hn:l.length ≤ 35184372088832) (hn':l'.length ≤ 17592186044416) (hp':BPlain l') (hne:l' ≠ []) :
  Calls Tryz.prog 139 #[.slice A l.length c,.slice A' l'.length c'] w (DivBPost w.heap.size w (bin (bval l / bval l')) (bin (bval l % bval l'))):=by
 have HR:=Aside0.mk hr
 have HR':=Aside0.mk hr'
 have HP':=Aside0.mk hp'
 have hpos:=bval_pos hp' hne
 clear hr hr' hp' hne
 have hmk:∀ W:World,(Instr.makeSlice 92 (.int .i64 (l.length:Int)) (.int .i64 (l.length:Int))).run Tryz.prog W = .ok (.slice (some ⟨W.heap.size,0,none⟩) l.length l.length) (W.alloc (.cells (madeCells #[.bool false] l.length) 4)):=by
  intro W
  exact print_make_of 92 4 (.bool false) 1 Tryz.underlying92 infoB rfl (by omega) _ (by omega) W
 have hQ:=Aside0.mk (show Kd.bool.R 4 ((w.alloc (.cells (madeCells #[.bool false] l.length) 4)).alloc (.cells #[] 4)) w.heap.size (fun k=>k = w.heap.size) (.slice (some ⟨w.heap.size,0,none⟩) l.length l.length) (List.replicate l.length false) from
  Kd.R_alloc (Kd.R_of_own (own_made_of' (enc:=Value.bool) (d:=false) w w.heap.size 4 _ (Nat.le_refl _) (by omega)) (fun k hk=>by simpa [Value.ownBlock] using hk.symm)) _)
 have hO:=Aside0.mk (show Kd.bool.R 4 ((w.alloc (.cells (madeCells #[.bool false] l.length) 4)).alloc (.cells #[] 4)) w.heap.size (fun k=>w.heap.size < k) (.slice (some ⟨w.heap.size + 1,0,none⟩) 0 0) [] from by
  have h:=own_lit_of (enc:=Value.bool) (w.alloc (.cells (madeCells #[.bool false] l.length) 4)) w.heap.size 4 [] (by simp) (by simp)
  rw [show (w.alloc (.cells (madeCells #[.bool false] l.length) 4)).heap.size = w.heap.size + 1 from by simp] at h
  exact Kd.R_of_own h (fun k hk=>by
   have:w.heap.size + 1 = k:=by simpa [Value.ownBlock] using hk
   show w.heap.size < k
   omega))
 go_enter Tryz.func139,Tryz.ntmps139
 go_wp2
 go_loopg [7,8] l.length (fun g v7 v8 w'=>∃ (r:Nat) (Q:List Bool),v8 = .int .i64 ((g:Int) - 1) ∧ Aside0 (g ≤ l.length) ∧ Aside0 (DivBIn l (bval l') g r Q) ∧ Aside0 (Kd.bool.R 4 w' w.heap.size (fun k=>k = w.heap.size) (.slice (some ⟨w.heap.size,0,none⟩) l.length l.length) Q) ∧ Aside0 (Kd.bool.R 4 w' w.heap.size (fun k=>w.heap.size < k) v7 (bin r)) ∧ Aside0 (Below w.heap.size w w'))
 case atStart=>exact ⟨0,_,by go_num,⟨Nat.le_refl _⟩,⟨divB_start l hpos⟩,hQ,by rw [bin_zero];exact hO,⟨below_alloc (below_alloc (Below.refl _ _) _) _⟩⟩
 case round =>
  clear hQ hO hmk
  obtain ⟨r,Q,rfl,HG,HD,HQ,HO,HB⟩:=hrel
  have hql:=HD.out.1
  have hrlt:=HD.out.2.1
  have hrl:(bin r).length ≤ l'.length:=bin_length_le (by have:=bval_lt l';omega)
  obtain ⟨Ar,cr,rfl⟩:=Kd.R_slice HO.out
  cases gk with
  | zero =>
   obtain ⟨z,hz⟩:∃ z:Int,z = ((0:Nat):Int) - 1:=⟨_,rfl⟩
   rw [← hz]
   have hzn:z < 0:=by omega
   have hzd:decide (0 ≤ z) = false:=decide_eq_false (by omega)
   clear hz
   go_wp2_with fail
   have hbt:=btrim_calls _ l.length Q _ (Kd.R_reads' HQ.out).2.2 (by omega)
   rw [hql] at hbt
   refine hbt.mono ?_
   rintro e w1 ⟨rfl,hd⟩
   have HB1:=Aside0.mk (HB.out.trans (hd.below.mono HB.out.size))
   have HQ1:=Aside0.mk (Kd.R_take (m:=btrimN Q) (Kd.R_below HQ.out hd.below) (btrimN_le Q))
   have HO1:=Aside0.mk (Kd.R_below HO.out hd.below)
   clear hd hbt
   go_wp2
   go_ret2
   have he:=divB_end HD.out
   rw [← he.1,← he.2,← btrim_eq]
   exact ⟨_,_,rfl,Kd.R_mono HQ1.out (fun _ _=>trivial),Kd.R_mono HO1.out (fun _ _=>trivial),HB1.out⟩
  | succ i =>
   have hil:=HG.out
   rw [show ((i + 1:Nat):Int) - 1 = (i:Int) from by omega]
   have hc1:=bit_case HR.out HB.out i
   rcases hc1 with ⟨d1,q1,p1,ad,x,rfl,hx,hcx⟩ | ⟨d1,q1,p1,hx⟩
   case inr=>omega
   have hs0:w.heap.size < wr.heap.size:=own_lt (Kd.own_of_R HQ.out) w.heap.size rfl
   obtain ⟨cq,fq⟩:=Kd.R_celln false HQ.out (i:Int) (by omega) (by omega)
   obtain ⟨rl,hrl2⟩:∃ rl,rl = bin r:=⟨_,rfl⟩
   rw [← hrl2] at HO hrl ⊢
   have HRL:=Aside0.mk hrl2
   have HXE:=Aside0.mk hx
   have HQL:=Aside0.mk hql
   have HX:=Aside0.mk (show Kd.bool.R 4 (wr.alloc (.cells #[.bool x] 4)) w.heap.size (fun k=>w.heap.size < k) (.slice (some ⟨wr.heap.size,0,none⟩) 1 1) [x] from
    Kd.R_of_own (own_lit_of (enc:=Value.bool) wr w.heap.size 4 [x] HB.out.size (by simp)) (fun k hk=>by
     have:wr.heap.size = k:=by simpa [Value.ownBlock] using hk
     show w.heap.size < k
     omega))
   have hfr:∀ k,(wr.alloc (.cells #[.bool x] 4)).heap.size ≤ k → w.heap.size < k:=by
    intro k hk
    have h1:wr.heap.size + 1 ≤ k:=by simpa using hk
    omega
   have HFR:=Aside0.mk hfr
   have HQ0:=Aside0.mk (Kd.R_alloc HQ.out (.cells #[.bool x] 4))
   have HO0:=Aside0.mk (Kd.R_alloc HO.out (.cells #[.bool x] 4))
   have HB0:=Aside0.mk (below_alloc HB.out (.cells #[.bool x] 4))
   clear hx hql hrl2 hfr HQ HO HB
   go_wp2_with ((with_reducible refine gate_builtin (b:=.append) (xs:=#[.tmp 26,.tmp 27]) rfl ?_);at_builtin;refine Kd.R_append_rows Kd.bool (w0:=w) w.heap.size rfl (.tmp 26) (.tmp 27) 92 4 (.bool false) 1 rfl Tryz.underlying92 infoB rfl (by decide) (by omega) _ [x] rl Ar rl.length cr (fun k=>w.heap.size < k) (fun _=>False) rfl rfl HX.out (Kd.R_reads' HO0.out).2.2 (fun _ _ h=>h) (fun _ h=>h.elim) HFR.out HB0.out HB0.out.size (by simp;omega) ?_;intro v1 w1 ho hb hg hat;have HS1:=Aside0.mk ho;have HB1:=Aside0.mk hb;have HG1:=Aside0.mk hg;clear ho hb hg hat)
   obtain ⟨A1,c1,rfl⟩:=Kd.R_slice HS1.out
   have HQ1:=Aside0.mk (Kd.R_grown HQ0.out HG1.out (by rintro k rfl h;have h':w.heap.size = wr.heap.size:=Option.some.inj h;omega))
   clear HX HQ0 HO0 HB0 HG1
   refine (btrim_calls _ _ ([x] ++ rl) _ (Kd.R_reads' HS1.out).2.2 (Kd.R_reads' HS1.out).2.1).mono ?_
   rintro e w2 ⟨rfl,hd⟩
   have HB2:=Aside0.mk (HB1.out.trans (hd.below.mono HB1.out.size))
   have HQ2:=Aside0.mk (Kd.R_below HQ1.out hd.below)
   have ht:=Kd.R_take (m:=btrimN ([x] ++ rl)) (Kd.R_below HS1.out hd.below) (btrimN_le _)
   have hbs:bval ([x] ++ rl) = (rb l (i:Int)).toNat + 2 * r:=by
    rw [HRL.out,HXE.out]
    show x.toNat + 2 * bval (bin r) = _
    rw [bval_bin]
   rw [btrim_eq,btrimN_length] at ht
   rw [btrimN_length]
   obtain ⟨T,hT⟩:∃ T,T = bin (bval ([x] ++ rl)):=⟨_,rfl⟩
   rw [← hT] at ht ⊢
   have hTl:T.length ≤ l'.length + 1:=by
    rw [hT,hbs]
    apply bin_length_le
    have h1:=bval_lt l'
    have h2:=Bool.toNat_lt (rb l (i:Int))
    rw [Nat.pow_succ]
    omega
   have HT:=Aside0.mk (show T = bin ((rb l (i:Int)).toNat + 2 * r) from by rw [hT,hbs])
   have HO2:=Aside0.mk ht
   clear hd ht hbs hT HS1 HB1 HQ1
   go_wp2_with fail
   refine (l1CmpBits_calls _ _ _ _ T l' _ (Kd.R_reads' HO2.out).2.2 (Kd.C_below HR'.out HB2.out) (by rw [HT.out];exact bplain_bin _) HP'.out).mono ?_
   rintro e w3 ⟨rfl,hd⟩
   have HB3:=Aside0.mk (HB2.out.trans (hd.below.mono HB2.out.size))
   have HQ3:=Aside0.mk (Kd.R_below HQ2.out hd.below)
   have HO3:=Aside0.mk (Kd.R_below HO2.out hd.below)
   clear hd HB2 HQ2 HO2
   rw [show bval T = (rb l (i:Int)).toNat + 2 * r from by rw [HT.out,bval_bin]]
   rcases Nat.lt_or_ge ((rb l (i:Int)).toNat + 2 * r) (bval l') with hlt | hge
   ·rw [cmpN_lt hlt]
    have HLT:=Aside0.mk hlt
    clear hlt
    go_wp2
    go_roundg i
    case measure=>omega
    case rel=>exact ⟨_,Q,by go_num,⟨by omega⟩,⟨divB_keep HD.out (by omega) HLT.out⟩,HQ3,by rw [← HT.out];exact HO3,HB3⟩
   ·obtain ⟨cv,hcv,hcv0⟩:∃ cv:Int,cmpN ((rb l (i:Int)).toNat + 2 * r) (bval l') = cv ∧ 0 ≤ cv:=by
     refine ⟨_,rfl,?_⟩
     unfold cmpN
     rw [if_neg (by omega)]
     split <;> omega
    rw [hcv]
    have HGE:=Aside0.mk hge
    have hsz:w.heap.size < w3.heap.size:=own_lt (Kd.own_of_R HQ3.out) w.heap.size rfl
    clear hge hcv
    go_wp2_with fail
    refine (l1SubBits_calls _ _ _ _ T l' _ (Kd.R_reads' HO3.out).2.2 (Kd.C_below HR'.out HB3.out) (by omega) (by omega) (by rw [HT.out,bval_bin];exact HGE.out)).mono ?_
    rintro e w4 ⟨v,rfl,ho,hb⟩
    obtain ⟨A4,c4,rfl⟩:=Kd.R_slice ho
    have HB4:=Aside0.mk (HB3.out.trans (hb.mono HB3.out.size))
    have HQ4:=Aside0.mk (Kd.R_below HQ3.out hb)
    have HO4:=Aside0.mk (Kd.R_lower (Kd.R_mono (Kd.R_bound ho) (fun k hk=>by have:=hk.2.1;show w.heap.size < k;omega)) HB3.out.size)
    obtain ⟨cq4,fq4⟩:=Kd.R_celln false HQ4.out (i:Int) (by omega) (by omega)
    rw [Int.toNat_natCast] at cq4 fq4
    clear ho hb HB3 HQ3 HO3
    go_wp2
    go_roundg i
    case measure=>omega
    case rel =>
     have h1:=(Kd.R_putg HQ4.out (i:Int) true).1
     rw [Int.toNat_natCast] at h1
     have h2:bval T = (rb l (i:Int)).toNat + 2 * r:=by rw [HT.out,bval_bin]
     exact ⟨_,Q.set i true,by go_num,⟨by omega⟩,⟨divB_put HD.out (by omega) HGE.out⟩,⟨h1⟩,⟨by rw [← h2];exact Kd.R_far HO4.out (fun k hk=>by show k ≠ w.heap.size;omega) _⟩,⟨below_set HB4.out (Nat.le_refl _)⟩⟩
end Go.Proofs.YtijldkknhphgcaaGreat.Hand
set_option linter.unusedVariables false
set_option linter.unusedSimpArgs false
namespace Go.Proofs.YtijldkknhphgcaaGreat.Hand
open Go.RowKit Go.Proofs.YtijldkknhphgcaaGreatW.PrintWords Go.Proofs.YtijldkknhphgcaaGreatW.PrintLast Go.Proofs.YtijldkknhphgcaaGreatW.PrintMore
theorem head_cell {w:World} {A:Option Addr} {x:List Bool} (h:Kd.bool.C w A x.length x) (hne:x ≠ []):∃ ad b,A = some ad ∧ bval x = b.toNat + 2 * bval (x.drop 1) ∧ w.cell? ad = some (.bool b):=by
 have hl:0 < x.length:=List.length_pos_iff.mpr hne
 obtain ⟨ad,e,hx⟩:=Kd.at_bool h 0 (by omega) (by omega)
 rw [show (0:Int).toNat = 0 from rfl,Addr.add_zero'] at hx
 refine ⟨ad,_,e,?_,hx⟩
 have:=bval_drop x 0 hl
 rwa [List.drop_zero] at this
theorem bool_slice1 (A:Option Addr) (c:Nat) (x:List Bool) (h1:1 ≤ x.length) (hc:x.length ≤ c) :
  ∃ A':Option Addr,(∀ W:World,(Instr.slice 92 (.slice A x.length c) (some (.int .i64 1)) none none).run Tryz.prog W = .ok (.slice A' (x.drop 1).length (c - 1)) W) ∧
   (∀ w:World,Kd.bool.C w A x.length x → Kd.bool.C w A' (x.drop 1).length (x.drop 1)) ∧ (x.drop 1).length ≤ c - 1:=by
 obtain ⟨A',h2,h3,h4⟩:=print_drop_of (P:=Tryz.prog) Value.bool false 92 4 .i64 (i:=Tryz.t4) Tryz.underlying92 (by kernel_rfl) (by kernel_rfl) A c x 1 (by omega) (by omega) hc
 exact ⟨A',h2,fun w h=>Kd.C_of_reads (h3 w (Kd.reads_of_C h)),h4⟩
theorem even_drop {x:List Bool} (hp:BPlain x) (hne:x ≠ []) (h:bval x = 2 * bval (x.drop 1)):x.drop 1 ≠ [] ∧ BPlain (x.drop 1):=by
 refine ⟨fun e=>?_,hp.drop1⟩
 have:=bval_pos hp hne
 rw [h,e] at this
 simp [bval] at this
theorem gcd_even_odd (a b:Nat) (h:b % 2 = 1):Nat.gcd (2 * a) b = Nat.gcd a b:=by
 have h2:Nat.Coprime 2 b:=by
  unfold Nat.Coprime
  rw [Nat.gcd_rec,h]
  rfl
 exact Nat.Coprime.gcd_mul_left_cancel a h2
def ReadPost (w0:World) (m:List Bool) (e:Ending) (w':World):Prop :=
 ∃ B d,e = .returned (.slice B m.length d) ∧ m.length ≤ d ∧ Kd.bool.C w' B m.length m ∧ Below w0.heap.size w0 w'
set_option maxHeartbeats 4000000 in
set_option maxRecDepth 100000 in
theorem l1GcdBits_calls (A A':Option Addr) (c c':Nat) (l l':List Bool) (w:World) (hr:Kd.bool.C w A l.length l) (hr':Kd.bool.C w A' l'.length l') (hc:l.length ≤ c) (hc':l'.length ≤ c') (hn:l.length ≤ 17592186044416) (hn':l'.length ≤ 17592186044416) (hp:BPlain l) (hp':BPlain l') :
  Calls Tryz.prog 99 #[.slice A l.length c,.slice A' l'.length c'] w (ReadPost w (bin (Nat.gcd (bval l) (bval l')))):=by
 have HR:=Aside0.mk hr
 have HR':=Aside0.mk hr'
 have HC:=Aside0.mk (And.intro hc hc')
 have HP:=Aside0.mk (And.intro hp hp')
 obtain ⟨G,hG⟩:∃ G,G = Nat.gcd (bval l) (bval l'):=⟨_,rfl⟩
 rw [← hG]
 clear hr hr' hc hc' hp hp'
 by_cases h0:l = []
 ·subst h0
  have hg:G = bval l':=by rw [hG];exact Nat.gcd_zero_left _
  rw [hg,bin_bval HP.out.2]
  go_enter Tryz.func99,Tryz.ntmps99
  clear hG hg
  go_wp2
  go_ret
  exact ⟨_,_,rfl,HC.out.2,HR'.out,Below.refl _ _⟩
 have a1:0 < l.length:=List.length_pos_iff.mpr h0
 have a2:(l.length == 0) = false:=by rw [beq_eq_false_iff_ne];omega
 have a3:((l.length:Int) == 0) = false:=by rw [beq_eq_false_iff_ne];omega
 by_cases h0':l' = []
 ·subst h0'
  have hg:G = bval l:=by rw [hG];exact Nat.gcd_zero_right _
  rw [hg,bin_bval HP.out.1]
  clear hG hg
  go_enter Tryz.func99,Tryz.ntmps99
  go_wp2
  go_ret
  exact ⟨_,_,rfl,HC.out.1,HR.out,Below.refl _ _⟩
 have a1':0 < l'.length:=List.length_pos_iff.mpr h0'
 have a2':(l'.length == 0) = false:=by rw [beq_eq_false_iff_ne];omega
 have a3':((l'.length:Int) == 0) = false:=by rw [beq_eq_false_iff_ne];omega
 have HG:=Aside0.mk hG
 have H0:=Aside0.mk (And.intro h0 h0')
 clear hG h0 h0'
 go_enter Tryz.func99,Tryz.ntmps99
 go_wp2
 go_loopg [0,1,5] l.length (fun g v0 v1 v5 w'=>∃ (B B':Option Addr) (d d' t:Nat) (x y:List Bool),v0 = .slice B x.length d ∧ v1 = .slice B' y.length d' ∧ v5 = .int .i64 (t:Int) ∧ Aside0 (g = x.length ∧ t + x.length ≤ l.length ∧ y.length ≤ l'.length) ∧ Aside0 (x.length ≤ d ∧ y.length ≤ d') ∧ Aside0 (Kd.bool.C w' B x.length x) ∧ Aside0 (Kd.bool.C w' B' y.length y) ∧ Aside0 (BPlain x ∧ BPlain y ∧ x ≠ [] ∧ y ≠ [] ∧ 2 ^ t * Nat.gcd (bval x) (bval y) = G) ∧ Aside0 (Below w.heap.size w w'))
 case atStart=>exact ⟨A,A',c,c',0,l,l',rfl,rfl,rfl,⟨by omega⟩,HC,HR,HR',⟨HP.out.1,HP.out.2,H0.out.1,H0.out.2,by rw [HG.out];simp⟩,⟨Below.refl _ _⟩⟩
 case round =>
  clear HR HR' HC HP a1 a2 a3 a1' a2' a3' H0
  obtain ⟨B,B',d,d',t,x,y,rfl,rfl,rfl,HL,HCC,HX,HY,HI,HB⟩:=hrel
  obtain ⟨adx,bx,rfl,hvx,hcx⟩:=head_cell HX.out HI.out.2.2.1
  obtain ⟨ady,b_y,rfl,hvy,hcy⟩:=head_cell HY.out HI.out.2.2.2.1
  have lx:0 < x.length:=List.length_pos_iff.mpr HI.out.2.2.1
  have ly:0 < y.length:=List.length_pos_iff.mpr HI.out.2.2.2.1
  have HVX:=Aside0.mk hvx
  have HVY:=Aside0.mk hvy
  have htl:t ≤ l.length:=by have:=HL.out.2.1;omega
  clear hvx hvy
  by_cases hbb:bx = false ∧ b_y = false
  ·obtain ⟨rfl,rfl⟩:=hbb
   obtain ⟨Bx,rx,cx,lcx⟩:=bool_slice1 (some adx) d x lx HCC.out.1
   obtain ⟨By,ry,cy,lcy⟩:=bool_slice1 (some ady) d' y ly HCC.out.2
   have HCX:=Aside0.mk (cx _ HX.out)
   have HCY:=Aside0.mk (cy _ HY.out)
   have HLC:=Aside0.mk (And.intro lcx lcy)
   clear cx cy lcx lcy
   go_wp2
   go_roundg (x.length - 1)
   case measure=>have:=HL.out.1;omega
   case rel =>
    obtain ⟨p1,p2,p3,p4,p5⟩:=HI.out
    have ex:=HVX.out
    have ey:=HVY.out
    simp only [Bool.toNat_false,Nat.zero_add] at ex ey
    have ix:=even_drop p1 p3 ex
    have iy:=even_drop p2 p4 ey
    have dx:(x.drop 1).length = x.length - 1:=List.length_drop
    have dy:(y.drop 1).length = y.length - 1:=List.length_drop
    refine ⟨Bx,By,d - 1,d' - 1,t + 1,x.drop 1,y.drop 1,by rw [dx],by rw [dy],by go_num,⟨?_⟩,HLC,HCX,HCY,⟨ix.2,iy.2,ix.1,iy.1,?_⟩,HB⟩
    ·have:=HL.out;omega
    ·rw [← p5,ex,ey,Nat.gcd_mul_left,Nat.pow_succ,Nat.mul_assoc]
  ·have hodd:bval x % 2 = 1 ∨ bval y % 2 = 1:=by
    rcases bx with _ | _
    ·rcases b_y with _ | _
     ·exact absurd ⟨rfl,rfl⟩ hbb
     ·right;rw [HVY.out];simp
    ·left;rw [HVX.out];simp
   have HODD:=Aside0.mk hodd
   have hbc:bx = true ∨ (bx = false ∧ b_y = true):=by
    cases bx <;> cases b_y <;> simp at hbb ⊢
   clear hodd hbb
   rcases hbc with rfl | ⟨rfl,rfl⟩
   all_goals
    clear HVX HVY
    go_wp2
    go_loopg [0,1] (bval x + bval y) (fun g v0 v1 w'=>∃ (B B':Option Addr) (d d':Nat) (x y:List Bool),v0 = .slice B x.length d ∧ v1 = .slice B' y.length d' ∧ Aside0 (g = bval x + bval y ∧ x.length ≤ 17592186044416 ∧ y.length ≤ 17592186044416) ∧ Aside0 (x.length ≤ d ∧ y.length ≤ d') ∧ Aside0 (Kd.bool.C w' B x.length x) ∧ Aside0 (Kd.bool.C w' B' y.length y) ∧ Aside0 (BPlain x ∧ BPlain y ∧ y ≠ [] ∧ (bval x % 2 = 1 ∨ bval y % 2 = 1) ∧ 2 ^ t * Nat.gcd (bval x) (bval y) = G) ∧ Aside0 (Below w.heap.size w w'))
    case atStart=>exact ⟨some adx,some ady,d,d',x,y,rfl,rfl,⟨rfl,by have:=HL.out;omega,by have:=HL.out;omega⟩,HCC,HX,HY,⟨HI.out.1,HI.out.2.1,HI.out.2.2.2.1,HODD.out,HI.out.2.2.2.2⟩,HB⟩
    case round =>
     clear HX HY HI HB HCC HL HODD lx ly hcx hcy
     obtain ⟨B,B',d,d',x,y,rfl,rfl,HL,HCC,HX,HY,HI,HB⟩:=hrel
     by_cases hx0:x = []
     ·subst hx0
      have hd0:decide ((0:Int) < (([]:List Bool).length:Int)) = false:=rfl
      clear hd0
      have hyl:=HL.out.2.2
      have hmk:∀ W:World,(Instr.makeSlice 92 (.int .i64 (t:Int)) (.int .i64 (t:Int))).run Tryz.prog W = .ok (.slice (some ⟨W.heap.size,0,none⟩) t t) (W.alloc (.cells (madeCells #[.bool false] t) 4)):=by
       intro W
       exact print_make_of 92 4 (.bool false) 1 Tryz.underlying92 infoB rfl (by omega) _ (by omega) W
      have HO:=Aside0.mk (show Kd.bool.R 4 (wr.alloc (.cells (madeCells #[.bool false] t) 4)) w.heap.size (fun _=>True) (.slice (some ⟨wr.heap.size,0,none⟩) t t) (List.replicate t false) from
       Kd.R_of_own (own_made_of' (enc:=Value.bool) (d:=false) wr w.heap.size 4 _ HB.out.size (by omega)) (fun k hk=>trivial))
      have HY1:=Aside0.mk (Kd.C_below HY.out (below_alloc (Below.refl wr.heap.size wr) (.cells (madeCells #[.bool false] t) 4)))
      have HB1:=Aside0.mk (below_alloc HB.out (.cells (madeCells #[.bool false] t) 4))
      go_wp2_with ((with_reducible refine gate_builtin (b:=.append) (xs:=#[.tmp 63,.tmp 64]) rfl ?_);at_builtin;refine Kd.R_append_rows Kd.bool (w0:=w) w.heap.size rfl (.tmp 63) (.tmp 64) 92 4 (.bool false) 1 rfl Tryz.underlying92 infoB rfl (by decide) (by omega) _ (List.replicate t false) y B' y.length d' (fun _=>True) (fun _=>False) rfl rfl HO.out HY1.out (fun _ _ h=>h) (fun _ h=>h.elim) (fun _ _=>trivial) HB1.out HB1.out.size (by simp;omega) ?_;intro v1 w1 ho hb hg hat;have HO2:=Aside0.mk ho;have HB2:=Aside0.mk hb;clear ho hb hg hat)
      obtain ⟨p1,p2,p3,p4,p5⟩:=HI.out
      have hm:List.replicate t false ++ y = bin G:=by
       have hv:bval (List.replicate t false ++ y) = G:=by
        rw [bval_append,bval_replicate,List.length_replicate,Nat.zero_add,← p5]
        simp [bval]
       have hpl:BPlain (List.replicate t false ++ y):=by
        intro hne
        rw [List.getLast_append_right p3]
        exact p2 p3
       rw [← hv,bin_bval hpl]
      have HM:=Aside0.mk hm
      obtain ⟨A2,c2,rfl⟩:=Kd.R_slice HO2.out
      clear p1 p2 p3 p4 p5 hm
      go_ret
      have hrd:=Kd.R_reads' HO2.out
      rw [HM.out] at hrd ⊢
      exact ⟨_,_,rfl,hrd.2.1,hrd.2.2,HB2.out⟩
     ·obtain ⟨adx2,bx2,rfl,hvx,hcx⟩:=head_cell HX.out hx0
      obtain ⟨ady2,by2,rfl,hvy,hcy⟩:=head_cell HY.out HI.out.2.2.1
      have lx:0 < x.length:=List.length_pos_iff.mpr hx0
      have ly:0 < y.length:=List.length_pos_iff.mpr HI.out.2.2.1
      obtain ⟨Bx,rx,cx,lcx⟩:=bool_slice1 (some adx2) d x lx HCC.out.1
      obtain ⟨By,ry,cy,lcy⟩:=bool_slice1 (some ady2) d' y ly HCC.out.2
      have HCX:=Aside0.mk (cx _ HX.out)
      have HCY:=Aside0.mk (cy _ HY.out)
      have HLC:=Aside0.mk (And.intro lcx lcy)
      have dx:(x.drop 1).length = x.length - 1:=List.length_drop
      have dy:(y.drop 1).length = y.length - 1:=List.length_drop
      have HDX:=Aside0.mk (And.intro dx dy)
      have HX0:=Aside0.mk hx0
      have HVX:=Aside0.mk hvx
      have HVY:=Aside0.mk hvy
      have hpx:=bval_pos HI.out.1 hx0
      have hpy:=bval_pos HI.out.2.1 HI.out.2.2.1
      clear cx cy lcx lcy dx dy hx0 hvx hvy
      cases bx2 with
      | false =>
       have ex:=HVX.out
       simp only [Bool.toNat_false,Nat.zero_add] at ex
       have EX:=Aside0.mk ex
       clear ex
       go_wp2
       go_roundg (bval (x.drop 1) + bval y)
       case measure=>have:=HL.out.1;have:=EX.out;omega
       case rel =>
        obtain ⟨p1,p2,p3,p4,p5⟩:=HI.out
        have ix:=even_drop p1 HX0.out EX.out
        have hyo:bval y % 2 = 1:=by have:=EX.out;omega
        refine ⟨Bx,some ady2,d - 1,d',x.drop 1,y,by rw [HDX.out.1],rfl,⟨rfl,?_,?_⟩,⟨HLC.out.1,HCC.out.2⟩,HCX,HY,⟨ix.2,p2,p3,.inr hyo,?_⟩,HB⟩
        ·have:=HL.out;have:=HDX.out.1;omega
        ·have:=HL.out;omega
        ·rw [← p5,EX.out,gcd_even_odd _ _ hyo]
      | true =>
       have hxo:bval x % 2 = 1:=by rw [HVX.out];simp
       have HXO:=Aside0.mk hxo
       clear hxo
       cases by2 with
       | false =>
        have ey:=HVY.out
        simp only [Bool.toNat_false,Nat.zero_add] at ey
        have EY:=Aside0.mk ey
        clear ey
        go_wp2
        go_roundg (bval x + bval (y.drop 1))
        case measure=>have:=HL.out.1;have:=EY.out;omega
        case rel =>
         obtain ⟨p1,p2,p3,p4,p5⟩:=HI.out
         have iy:=even_drop p2 p3 EY.out
         refine ⟨some adx2,By,d,d' - 1,x,y.drop 1,rfl,by rw [HDX.out.2],⟨rfl,?_,?_⟩,⟨HCC.out.1,HLC.out.2⟩,HX,HCY,⟨p1,iy.2,iy.1,.inl HXO.out,?_⟩,HB⟩
         ·have:=HL.out;omega
         ·have:=HL.out;have:=HDX.out.2;omega
         ·rw [← p5,EY.out,Nat.gcd_comm (bval x) (2 * _),gcd_even_odd _ _ HXO.out,Nat.gcd_comm]
       | true =>
        go_wp2_with fail
        refine (l1CmpBits_calls _ _ _ _ x y _ HX.out HY.out HI.out.1 HI.out.2.1).mono ?_
        rintro e w3 ⟨rfl,hd⟩
        have HB3:=Aside0.mk (HB.out.trans (hd.below.mono HB.out.size))
        have HX3:=Aside0.mk (Kd.C_below HX.out hd.below)
        have HY3:=Aside0.mk (Kd.C_below HY.out hd.below)
        have hxl:=HL.out.2.1
        have hyl:=HL.out.2.2
        clear hd HCX HCY
        rcases Nat.lt_or_ge (bval x) (bval y) with hlt | hge
        ·rw [cmpN_lt hlt]
         have HLT:=Aside0.mk hlt
         go_wp2_with fail
         refine (l1SubBits_calls _ _ _ _ y x _ HY3.out HX3.out (by omega) (by omega) (Nat.le_of_lt hlt)).mono ?_
         rintro e w4 ⟨v,rfl,ho,hb⟩
         obtain ⟨z,hz⟩:∃ z,z = bin (bval y - bval x):=⟨_,rfl⟩
         rw [← hz] at ho
         have hzv:bval z = bval y - bval x:=by rw [hz,bval_bin]
         have hzl:z.length ≤ y.length:=by
          rw [hz]
          exact bin_length_le (by have:=bval_lt y;omega)
         have hzn:z ≠ []:=by rw [hz];intro h;rw [bin_nil_iff] at h;omega
         have hzp:BPlain z:=by rw [hz];exact bplain_bin _
         have hzpos:0 < z.length:=List.length_pos_iff.mpr hzn
         have hz1:(z.length == 0) = false:=by rw [beq_eq_false_iff_ne];omega
         have hz2:((z.length:Int) == 0) = false:=by rw [beq_eq_false_iff_ne];omega
         obtain ⟨Az,cz,rfl⟩:=Kd.R_slice ho
         have HZ:=Aside0.mk (Kd.R_reads' ho).2
         have HX4:=Aside0.mk (Kd.C_below HX3.out hb)
         have HB4:=Aside0.mk (HB3.out.trans (hb.mono HB3.out.size))
         have HZF:=Aside0.mk (And.intro hzv (And.intro hzl (And.intro hzn hzp)))
         clear ho hb hz hzv hzl hzn hzp HY HY3 HB HB3 HX HX3 hlt
         go_wp2
         go_roundg (bval x + bval z)
         case measure=>have:=HL.out.1;have:=HZF.out.1;have:=HLT.out;omega
         case rel =>
          obtain ⟨p1,p2,p3,p4,p5⟩:=HI.out
          obtain ⟨z1,z2,z3,z4⟩:=HZF.out
          refine ⟨some adx2,Az,d,cz,x,z,rfl,rfl,⟨rfl,hxl,by omega⟩,⟨HCC.out.1,HZ.out.1⟩,HX4,⟨HZ.out.2⟩,⟨p1,z4,z3,.inl HXO.out,?_⟩,HB4⟩
          rw [← p5,z1,Nat.gcd_sub_self_right (Nat.le_of_lt HLT.out)]
        ·obtain ⟨cv,hcv,hcv0⟩:∃ cv:Int,cmpN (bval x) (bval y) = cv ∧ 0 ≤ cv:=by
          refine ⟨_,rfl,?_⟩
          unfold cmpN
          rw [if_neg (by omega)]
          split <;> omega
         rw [hcv]
         have HGE:=Aside0.mk hge
         clear hcv
         go_wp2_with fail
         refine (l1SubBits_calls _ _ _ _ x y _ HX3.out HY3.out (by omega) (by omega) hge).mono ?_
         rintro e w4 ⟨v,rfl,ho,hb⟩
         obtain ⟨z,hz⟩:∃ z,z = bin (bval x - bval y):=⟨_,rfl⟩
         rw [← hz] at ho
         have hzv:bval z = bval x - bval y:=by rw [hz,bval_bin]
         have hzl:z.length ≤ x.length:=by
          rw [hz]
          exact bin_length_le (by have:=bval_lt x;omega)
         have hzp:BPlain z:=by rw [hz];exact bplain_bin _
         obtain ⟨Az,cz,rfl⟩:=Kd.R_slice ho
         have HZ:=Aside0.mk (Kd.R_reads' ho).2
         have HY4:=Aside0.mk (Kd.C_below HY3.out hb)
         have HB4:=Aside0.mk (HB3.out.trans (hb.mono HB3.out.size))
         have HZF:=Aside0.mk (And.intro hzv (And.intro hzl hzp))
         have hyo:bval y % 2 = 1:=by rw [HVY.out];simp
         have HYO:=Aside0.mk hyo
         clear ho hb hz hzv hzl hzp HY HY3 HB HB3 HX HX3 hge hyo
         go_wp2
         go_roundg (bval z + bval y)
         case measure=>have:=HL.out.1;have:=HZF.out.1;have:=HGE.out;omega
         case rel =>
          obtain ⟨p1,p2,p3,p4,p5⟩:=HI.out
          obtain ⟨z1,z2,z4⟩:=HZF.out
          refine ⟨Az,some ady2,cz,d',z,y,rfl,rfl,⟨rfl,by omega,hyl⟩,⟨HZ.out.1,HCC.out.2⟩,⟨HZ.out.2⟩,HY4,⟨z4,p2,p3,.inr HYO.out,?_⟩,HB4⟩
          rw [← p5,z1,Nat.gcd_sub_self_left HGE.out]
end Go.Proofs.YtijldkknhphgcaaGreat.Hand
set_option linter.unusedVariables false
set_option linter.unusedSimpArgs false
namespace Go.Proofs.YtijldkknhphgcaaGreat.Hand
open Go.RowKit Go.Proofs.YtijldkknhphgcaaGreatW.PrintWords Go.Proofs.YtijldkknhphgcaaGreatW.PrintLast Go.Proofs.YtijldkknhphgcaaGreatW.PrintMore
theorem bin_val_length {l:List Int} (hl:Limbs l):(bin (val l)).length ≤ 32 * l.length:=bin_length_le (by rw [two_pow_32];exact val_lt hl)
end Go.Proofs.YtijldkknhphgcaaGreat.Hand
set_option linter.unusedVariables false
set_option linter.unusedSimpArgs false
namespace Go.Proofs.YtijldkknhphgcaaGreat.Hand
open Go.RowKit Go.Proofs.YtijldkknhphgcaaGreatW.PrintWords Go.Proofs.YtijldkknhphgcaaGreatW.PrintLast Go.Proofs.YtijldkknhphgcaaGreatW.PrintMore
theorem bin_le {a b k:Nat} (h:a ≤ b) (hb:(bin b).length ≤ k):(bin a).length ≤ k:=by
 refine bin_length_le ?_
 have:=bval_lt (bin b)
 rw [bval_bin] at this
 exact Nat.lt_of_le_of_lt h (Nat.lt_of_lt_of_le this (Nat.pow_le_pow_right (by omega) hb))
end Go.Proofs.YtijldkknhphgcaaGreat.Hand
end
