/- Texts of one proof, one behind the other: each tells what it proves. -/
import Derived.Test.YtijldkknhphgcaaGreatCCheckGraph4
import Derived.Lib.Bits
import Derived.Test.YtijldkknhphgcaaGreatCCheckGraph5

section
/- Long division's mathematics and the small cases of division. The conditions stand with each part. -/
set_option linter.unusedVariables false
set_option linter.unusedSimpArgs false
namespace Go.Proofs.YtijldkknhphgcaaGreat.Hand
open Go.RowKit Go.Proofs.YtijldkknhphgcaaGreatW.PrintWords
theorem pow_pos (n:Nat):0 < 4294967296 ^ n:=Nat.pow_pos (by omega)
theorem val_div {l:List Int} (hl:Limbs l) (t:Nat) (ht:t ≤ l.length):val l / 4294967296 ^ t = val (l.drop t):=by
 have h:=val_split l t ht
 have h2:=val_lt (hl.take t)
 rw [List.length_take,Nat.min_eq_left ht] at h2
 rw [h,Nat.add_mul_div_left _ _ (pow_pos t),Nat.div_eq_of_lt h2,Nat.zero_add]
theorem val_drop_zero {l:List Int} (hl:Limbs l) (t:Nat) (ht:t ≤ l.length) (h:val l < 4294967296 ^ t):val (l.drop t) = 0:=by
 rw [← val_div hl t ht,Nat.div_eq_of_lt h]
theorem digit_le (U v e f:Nat) (he:0 < e) (hf:0 < f) (hv:0 < v):U / (v * e) * (v / f) ≤ U / (e * f):=by
 rw [Nat.le_div_iff_mul_le (Nat.mul_pos he hf)]
 have h1:=Nat.div_mul_le_self U (v * e)
 have h2:=Nat.div_mul_le_self v f
 have h3:U / (v * e) * (v / f) * (e * f) = U / (v * e) * (v / f * f * e):=by
  rw [Nat.mul_assoc,Nat.mul_comm e f,← Nat.mul_assoc (v / f)]
 rw [h3]
 exact Nat.le_trans (Nat.mul_le_mul_left _ (Nat.mul_le_mul_right _ h2)) h1
theorem digit_ge (U v e f g:Nat) (he:0 < e) (hf:0 < f) (hv:0 < v) (hg:g * (v / f) ≤ U / (e * f)) (hs:g ≤ v / f + 1):g ≤ U / (v * e) + 1:=by
 rcases Nat.eq_zero_or_pos g with h0 | h0
 ·rw [h0];exact Nat.zero_le _
 ·obtain ⟨d,rfl⟩:∃ d,g = d + 1:=⟨g - 1,by omega⟩
  have h:d ≤ U / (v * e):=by
   rw [Nat.le_div_iff_mul_le (Nat.mul_pos hv he)]
   rw [Nat.le_div_iff_mul_le (Nat.mul_pos he hf)] at hg
   have h1:v < (v / f + 1) * f:=by
    rw [Nat.mul_comm]
    exact Nat.lt_mul_div_succ v hf
   have h2:d * v ≤ (d + 1) * (v / f) * f:=by
    have h3:d * v ≤ d * ((v / f + 1) * f):=Nat.mul_le_mul_left _ (Nat.le_of_lt h1)
    have h4:d * ((v / f + 1) * f) = (d * (v / f) + d) * f:=by rw [← Nat.mul_assoc,Nat.mul_add,Nat.mul_one]
    have h5:(d * (v / f) + d) * f ≤ (d * (v / f) + v / f) * f:=Nat.mul_le_mul_right _ (by omega)
    have h6:(d + 1) * (v / f) = d * (v / f) + v / f:=by rw [Nat.add_mul,Nat.one_mul]
    rw [h6]
    omega
   have h7:d * (v * e) ≤ (d + 1) * (v / f) * f * e:=by
    rw [← Nat.mul_assoc]
    exact Nat.mul_le_mul_right _ h2
   have h8:(d + 1) * (v / f) * f * e = (d + 1) * (v / f) * (e * f):=by rw [Nat.mul_assoc,Nat.mul_comm f e]
   omega
  omega
def EstIn (v1 v2 u3 top q g r:Nat):Prop :=
 2147483648 ≤ v1 ∧ v1 < 4294967296 ∧ v2 < 4294967296 ∧ u3 < 4294967296 ∧ top < v1 * 4294967296 + 4294967296 ∧ q < 4294967296 ∧ q * (v1 * 4294967296 + v2) ≤ top * 4294967296 + u3 ∧
  (∀ d,d < 4294967296 → d * (v1 * 4294967296 + v2) ≤ top * 4294967296 + u3 → d ≤ q + 1) ∧ top = g * v1 + r ∧ q ≤ g ∧ r < 4294967296
theorem estIn_bound {v1 v2 u3 top q g r:Nat} (h:EstIn v1 v2 u3 top q g r):g ≤ 4294967297:=by
 obtain ⟨h1,h2,h3,h4,h5,h6,h7,h8,h9,h10,h11⟩:=h
 rcases Nat.lt_or_ge 4294967297 g with hg | hg
 ·exfalso
  have h12:4294967298 * v1 ≤ g * v1:=Nat.mul_le_mul_right _ hg
  omega
 ·exact hg
theorem estIn_above {v1 v2 u3 top q g r:Nat} (h:EstIn v1 v2 u3 top q g r) (ht:4294967296 ≤ g ∨ r * 4294967296 + u3 < g * v2):q < g:=by
 obtain ⟨h1,h2,h3,h4,h5,h6,h7,h8,h9,h10,h11⟩:=h
 rcases ht with ht | ht
 ·omega
 ·rcases Nat.lt_or_ge q g with hq | hq
  ·exact hq
  ·exfalso
   have hqg:q = g:=by omega
   subst hqg
   rw [Nat.mul_add,← Nat.mul_assoc,h9,Nat.add_mul] at h7
   omega
theorem estIn_step {v1 v2 u3 top q g r:Nat} (h:EstIn v1 v2 u3 top q g r) (ht:4294967296 ≤ g ∨ r * 4294967296 + u3 < g * v2) (hr:r + v1 < 4294967296):EstIn v1 v2 u3 top q (g - 1) (r + v1):=by
 have ha:=estIn_above h ht
 obtain ⟨h1,h2,h3,h4,h5,h6,h7,h8,h9,h10,h11⟩:=h
 obtain ⟨d,rfl⟩:∃ d,g = d + 1:=⟨g - 1,by omega⟩
 refine ⟨h1,h2,h3,h4,h5,h6,h7,h8,?_,by omega,hr⟩
 rw [h9,Nat.add_sub_cancel,Nat.add_mul]
 omega
theorem estIn_break {v1 v2 u3 top q g r:Nat} (h:EstIn v1 v2 u3 top q g r) (ht:4294967296 ≤ g ∨ r * 4294967296 + u3 < g * v2) (hr:4294967296 ≤ r + v1):q ≤ g - 1 ∧ g - 1 ≤ q + 1 ∧ g - 1 < 4294967296:=by
 have ha:=estIn_above h ht
 obtain ⟨h1,h2,h3,h4,h5,h6,h7,h8,h9,h10,h11⟩:=h
 obtain ⟨d,rfl⟩:∃ d,g = d + 1:=⟨g - 1,by omega⟩
 rw [Nat.add_sub_cancel]
 have e:top = d * v1 + (r + v1):=by rw [h9,Nat.add_mul];omega
 have hd:d < 4294967296:=by
  rcases Nat.lt_or_ge d 4294967296 with hd | hd
  ·exact hd
  ·exfalso
   have:4294967296 * v1 ≤ d * v1:=Nat.mul_le_mul_right _ hd
   omega
 refine ⟨by omega,h8 d hd ?_,hd⟩
 have h12:d * v2 ≤ 4294967296 * 4294967296:=Nat.mul_le_mul (by omega) (by omega)
 rw [Nat.mul_add,← Nat.mul_assoc,e,Nat.add_mul]
 omega
theorem estIn_exit {v1 v2 u3 top q g r:Nat} (h:EstIn v1 v2 u3 top q g r) (h1':g < 4294967296) (ht:g * v2 ≤ r * 4294967296 + u3):q ≤ g ∧ g ≤ q + 1 ∧ g < 4294967296:=by
 obtain ⟨h1,h2,h3,h4,h5,h6,h7,h8,h9,h10,h11⟩:=h
 refine ⟨h10,h8 g h1' ?_,h1'⟩
 rw [Nat.mul_add,← Nat.mul_assoc,h9,Nat.add_mul]
 omega
def DivIn (m:List Int) (U:Nat) (n j:Nat) (u Q:List Int):Prop :=
 u.length = n + 1 ∧ Limbs u ∧ Q.length = n - m.length + 1 ∧ Limbs Q ∧ val u < val m * 4294967296 ^ j ∧ U = val (Q.drop j) * 4294967296 ^ j * val m + val u
theorem estIn_start {m u:List Int} {j:Nat} (hm:Limbs m) (hu:Limbs u) (h2:2 ≤ m.length) (hj:j + m.length < u.length) (htop:2147483648 ≤ rd m ((m.length - 1:Nat):Int)) (hlt:val u < val m * 4294967296 ^ (j + 1))
  (v1 v2 u1 u2 u3:Nat) (e1:(v1:Int) = rd m ((m.length - 1:Nat):Int)) (e2:(v2:Int) = rd m ((m.length - 2:Nat):Int)) (f1:(u1:Int) = rd u ((j + m.length:Nat):Int)) (f2:(u2:Int) = rd u ((j + m.length - 1:Nat):Int)) (f3:(u3:Int) = rd u ((j + m.length - 2:Nat):Int)) :
  EstIn v1 v2 u3 (u1 * 4294967296 + u2) (val u / (val m * 4294967296 ^ j)) ((u1 * 4294967296 + u2) / v1) ((u1 * 4294967296 + u2) % v1):=by
 have b1:=limbs_rd hm ((m.length - 1:Nat):Int)
 have b2:=limbs_rd hm ((m.length - 2:Nat):Int)
 have c1:=limbs_rd hu ((j + m.length:Nat):Int)
 have c2:=limbs_rd hu ((j + m.length - 1:Nat):Int)
 have c3:=limbs_rd hu ((j + m.length - 2:Nat):Int)
 obtain ⟨s,hs⟩:∃ s,m.length = s + 2:=⟨m.length - 2,by omega⟩
 -- the divisor's two top limbs
 have hV:val m / 4294967296 ^ s = v1 * 4294967296 + v2:=by
  rw [val_div hm s (by omega),val_drop m s (by omega),val_drop m (s + 1) (by omega),List.drop_eq_nil_of_le (by omega:m.length ≤ s + 1 + 1)]
  rw [show ((m.length - 1:Nat):Int) = ((s + 1:Nat):Int) from by omega] at e1
  rw [show ((m.length - 2:Nat):Int) = ((s:Nat):Int) from by omega] at e2
  rw [← e1,← e2]
  simp only [val]
  omega
 have hvpos:0 < val m:=by
  rcases Nat.eq_zero_or_pos (val m) with h | h
  ·rw [h] at hV
   simp at hV
   omega
  ·exact h
 have hmlt:=val_lt hm
 have hz:val u < 4294967296 ^ (j + s + 3):=by
  have:val m * 4294967296 ^ (j + 1) < 4294967296 ^ m.length * 4294967296 ^ (j + 1):=Nat.mul_lt_mul_of_pos_right hmlt (pow_pos _)
  rw [← Nat.pow_add,hs] at this
  rw [show j + s + 3 = s + 2 + (j + 1) from by omega]
  omega
 have hT:val u / (4294967296 ^ j * 4294967296 ^ s) = (u1 * 4294967296 + u2) * 4294967296 + u3:=by
  rw [← Nat.pow_add,val_div hu (j + s) (by omega),val_drop u (j + s) (by omega),val_drop u (j + s + 1) (by omega),val_drop u (j + s + 1 + 1) (by omega)]
  have hd:val (u.drop (j + s + 1 + 1 + 1)) = 0:=val_drop_zero hu _ (by omega) hz
  rw [hd]
  rw [show ((j + m.length:Nat):Int) = ((j + s + 1 + 1:Nat):Int) from by omega] at f1
  rw [show ((j + m.length - 1:Nat):Int) = ((j + s + 1:Nat):Int) from by omega] at f2
  rw [show ((j + m.length - 2:Nat):Int) = ((j + s:Nat):Int) from by omega] at f3
  rw [← f1,← f2,← f3]
  omega
 have hq:val u / (val m * 4294967296 ^ j) < 4294967296:=by
  rw [Nat.div_lt_iff_lt_mul (Nat.mul_pos hvpos (pow_pos j))]
  rw [Nat.pow_succ] at hlt
  calc val u < val m * (4294967296 ^ j * 4294967296):=hlt
   _ = 4294967296 * (val m * 4294967296 ^ j):=by rw [← Nat.mul_assoc,Nat.mul_comm]
 have hle:=digit_le (val u) (val m) (4294967296 ^ j) (4294967296 ^ s) (pow_pos j) (pow_pos s) hvpos
 rw [hV,hT] at hle
 have hu1:u1 ≤ v1:=by
  rcases Nat.lt_or_ge v1 u1 with h | h
  ·exfalso
   have h3:val u / 4294967296 ^ (j + s + 2) = u1:=by
    rw [val_div hu _ (by omega),val_drop u (j + s + 2) (by omega),val_drop_zero hu (j + s + 2 + 1) (by omega) hz]
    rw [show ((j + m.length:Nat):Int) = ((j + s + 2:Nat):Int) from by omega] at f1
    rw [← f1]
    omega
   have h4:val m < (v1 + 1) * 4294967296 ^ (s + 1):=by
    have h5:val m / 4294967296 ^ (s + 1) = v1:=by
     rw [val_div hm _ (by omega),val_drop m (s + 1) (by omega),List.drop_eq_nil_of_le (by omega:m.length ≤ s + 1 + 1)]
     rw [show ((m.length - 1:Nat):Int) = ((s + 1:Nat):Int) from by omega] at e1
     rw [← e1]
     simp only [val]
     omega
    have h6:=Nat.lt_mul_div_succ (val m) (pow_pos (s + 1))
    rw [h5,Nat.mul_comm] at h6
    exact h6
   have h7:u1 * 4294967296 ^ (j + s + 2) ≤ val u:=by
    rw [← h3]
    exact Nat.div_mul_le_self _ _
   have h8:(v1 + 1) * 4294967296 ^ (s + 1) * 4294967296 ^ (j + 1) ≤ u1 * 4294967296 ^ (j + s + 2):=by
    rw [Nat.mul_assoc,← Nat.pow_add,show s + 1 + (j + 1) = j + s + 2 from by omega]
    exact Nat.mul_le_mul_right _ h
   have h9:val m * 4294967296 ^ (j + 1) < (v1 + 1) * 4294967296 ^ (s + 1) * 4294967296 ^ (j + 1):=Nat.mul_lt_mul_of_pos_right h4 (pow_pos _)
   omega
  ·exact h
 have hv1:0 < v1:=by omega
 refine ⟨by omega,by omega,by omega,by omega,?_,hq,hle,fun d hd hde=>?_,?_,?_,?_⟩
 ·have:u1 * 4294967296 ≤ v1 * 4294967296:=Nat.mul_le_mul_right _ hu1
  omega
 ·rw [← hV,← hT] at hde
  exact digit_ge (val u) (val m) (4294967296 ^ j) (4294967296 ^ s) d (pow_pos j) (pow_pos s) hvpos hde (by
   rw [hV]
   have:2147483648 * 4294967296 ≤ v1 * 4294967296:=Nat.mul_le_mul_right _ (by omega)
   omega)
 ·exact (Nat.div_add_mod' _ _).symm
 ·rw [Nat.le_div_iff_mul_le hv1]
  have h10:val u / (val m * 4294967296 ^ j) * (v1 * 4294967296) ≤ val u / (val m * 4294967296 ^ j) * (v1 * 4294967296 + v2):=Nat.mul_le_mul_left _ (by omega)
  rw [← Nat.mul_assoc] at h10
  have h11:val u / (val m * 4294967296 ^ j) * v1 * 4294967296 < (u1 * 4294967296 + u2 + 1) * 4294967296:=by omega
  have h12:=Nat.lt_of_mul_lt_mul_right h11
  omega
 ·exact Nat.lt_of_lt_of_le (Nat.mod_lt _ hv1) (by omega)
end Go.Proofs.YtijldkknhphgcaaGreat.Hand
set_option linter.unusedVariables false
set_option linter.unusedSimpArgs false
namespace Go.Proofs.YtijldkknhphgcaaGreat.Hand
open Go.RowKit Go.Proofs.YtijldkknhphgcaaGreatW.PrintWords
def SubIn (g:Nat) (m u0:List Int) (j i c b:Nat) (u:List Int):Prop :=
 u.length = u0.length ∧ Limbs u ∧ c < 4294967296 ∧ b ≤ 1 ∧ val u + g * val (m.take i) * 4294967296 ^ j = val u0 + (c + b) * 4294967296 ^ (i + j) ∧ ∀ k:Nat,i + j ≤ k → rd u (k:Int) = rd u0 (k:Int)
theorem subIn_start {g:Nat} {m u:List Int} {j:Nat} (hu:Limbs u):SubIn g m u j 0 0 0 u:=⟨rfl,hu,by omega,by omega,by simp [val],fun _ _=>rfl⟩
theorem sub_digit (y z:Int) (hy:0 ≤ y ∧ y < 4294967296) (hz:0 ≤ z ∧ z ≤ 4294967296):(y - z) % 4294967296 = if y < z then y - z + 4294967296 else y - z:=by
 split
 ·rw [← Int.add_emod_right]
  exact Int.emod_eq_of_lt (by omega) (by omega)
 ·exact Int.emod_eq_of_lt (by omega) (by omega)
theorem subIn_step {g:Nat} {m u0 u:List Int} {j i c b:Nat} {t y z:Int} (hm:Limbs m) (hg:g < 4294967296) (h:SubIn g m u0 j i c b u) (hi:i < m.length) (hij:i + j < u.length)
  (ht:t = (c:Int) + (g:Int) * rd m (i:Int)) (hy:y = rd u ((i + j:Nat):Int)) (hz:z = t % 4294967296 + (b:Int)) :
  SubIn g m u0 j (i + 1) (t / 4294967296).toNat (if y < z then 1 else 0) (u.set (i + j) ((y - z) % 4294967296)):=by
 obtain ⟨h1,h2,h3,h4,h5,h6⟩:=h
 have hx:=limbs_rd hm (i:Int)
 have hyb:=limbs_rd h2 ((i + j:Nat):Int)
 rw [← hy] at hyb
 have hp:=limb_prod (x:=(g:Int)) ⟨by omega,by omega⟩ hx
 have ht0:0 ≤ t:=by omega
 have ht1:t < 18446744073709551616:=by omega
 have hzb:0 ≤ z ∧ z ≤ 4294967296:=by omega
 have hsd:=sub_digit y z hyb hzb
 refine ⟨by rw [List.length_set];exact h1,h2.set _ (by omega),by omega,by split <;> omega,?_,fun k hk=>?_⟩
 ·have hs:=val_set u (i + j) ((y - z) % 4294967296) hij
  rw [← hy] at hs
  rw [val_take_succ m i hi]
  have htn:t.toNat = c + g * (rd m (i:Int)).toNat:=by
   rw [ht,Int.toNat_add (by omega) hp.1,Int.toNat_mul (by omega) hx.1]
   simp
  have hq:(t / 4294967296).toNat * 4294967296 + (t % 4294967296).toNat = t.toNat:=by omega
  have hzn:z.toNat = (t % 4294967296).toNat + b:=by omega
  have hd:((y - z) % 4294967296).toNat + z.toNat = y.toNat + (if y < z then 1 else 0) * 4294967296:=by
   rw [hsd]
   split <;> omega
  generalize ((y - z) % 4294967296).toNat = d at *
  generalize (if y < z then 1 else 0:Nat) = b' at *
  generalize (t / 4294967296).toNat = c' at *
  generalize (t % 4294967296).toNat = lo at *
  generalize (rd m (i:Int)).toNat = x at *
  generalize y.toNat = yn at *
  rw [show i + 1 + j = i + j + 1 from by omega,Nat.pow_succ]
  generalize hP:4294967296 ^ (i + j) = P at *
  have e1:g * (val (m.take i) + x * 4294967296 ^ i) * 4294967296 ^ j = g * val (m.take i) * 4294967296 ^ j + g * x * P:=by
   rw [Nat.mul_add,Nat.add_mul,← hP,Nat.pow_add]
   congr 1
   rw [Nat.mul_assoc,Nat.mul_assoc,Nat.mul_assoc]
  rw [e1]
  have e2:(c' + b') * (P * 4294967296) = c' * 4294967296 * P + b' * 4294967296 * P:=by
   rw [Nat.add_mul,Nat.mul_comm P,← Nat.mul_assoc,← Nat.mul_assoc]
  rw [e2]
  have e3:d * P + z.toNat * P = yn * P + b' * 4294967296 * P:=by rw [← Nat.add_mul,hd,Nat.add_mul]
  have e4:c' * 4294967296 * P + lo * P = c * P + g * x * P:=by rw [← Nat.add_mul,hq,htn,Nat.add_mul]
  have e5:z.toNat * P = lo * P + b * P:=by rw [hzn,Nat.add_mul]
  rw [Nat.add_mul] at h5
  omega
 ·rw [rd_set_ne _ (by omega)]
  exact h6 k (by omega)
def AddIn (m u0:List Int) (j i c:Nat) (u:List Int):Prop :=
 u.length = u0.length ∧ Limbs u ∧ c ≤ 1 ∧ val u + c * 4294967296 ^ (i + j) = val u0 + val (m.take i) * 4294967296 ^ j ∧ ∀ k:Nat,i + j ≤ k → rd u (k:Int) = rd u0 (k:Int)
theorem addIn_start {m u:List Int} {j:Nat} (hu:Limbs u):AddIn m u j 0 0 u:=⟨rfl,hu,by omega,by simp [val],fun _ _=>rfl⟩
theorem addIn_step {m u0 u:List Int} {j i c:Nat} {t:Int} (hm:Limbs m) (h:AddIn m u0 j i c u) (hi:i < m.length) (hij:i + j < u.length) (ht:t = (c:Int) + (rd u ((i + j:Nat):Int) + rd m (i:Int))) :
  AddIn m u0 j (i + 1) (t / 4294967296).toNat (u.set (i + j) (t % 4294967296)):=by
 obtain ⟨h1,h2,h3,h4,h5⟩:=h
 have hx:=limbs_rd hm (i:Int)
 have hy:=limbs_rd h2 ((i + j:Nat):Int)
 refine ⟨by rw [List.length_set];exact h1,h2.set _ (by omega),by omega,?_,fun k hk=>?_⟩
 ·have hs:=val_set u (i + j) (t % 4294967296) hij
  rw [val_take_succ m i hi]
  have hq:(t / 4294967296).toNat * 4294967296 + (t % 4294967296).toNat = c + (rd u ((i + j:Nat):Int)).toNat + (rd m (i:Int)).toNat:=by omega
  generalize (t / 4294967296).toNat = c' at *
  generalize (t % 4294967296).toNat = lo at *
  generalize (rd m (i:Int)).toNat = x at *
  generalize (rd u ((i + j:Nat):Int)).toNat = y at *
  rw [show i + 1 + j = i + j + 1 from by omega,Nat.pow_succ]
  generalize hP:4294967296 ^ (i + j) = P at *
  have e1:(val (m.take i) + x * 4294967296 ^ i) * 4294967296 ^ j = val (m.take i) * 4294967296 ^ j + x * P:=by
   rw [Nat.add_mul,← hP,Nat.pow_add,Nat.mul_assoc]
  have e2:c' * (P * 4294967296) = c' * 4294967296 * P:=by rw [Nat.mul_comm P,← Nat.mul_assoc]
  have e3:c' * 4294967296 * P + lo * P = c * P + y * P + x * P:=by rw [← Nat.add_mul,hq,Nat.add_mul,Nat.add_mul]
  rw [e1,e2]
  omega
 ·rw [rd_set_ne _ (by omega)]
  exact h5 k (by omega)
theorem val_lt_pow_of_zero {u:List Int} (hu:Limbs u) (t:Nat) (ht:t ≤ u.length) (h:val (u.drop t) = 0):val u < 4294967296 ^ t:=by
 have h1:=val_split u t ht
 have h2:=val_lt (hu.take t)
 rw [List.length_take,Nat.min_eq_left ht] at h2
 rw [h,Nat.mul_zero,Nat.add_zero] at h1
 omega
theorem drop_eq_of_rd {u u0:List Int} (hl:u.length = u0.length) (t:Nat) (h:∀ k:Nat,t ≤ k → rd u (k:Int) = rd u0 (k:Int)):u.drop t = u0.drop t:=by
 apply List.ext_getElem
 ·rw [List.length_drop,List.length_drop,hl]
 ·intro k h1 h2
  rw [List.length_drop] at h1 h2
  rw [List.getElem_drop,List.getElem_drop,← rd_lt (by omega),← rd_lt (by omega)]
  exact h (t + k) (by omega)
theorem digit_right {m u0 u:List Int} {j g c b:Nat} {y z:Int} (hm:Limbs m) (hu0:Limbs u0) (hs:0 < val m) (hj:j + m.length < u0.length) (hlt:val u0 < val m * 4294967296 ^ (j + 1)) (h:SubIn g m u0 j m.length c b u)
  (hy:y = rd u ((m.length + j:Nat):Int)) (hz:z = (c:Int) + (b:Int)) (hg:val u0 / (val m * 4294967296 ^ j) ≤ g) (hg1:g ≤ val u0 / (val m * 4294967296 ^ j) + 1) (hyz:¬ y < z) :
  Limbs (u.set (m.length + j) ((y - z) % 4294967296)) ∧ g = val u0 / (val m * 4294967296 ^ j) ∧ val u0 = g * 4294967296 ^ j * val m + val (u.set (m.length + j) ((y - z) % 4294967296)) ∧ val (u.set (m.length + j) ((y - z) % 4294967296)) < val m * 4294967296 ^ j:=by
 obtain ⟨h1,h2,h3,h4,h5,h6⟩:=h
 have hyb:=limbs_rd h2 ((m.length + j:Nat):Int)
 rw [← hy] at hyb
 have hsd:=sub_digit y z hyb ⟨by omega,by omega⟩
 rw [if_neg hyz] at hsd
 have hset:=val_set u (m.length + j) ((y - z) % 4294967296) (by omega)
 rw [← hy,hsd] at hset
 rw [hsd]
 rw [List.take_length] at h5
 have hL:Limbs (u.set (m.length + j) (y - z)):=h2.set _ ⟨by omega,by omega⟩
 have e1:y.toNat = (y - z).toNat + (c + b):=by omega
 rw [e1,Nat.add_mul] at hset
 have hv:val u0 = g * 4294967296 ^ j * val m + val (u.set (m.length + j) (y - z)):=by
  have:g * 4294967296 ^ j * val m = g * val m * 4294967296 ^ j:=Nat.mul_right_comm _ _ _
  rw [this]
  omega
 have hD:0 < val m * 4294967296 ^ j:=Nat.mul_pos hs (pow_pos j)
 have hge:g ≤ val u0 / (val m * 4294967296 ^ j):=by
  rw [Nat.le_div_iff_mul_le hD]
  have:g * (val m * 4294967296 ^ j) = g * 4294967296 ^ j * val m:=by rw [Nat.mul_comm (val m),Nat.mul_assoc]
  omega
 have hgeq:g = val u0 / (val m * 4294967296 ^ j):=Nat.le_antisymm hge hg
 refine ⟨hL,hgeq,hv,?_⟩
 have hmod:=Nat.div_add_mod' (val u0) (val m * 4294967296 ^ j)
 rw [← hgeq] at hmod
 have hlt2:=Nat.mod_lt (val u0) hD
 have:g * (val m * 4294967296 ^ j) = g * 4294967296 ^ j * val m:=by rw [Nat.mul_comm (val m),Nat.mul_assoc]
 omega
theorem digit_back {m u0 u u2:List Int} {j g c b c2:Nat} {y z:Int} (hm:Limbs m) (hu0:Limbs u0) (hs:0 < val m) (hj:j + m.length < u0.length) (hlt:val u0 < val m * 4294967296 ^ (j + 1)) (h:SubIn g m u0 j m.length c b u)
  (hy:y = rd u ((m.length + j:Nat):Int)) (hz:z = (c:Int) + (b:Int)) (hg:val u0 / (val m * 4294967296 ^ j) ≤ g) (hg1:g ≤ val u0 / (val m * 4294967296 ^ j) + 1) (hyz:y < z)
  (ha:AddIn m (u.set (m.length + j) ((y - z) % 4294967296)) j m.length c2 u2) :
  0 < g ∧ Limbs (u2.set (m.length + j) ((rd u2 ((m.length + j:Nat):Int) + (c2:Int)) % 4294967296)) ∧
   val u0 = (g - 1) * 4294967296 ^ j * val m + val (u2.set (m.length + j) ((rd u2 ((m.length + j:Nat):Int) + (c2:Int)) % 4294967296)) ∧
   val (u2.set (m.length + j) ((rd u2 ((m.length + j:Nat):Int) + (c2:Int)) % 4294967296)) < val m * 4294967296 ^ j:=by
 obtain ⟨h1,h2,h3,h4,h5,h6⟩:=h
 obtain ⟨a1,a2,a3,a4,a5⟩:=ha
 have hyb:=limbs_rd h2 ((m.length + j:Nat):Int)
 rw [← hy] at hyb
 have hsd:=sub_digit y z hyb ⟨by omega,by omega⟩
 rw [if_pos hyz] at hsd
 have hset:=val_set u (m.length + j) ((y - z) % 4294967296) (by omega)
 rw [← hy,hsd] at hset
 rw [hsd] at a1 a4 a5
 rw [List.take_length] at h5 a4
 rw [List.length_set] at a1
 have hmlt:=val_lt hm
 -- everything lies below M
 have hM0:val u0 < 4294967296 ^ (m.length + j) * 4294967296:=by
  have h7:val m * 4294967296 ^ (j + 1) < 4294967296 ^ m.length * 4294967296 ^ (j + 1):=Nat.mul_lt_mul_of_pos_right hmlt (pow_pos _)
  have h7':4294967296 ^ (m.length + (j + 1)) = 4294967296 ^ (m.length + j) * 4294967296:=by rw [← Nat.add_assoc,Nat.pow_succ]
  rw [← Nat.pow_add,h7'] at h7
  omega
 have hlen2:(u2.set (m.length + j) ((rd u2 ((m.length + j:Nat):Int) + (c2:Int)) % 4294967296)).length = u0.length:=by rw [List.length_set];omega
 have hr2:=limbs_rd a2 ((m.length + j:Nat):Int)
 have hL2:Limbs (u2.set (m.length + j) ((rd u2 ((m.length + j:Nat):Int) + (c2:Int)) % 4294967296)):=a2.set _ ⟨by omega,by omega⟩
 have hdrop:(u2.set (m.length + j) ((rd u2 ((m.length + j:Nat):Int) + (c2:Int)) % 4294967296)).drop (m.length + j + 1) = u0.drop (m.length + j + 1):=by
  apply drop_eq_of_rd hlen2
  intro k hk
  rw [rd_set_ne _ (by omega),a5 k (by omega),rd_set_ne _ (by omega),h6 k (by omega)]
 have hM2:val (u2.set (m.length + j) ((rd u2 ((m.length + j:Nat):Int) + (c2:Int)) % 4294967296)) < 4294967296 ^ (m.length + j) * 4294967296:=by
  rw [← Nat.pow_succ]
  apply val_lt_pow_of_zero hL2 _ (by omega)
  rw [hdrop]
  exact val_drop_zero hu0 _ (by omega) (by rw [Nat.pow_succ];exact hM0)
 have hset2:=val_set u2 (m.length + j) ((rd u2 ((m.length + j:Nat):Int) + (c2:Int)) % 4294967296) (by omega)
 -- the digit was too great
 have hD:0 < val m * 4294967296 ^ j:=Nat.mul_pos hs (pow_pos j)
 have hupper:val u < (y.toNat + 1) * 4294967296 ^ (m.length + j):=by
  have b1:=val_split u (m.length + j) (by omega)
  have b2:=val_lt (h2.take (m.length + j))
  rw [List.length_take,Nat.min_eq_left (by omega)] at b2
  have b3:=val_drop u (m.length + j) (by omega)
  have b4:u.drop (m.length + j + 1) = u0.drop (m.length + j + 1):=drop_eq_of_rd h1 _ (fun k hk=>h6 k (by omega))
  rw [b4,val_drop_zero hu0 _ (by omega) (by rw [Nat.pow_succ];exact hM0),← hy,Nat.mul_zero,Nat.add_zero] at b3
  rw [b3] at b1
  rw [Nat.add_mul,Nat.mul_comm y.toNat]
  omega
 have hgt:val u0 < g * (val m * 4294967296 ^ j):=by
  have d1:(y.toNat + 1) * 4294967296 ^ (m.length + j) ≤ (c + b) * 4294967296 ^ (m.length + j):=Nat.mul_le_mul_right _ (by omega)
  have d2:g * (val m * 4294967296 ^ j) = g * val m * 4294967296 ^ j:=by rw [Nat.mul_assoc]
  omega
 have hge:val u0 / (val m * 4294967296 ^ j) < g:=by
  rw [Nat.div_lt_iff_lt_mul hD]
  exact hgt
 have hgq:g - 1 = val u0 / (val m * 4294967296 ^ j):=by
  clear hset hset2 hM0 hM2 hupper hgt a4 h5
  generalize val u0 / (val m * 4294967296 ^ j) = qq at *
  omega
 have hmod:=Nat.div_add_mod' (val u0) (val m * 4294967296 ^ j)
 rw [← hgq] at hmod
 have hmlt2:=Nat.mod_lt (val u0) hD
 have e0:(g - 1) * (val m * 4294967296 ^ j) = (g - 1) * 4294967296 ^ j * val m:=by rw [Nat.mul_comm (val m),Nat.mul_assoc]
 have e1:g * val m * 4294967296 ^ j = (g - 1) * 4294967296 ^ j * val m + val m * 4294967296 ^ j:=by
  obtain ⟨d,rfl⟩:∃ d,g = d + 1:=⟨g - 1,by omega⟩
  rw [Nat.add_sub_cancel,Nat.add_mul,Nat.one_mul,Nat.add_mul,Nat.mul_right_comm]
 -- the new top limb,as a number
 have hq:((rd u2 ((m.length + j:Nat):Int) + (c2:Int)) % 4294967296).toNat + ((rd u2 ((m.length + j:Nat):Int) + (c2:Int)) / 4294967296).toNat * 4294967296 = (rd u2 ((m.length + j:Nat):Int)).toNat + c2:=by omega
 have hdig:(y - z + 4294967296).toNat + (c + b) = y.toNat + 4294967296:=by omega
 generalize val (u2.set (m.length + j) ((rd u2 ((m.length + j:Nat):Int) + (c2:Int)) % 4294967296)) = X at *
 generalize ((rd u2 ((m.length + j:Nat):Int) + (c2:Int)) % 4294967296).toNat = lo at *
 generalize ((rd u2 ((m.length + j:Nat):Int) + (c2:Int)) / 4294967296).toNat = hi at *
 generalize (rd u2 ((m.length + j:Nat):Int)).toNat = r2 at *
 generalize hP:4294967296 ^ (m.length + j) = P at *
 have f1:lo * P + hi * 4294967296 * P = r2 * P + c2 * P:=by rw [← Nat.add_mul,hq,Nat.add_mul]
 have f2:(y - z + 4294967296).toNat * P + (c * P + b * P) = y.toNat * P + 4294967296 * P:=by rw [← Nat.add_mul,← Nat.add_mul,← Nat.add_mul,hdig]
 have f3:hi * 4294967296 * P = hi * (P * 4294967296):=by rw [Nat.mul_assoc,Nat.mul_comm P]
 rw [Nat.add_mul] at h5
 have hX:X + hi * (P * 4294967296) = val u0 % (val m * 4294967296 ^ j) + P * 4294967296:=by omega
 have hDM:val m * 4294967296 ^ j ≤ P * 4294967296:=by
  have g1:val m * 4294967296 ^ j < 4294967296 ^ m.length * 4294967296 ^ j:=Nat.mul_lt_mul_of_pos_right hmlt (pow_pos _)
  rw [← Nat.pow_add,hP] at g1
  omega
 have hhi:hi = 1:=by
  rcases Nat.lt_or_ge hi 1 with g1 | g1
  ·have:hi = 0:=by omega
   subst this
   omega
  ·rcases Nat.lt_or_ge 1 hi with g2 | g2
   ·exfalso
    have:2 * (P * 4294967296) ≤ hi * (P * 4294967296):=Nat.mul_le_mul_right _ g2
    omega
   ·omega
 subst hhi
 exact ⟨by omega,hL2,by omega,by omega⟩
end Go.Proofs.YtijldkknhphgcaaGreat.Hand
set_option linter.unusedVariables false
set_option linter.unusedSimpArgs false
namespace Go.Proofs.YtijldkknhphgcaaGreat.Hand
open Go.RowKit Go.Proofs.YtijldkknhphgcaaGreatW.PrintWords
theorem divIn_step {m:List Int} {U n j g:Nat} {u u' Q:List Int} (h:DivIn m U n (j + 1) u Q) (hj:j < Q.length) (hg:g < 4294967296) (hu:Limbs u') (hl:u'.length = u.length) (hv:val u = g * 4294967296 ^ j * val m + val u') (hlt:val u' < val m * 4294967296 ^ j) :
  DivIn m U n j u' (Q.set j (g:Int)):=by
 obtain ⟨h1,h2,h3,h4,h5,h6⟩:=h
 refine ⟨by omega,hu,by rw [List.length_set];exact h3,h4.set _ (by omega),hlt,?_⟩
 rw [drop_set_self _ _ _ hj,val,h6,hv,Nat.pow_succ]
 simp only [Int.toNat_natCast]
 generalize val (Q.drop (j + 1)) = X
 generalize 4294967296 ^ j = P
 generalize val m = M
 rw [Nat.add_mul,Nat.add_mul,← Nat.add_assoc]
 have:X * (P * 4294967296) * M = 4294967296 * X * P * M:=by
  rw [← Nat.mul_assoc,Nat.mul_comm (X * P),Nat.mul_assoc 4294967296 X P]
 omega
theorem divIn_digit {m:List Int} {U n j:Nat} {u Q:List Int} (h:DivIn m U n (j + 1) u Q) (hm:0 < val m):val u / (val m * 4294967296 ^ j) < 4294967296:=by
 obtain ⟨h1,h2,h3,h4,h5,h6⟩:=h
 rw [Nat.div_lt_iff_lt_mul (Nat.mul_pos hm (pow_pos j))]
 rw [Nat.pow_succ] at h5
 have:val m * (4294967296 ^ j * 4294967296) = 4294967296 * (val m * 4294967296 ^ j):=by rw [← Nat.mul_assoc,Nat.mul_comm]
 omega
theorem divIn_end {m:List Int} {U n:Nat} {u Q:List Int} (h:DivIn m U n 0 u Q):val Q = U / val m ∧ val u = U % val m ∧ val u < val m:=by
 obtain ⟨h1,h2,h3,h4,h5,h6⟩:=h
 rw [Nat.pow_zero,Nat.mul_one] at h5
 rw [Nat.pow_zero,Nat.mul_one,List.drop_zero] at h6
 have hm:0 < val m:=by omega
 refine ⟨?_,?_,h5⟩
 ·rw [h6,Nat.mul_comm,Nat.mul_add_div hm,Nat.div_eq_of_lt h5,Nat.add_zero]
 ·rw [h6,Nat.mul_comm,Nat.mul_add_mod,Nat.mod_eq_of_lt h5]
theorem digit_high {m u0 u:List Int} {j g c b:Nat} {y z:Int} (hm:Limbs m) (hu0:Limbs u0) (hj:j + m.length < u0.length) (hlt:val u0 < val m * 4294967296 ^ (j + 1)) (h:SubIn g m u0 j m.length c b u)
  (hy:y = rd u ((m.length + j:Nat):Int)) (hz:z = (c:Int) + (b:Int)) (hyz:y < z):0 < g:=by
 obtain ⟨h1,h2,h3,h4,h5,h6⟩:=h
 have hyb:=limbs_rd h2 ((m.length + j:Nat):Int)
 rw [← hy] at hyb
 rw [List.take_length] at h5
 have hmlt:=val_lt hm
 have hM0:val u0 < 4294967296 ^ (m.length + j + 1):=by
  have h7:val m * 4294967296 ^ (j + 1) < 4294967296 ^ m.length * 4294967296 ^ (j + 1):=Nat.mul_lt_mul_of_pos_right hmlt (pow_pos _)
  rw [← Nat.pow_add,← Nat.add_assoc] at h7
  omega
 have hupper:val u < (y.toNat + 1) * 4294967296 ^ (m.length + j):=by
  have b1:=val_split u (m.length + j) (by omega)
  have b2:=val_lt (h2.take (m.length + j))
  rw [List.length_take,Nat.min_eq_left (by omega)] at b2
  have b3:=val_drop u (m.length + j) (by omega)
  have b4:u.drop (m.length + j + 1) = u0.drop (m.length + j + 1):=drop_eq_of_rd h1 _ (fun k hk=>h6 k (by omega))
  rw [b4,val_drop_zero hu0 _ (by omega) hM0,← hy,Nat.mul_zero,Nat.add_zero] at b3
  rw [b3] at b1
  rw [Nat.add_mul,Nat.mul_comm y.toNat]
  omega
 rcases Nat.eq_zero_or_pos g with h0 | h0
 ·exfalso
  rw [h0,Nat.zero_mul,Nat.zero_mul] at h5
  have d1:(y.toNat + 1) * 4294967296 ^ (m.length + j) ≤ (c + b) * 4294967296 ^ (m.length + j):=Nat.mul_le_mul_right _ (by omega)
  omega
 ·exact h0
theorem norm_top {m o:List Int} {k:Nat} (hm:Limbs m) (hne:0 < m.length) (h:LeftIn (2 ^ k) m m.length o) (hb1:2147483648 ≤ (rd m ((m.length - 1:Nat):Int)).toNat * 2 ^ k) (hb2:(rd m ((m.length - 1:Nat):Int)).toNat * 2 ^ k + 2 ^ k ≤ 4294967296) :
  val (o.take m.length) = val m * 2 ^ k ∧ 2147483648 ≤ rd (o.take m.length) ((m.length - 1:Nat):Int) ∧ (o.take m.length).length = m.length:=by
 obtain ⟨h1,h2,h3,h4,h5⟩:=h
 rw [List.take_length] at h3
 obtain ⟨s,hs⟩:∃ s,m.length = s + 1:=⟨m.length - 1,by omega⟩
 have e0:((m.length - 1:Nat):Int) = ((s:Nat):Int):=by omega
 rw [e0] at hb1 hb2 ⊢
 have hsplit:=val_take_succ m s (by omega)
 rw [← hs,List.take_length] at hsplit
 have hlow:=val_lt (hm.take s)
 rw [List.length_take,Nat.min_eq_left (by omega)] at hlow
 generalize (rd m ((s:Nat):Int)).toNat = t at *
 have hP:=pow_pos s
 have hlt:val m * 2 ^ k < 4294967296 ^ (s + 1):=by
  have a1:val m * 2 ^ k < (t * 4294967296 ^ s + 4294967296 ^ s) * 2 ^ k:=Nat.mul_lt_mul_of_pos_right (by omega) (Nat.pow_pos (by omega))
  have a2:(t * 4294967296 ^ s + 4294967296 ^ s) * 2 ^ k = (t * 2 ^ k + 2 ^ k) * 4294967296 ^ s:=by
   rw [Nat.add_mul,Nat.add_mul,Nat.mul_right_comm,Nat.mul_comm (4294967296 ^ s)]
  have a3:(t * 2 ^ k + 2 ^ k) * 4294967296 ^ s ≤ 4294967296 * 4294967296 ^ s:=Nat.mul_le_mul_right _ hb2
  rw [Nat.pow_succ]
  omega
 have hlen:(o.take m.length).length = m.length:=by rw [List.length_take];omega
 have hv:val (o.take m.length) = val m * 2 ^ k:=by
  have b1:=val_split o m.length (by omega)
  have b2:=val_drop_zero h2 m.length (by omega) (by rw [h3,hs];exact hlt)
  rw [b2,Nat.mul_zero,Nat.add_zero] at b1
  omega
 refine ⟨hv,?_,hlen⟩
 have hL:Limbs (o.take m.length):=h2.take _
 have c1:=val_take_succ (o.take m.length) s (by omega)
 rw [List.take_of_length_le (by omega)] at c1
 have c2:=val_lt (hL.take s)
 rw [List.length_take,hlen,Nat.min_eq_left (by omega)] at c2
 have c3:=limbs_rd hL ((s:Nat):Int)
 have c4:2147483648 * 4294967296 ^ s ≤ val m * 2 ^ k:=by
  have d1:t * 4294967296 ^ s * 2 ^ k ≤ val m * 2 ^ k:=Nat.mul_le_mul_right _ (by omega)
  have d2:t * 4294967296 ^ s * 2 ^ k = t * 2 ^ k * 4294967296 ^ s:=Nat.mul_right_comm _ _ _
  have d3:2147483648 * 4294967296 ^ s ≤ t * 2 ^ k * 4294967296 ^ s:=Nat.mul_le_mul_right _ hb1
  omega
 rcases Int.lt_or_le (rd (o.take m.length) ((s:Nat):Int)) 2147483648 with hlt2 | hge
 ·exfalso
  have d4:((rd (o.take m.length) ((s:Nat):Int)).toNat + 1) * 4294967296 ^ s ≤ 2147483648 * 4294967296 ^ s:=Nat.mul_le_mul_right _ (by omega)
  rw [Nat.add_mul] at d4
  omega
 ·exact hge
theorem divIn_start {m mo n no Q:List Int} {k:Nat} (hk:k ≤ 31) (hn:Limbs n) (hno:LeftIn (2 ^ k) n n.length no) (hmo:val mo = val m * 2 ^ k) (hml:mo.length = m.length) (h2:0 < m.length) (hmn:m.length ≤ n.length) (hlim:Limbs mo)
  (htop:2147483648 ≤ rd mo ((mo.length - 1:Nat):Int)) (hQ:Q = List.replicate (n.length - m.length + 1) 0):DivIn mo (val n * 2 ^ k) n.length (n.length - m.length + 1) no Q:=by
 obtain ⟨h1,h2',h3,h4,h5⟩:=hno
 rw [List.take_length] at h3
 refine ⟨h1,h2',by rw [hQ];simp;omega,by rw [hQ];exact Limbs.replicate _,?_,?_⟩
 ·obtain ⟨s,hs⟩:∃ s,mo.length = s + 1:=⟨mo.length - 1,by omega⟩
  have e0:((mo.length - 1:Nat):Int) = ((s:Nat):Int):=by omega
  rw [e0] at htop
  have c1:=val_take_succ mo s (by omega)
  rw [List.take_of_length_le (by omega)] at c1
  have d1:2147483648 * 4294967296 ^ s ≤ (rd mo ((s:Nat):Int)).toNat * 4294967296 ^ s:=Nat.mul_le_mul_right _ (by omega)
  have d2:2147483648 * 4294967296 ^ s ≤ val mo:=by omega
  have d3:2147483648 * 4294967296 ^ s * 4294967296 ^ (n.length - m.length + 1) ≤ val mo * 4294967296 ^ (n.length - m.length + 1):=Nat.mul_le_mul_right _ d2
  rw [Nat.mul_assoc,← Nat.pow_add,show s + (n.length - m.length + 1) = n.length from by omega] at d3
  have d4:=val_lt hn
  have d5:2 ^ k ≤ 2 ^ 31:=Nat.pow_le_pow_right (by omega) hk
  have d6:val n * 2 ^ k < 4294967296 ^ n.length * 2 ^ 31:=Nat.mul_lt_mul_of_lt_of_le d4 d5 (by omega)
  have d7:(2 ^ 31:Nat) = 2147483648:=rfl
  rw [d7,Nat.mul_comm (4294967296 ^ n.length)] at d6
  omega
 ·rw [h3,hQ,List.drop_eq_nil_of_le (by simp)]
  simp [val]
def BackIn (k:Nat) (L:List Int) (i:Nat) (o:List Int):Prop :=
 o.length = L.length ∧ Limbs o ∧ o.drop i = L.drop i ∧ 2 ^ k * val (o.take i) = val (L.take i) + (rd L (i:Int)).toNat % 2 ^ k * 4294967296 ^ i
theorem two_pow_split (k:Nat) (hk:k ≤ 32):2 ^ k * 2 ^ (32 - k) = 4294967296:=by
 rw [← Nat.pow_add,show k + (32 - k) = 32 from by omega]
theorem low_mod {L:List Int} {k:Nat} (hk:k ≤ 31):val L % 2 ^ k = (rd L ((0:Nat):Int)).toNat % 2 ^ k:=by
 have hd:2 ^ k ∣ 4294967296:=⟨2 ^ (32 - k),(two_pow_split k (by omega)).symm⟩
 rcases L with _ | ⟨x,xs⟩
 ·rfl
 ·have:rd (x :: xs) ((0:Nat):Int) = x:=rfl
  rw [this,val,Nat.add_mod]
  have:4294967296 * val xs % 2 ^ k = 0:=Nat.mod_eq_zero_of_dvd (Nat.dvd_trans hd (Nat.dvd_mul_right _ _))
  rw [this,Nat.add_zero,Nat.mod_mod]
theorem backIn_start {k:Nat} {L:List Int} (hk:k ≤ 31) (hL:Limbs L) (hd:val L % 2 ^ k = 0):BackIn k L 0 L:=by
 refine ⟨rfl,hL,rfl,?_⟩
 rw [low_mod hk] at hd
 rw [hd]
 simp [val]
theorem backIn_step {k:Nat} {L o:List Int} {i:Nat} {t:Int} (hk:k ≤ 31) (hL:Limbs L) (h:BackIn k L i o) (hi:i < L.length) (ht:t.toNat = (rd L (i:Int)).toNat / 2 ^ k + (rd L ((i + 1:Nat):Int)).toNat % 2 ^ k * 2 ^ (32 - k)) (ht0:0 ≤ t) (ht1:t < 4294967296) :
  BackIn k L (i + 1) (o.set i t):=by
 obtain ⟨h1,h2,h3,h4⟩:=h
 refine ⟨by rw [List.length_set];exact h1,h2.set _ ⟨ht0,ht1⟩,?_,?_⟩
 ·rw [List.drop_set_of_lt (by omega)]
  have:=congrArg (List.drop 1) h3
  rwa [List.drop_drop,List.drop_drop] at this
 ·have e1:(o.set i t).take (i + 1) = o.take i ++ [t]:=by
   rw [List.take_succ_eq_append_getElem (by rw [List.length_set];omega),List.getElem_set_self,List.take_set_of_le (by omega)]
  rw [e1,val_append,List.length_take,Nat.min_eq_left (by omega),val_one,Nat.mul_add,h4,val_take_succ L i hi]
  have hx:=Nat.div_add_mod (rd L (i:Int)).toNat (2 ^ k)
  have hsp:=two_pow_split k (by omega)
  rw [ht]
  generalize (rd L (i:Int)).toNat = x at *
  generalize (rd L ((i + 1:Nat):Int)).toNat % 2 ^ k = y at *
  rw [Nat.pow_succ]
  generalize 4294967296 ^ i = P at *
  have e2:2 ^ k * (P * (x / 2 ^ k + y * 2 ^ (32 - k))) = (2 ^ k * (x / 2 ^ k)) * P + y * (2 ^ k * 2 ^ (32 - k)) * P:=by
   rw [Nat.mul_add,Nat.mul_add]
   congr 1
   ·rw [Nat.mul_left_comm,Nat.mul_comm P]
   ·rw [Nat.mul_left_comm (2 ^ k) P,Nat.mul_left_comm (2 ^ k) y,Nat.mul_comm P]
  rw [e2,hsp]
  have e3:(2 ^ k * (x / 2 ^ k)) * P + x % 2 ^ k * P = x * P:=by rw [← Nat.add_mul,hx]
  have e4:y * (P * 4294967296) = y * 4294967296 * P:=by rw [Nat.mul_comm P,Nat.mul_assoc]
  omega
end Go.Proofs.YtijldkknhphgcaaGreat.Hand
set_option linter.unusedVariables false
set_option linter.unusedSimpArgs false
namespace Go.Proofs.YtijldkknhphgcaaGreat.Hand
open Go.RowKit Go.Proofs.YtijldkknhphgcaaGreatW.PrintWords Go.Proofs.YtijldkknhphgcaaGreatW.PrintLast Go.Proofs.YtijldkknhphgcaaGreatW.PrintMore
theorem bitLen_bounds (x:Nat) (h0:0 < x) (h1:x < 4294967296):1 ≤ Lib.bitLen x ∧ 2 ^ (Lib.bitLen x - 1) ≤ x ∧ x < 2 ^ Lib.bitLen x:=by
 induction x using Nat.strongRecOn with
 | _ x ih =>
  rw [Lib.bitLen_half x (by omega) (by omega)]
  rcases Nat.eq_zero_or_pos (x / 2) with hz | hz
  ·have hx:x = 1:=by omega
   subst hx
   have:Lib.bitLen (1 / 2) = 0:=rfl
   rw [this]
   decide
  ·obtain ⟨a,b,c⟩:=ih (x / 2) (by omega) hz (by omega)
   generalize Lib.bitLen (x / 2) = n at *
   obtain ⟨d,rfl⟩:∃ d,n = d + 1:=⟨n - 1,by omega⟩
   rw [Nat.add_sub_cancel] at b
   rw [show 1 + (d + 1) - 1 = d + 1 from by omega,show 1 + (d + 1) = (d + 1) + 1 from by omega,Nat.pow_succ,Nat.pow_succ 2 (d + 1)]
   rw [Nat.pow_succ] at c
   rw [Nat.pow_succ]
   omega
theorem lead_top (t:Nat) (h0:0 < t) (h1:t < 4294967296):∃ k:Nat,(32:Int) - (Lib.bitLen t:Int) = (k:Int) ∧ k ≤ 31 ∧ 2147483648 ≤ t * 2 ^ k ∧ t * 2 ^ k + 2 ^ k ≤ 4294967296:=by
 obtain ⟨a,b,c⟩:=bitLen_bounds t h0 h1
 have hle:Lib.bitLen t ≤ 32:=by
  rcases Nat.lt_or_ge 32 (Lib.bitLen t) with h | h
  ·exfalso
   have:2 ^ 32 ≤ 2 ^ (Lib.bitLen t - 1):=Nat.pow_le_pow_right (by omega) (by omega)
   have h2:(2 ^ 32:Nat) = 4294967296:=rfl
   omega
  ·exact h
 generalize Lib.bitLen t = n at *
 have hP:0 < 2 ^ (32 - n):=Nat.pow_pos (by omega)
 refine ⟨32 - n,by omega,by omega,?_,?_⟩
 ·have h3:2 ^ (n - 1) * 2 ^ (32 - n) ≤ t * 2 ^ (32 - n):=Nat.mul_le_mul_right _ b
  rw [← Nat.pow_add,show n - 1 + (32 - n) = 31 from by omega] at h3
  exact h3
 ·have h4:(t + 1) * 2 ^ (32 - n) ≤ 2 ^ n * 2 ^ (32 - n):=Nat.mul_le_mul_right _ c
  rw [← Nat.pow_add,show n + (32 - n) = 32 from by omega,Nat.add_mul,Nat.one_mul] at h4
  exact h4
theorem rows_apart {e:Nat} {w1 w2:World} {base:Nat} {ok1 ok2:Nat → Prop} {v1 v2:Value} {xs ys:List Int} (h1:(Kd.int .u32).R e w1 base ok1 v1 xs) (hb:Below w1.heap.size w1 w2) (h2:(Kd.int .u32).R e w2 w1.heap.size ok2 v2 ys) (hbase:base ≤ w1.heap.size) :
  (Kd.int .u32).R e w2 base (fun k=>some k ≠ v2.ownBlock) v1 xs ∧ (Kd.int .u32).R e w2 base (fun k=>some k ≠ v1.ownBlock) v2 ys:=by
 have a1:=Kd.R_bound h1
 have a2:=Kd.R_bound h2
 refine ⟨Kd.R_mono (Kd.R_below a1 hb) (fun k hk he=>?_),Kd.R_lower (Kd.R_mono a2 (fun k hk he=>?_)) hbase⟩
 ·have:=(a2.1 k he.symm).2.1
  have:=hk.2.2.1
  omega
 ·have:=(a1.1 k he.symm).2.2.1
  have:=hk.2.1
  omega
def DivPost (base:Nat) (w0:World) (q r:List Int) (e:Ending) (w':World):Prop :=
 ∃ v1 v2,e = .returned (.tuple #[v1,v2]) ∧ (Kd.int .u32).R 134 w' base (fun k=>some k ≠ v2.ownBlock) v1 q ∧ (Kd.int .u32).R 134 w' base (fun k=>some k ≠ v1.ownBlock) v2 r ∧ Below base w0 w'
set_option maxHeartbeats 800000 in
set_option maxRecDepth 100000 in
theorem div_small (A A':Option Addr) (c c':Nat) (l l':List Int) (w:World) (hr:(Kd.int .u32).C w A l.length l) (hr':(Kd.int .u32).C w A' l'.length l') (hl:Limbs l) (hl':Limbs l') (hp':Plain l') (hne:l' ≠ []) (h1:l.length ≤ 2) (h2:l'.length ≤ 2) :
  Calls Tryz.prog 136 #[.slice A l.length c,.slice A' l'.length c'] w (DivPost w.heap.size w (lim (val l / val l')) (lim (val l % val l'))):=by
 have HR:=Aside0.mk hr
 have HR':=Aside0.mk hr'
 have HL:=Aside0.mk hl
 have HL':=Aside0.mk hl'
 have b1:val l < 18446744073709551616:=by
  have:=val_lt hl
  have h3:4294967296 ^ l.length ≤ 4294967296 ^ 2:=Nat.pow_le_pow_right (by omega) h1
  omega
 have b2:val l' < 18446744073709551616:=by
  have:=val_lt hl'
  have h3:4294967296 ^ l'.length ≤ 4294967296 ^ 2:=Nat.pow_le_pow_right (by omega) h2
  omega
 have hpos:=val_pos_of_plain hl' hp' hne
 have hs1:smallV l = (val l:Int):=by unfold smallV;rw [if_pos h1]
 have hs2:smallV l' = (val l':Int):=by unfold smallV;rw [if_pos h2]
 have hd1:decide (l.length ≤ 2) = true:=decide_eq_true h1
 have hd2:decide (l'.length ≤ 2) = true:=decide_eq_true h2
 have HE:=Aside0.mk hs1
 have HE':=Aside0.mk hs2
 have HD1:=Aside0.mk hd1
 have HD2:=Aside0.mk hd2
 obtain ⟨x,hx⟩:∃ x,x = val l:=⟨_,rfl⟩
 obtain ⟨y,hy⟩:∃ y,y = val l':=⟨_,rfl⟩
 have HX:=Aside0.mk hx
 have HY:=Aside0.mk hy
 rw [← hx] at b1
 rw [← hy] at b2 hpos
 have hq0:0 ≤ (x:Int) / (y:Int):=Int.ediv_nonneg (by omega) (by omega)
 have hq1:(x:Int) / (y:Int) ≤ x:=Int.ediv_le_self _ (by omega)
 have htm:Int.tmod (x:Int) (y:Int) = ((x % y:Nat):Int):=by rw [Int.tmod_eq_emod_of_nonneg (by omega)];omega
 have hm0:0 ≤ Int.tmod (x:Int) (y:Int):=by rw [htm];omega
 have hm1:Int.tmod (x:Int) (y:Int) < y:=by
  rw [htm]
  have:=Nat.mod_lt x hpos
  omega
 have HTM:=Aside0.mk htm
 have hyz:((y:Int) == 0) = false:=by rw [beq_eq_false_iff_ne];omega
 have hyz2:(y == 0) = false:=by rw [beq_eq_false_iff_ne];omega
 have hyz3:¬ (y = 0):=by omega
 have hqw:IntKind.u64.wrap ((x:Int) / (y:Int)) = (x:Int) / (y:Int):=by
  rw [IntKind.wrap_u64]
  exact Int.emod_eq_of_lt hq0 (by omega)
 clear htm hr hr' hl hl' hp' hne hs1 hs2 hd1 hd2 hx hy h1 h2
 go_enter Tryz.func136,Tryz.ntmps136
 go_wp2_with fail
 refine (small_at _ _ _ _ HR.out HL.out).mono ?_
 rintro e w1 ⟨rfl,hd⟩
 have HD:=Aside0.mk hd
 clear hd
 rw [HE.out,HD1.out,← HX.out]
 go_wp2_with fail
 refine (small_at _ _ _ _ (Kd.C_below HR'.out HD.out.below) HL'.out).mono ?_
 rintro e w2 ⟨rfl,hd⟩
 have HDB:=Aside0.mk (HD.out.below.trans ((hd.below).mono HD.out.below.size))
 clear hd
 rw [HE'.out,HD2.out,← HY.out]
 go_wp2_with fail
 go_region_with (first
  | (go_at_call_of 111 (Value.int .u64 ((x:Int) / (y:Int)));refine (small_calls _ hq0 (by omega) _).mono ?_;rintro e wq ⟨vq,rfl,hoq,hbq⟩;have HOQ:=Aside0.mk hoq;have HBQ:=Aside0.mk hbq;clear hoq hbq)
  | (go_at_call_of 111 (Value.int .u64 (Int.tmod (x:Int) (y:Int)));refine (small_calls _ hm0 (by omega) _).mono ?_;rintro e wr ⟨vr,rfl,hor,hbr⟩;have HOR:=Aside0.mk hor;have HBR:=Aside0.mk hbr;clear hor hbr))
 all_goals go_wp2
 all_goals go_ret2
 all_goals
  have hqv:small64 ((x:Int) / (y:Int)) = lim (val l / val l'):=by
   rw [small64_eq hq0 (by omega),← HX.out,← HY.out]
   rfl
  have hrv:small64 (Int.tmod (x:Int) (y:Int)) = lim (val l % val l'):=by
   rw [small64_eq hm0 (by omega),← HX.out,← HY.out,HTM.out,Int.toNat_natCast]
  rw [hqv] at HOQ
  rw [hrv] at HOR
 have hdb:=below_drew HDB.out
 have hb1:Below w.heap.size w wq:=hdb.trans (HBQ.out.mono hdb.size)
 have ap:=rows_apart (Kd.R_lower HOQ.out hdb.size) HBR.out HOR.out hb1.size
 exact ⟨_,_,rfl,ap.1,ap.2,hb1.trans (HBR.out.mono hb1.size)⟩
theorem div_guard {l l':List Int} (h:¬ (l.length ≤ 2 ∧ l'.length ≤ 2)):(decide (l.length ≤ 2) = true ∧ decide (l'.length ≤ 2) = false) ∨ decide (l.length ≤ 2) = false:=by
 by_cases h1:l.length ≤ 2
 ·exact .inl ⟨decide_eq_true h1,decide_eq_false (fun h2=>h ⟨h1,h2⟩)⟩
 ·exact .inr (decide_eq_false h1)
set_option maxHeartbeats 800000 in
set_option maxRecDepth 100000 in
theorem div_less (A A':Option Addr) (c c':Nat) (l l':List Int) (w:World) (hr:(Kd.int .u32).C w A l.length l) (hr':(Kd.int .u32).C w A' l'.length l') (hl:Limbs l) (hl':Limbs l') (hp:Plain l) (hp':Plain l') (hs:¬ (l.length ≤ 2 ∧ l'.length ≤ 2)) (hlt:val l < val l') (hn:l.length ≤ 1099511627776) :
  Calls Tryz.prog 136 #[.slice A l.length c,.slice A' l'.length c'] w (DivPost w.heap.size w (lim (val l / val l')) (lim (val l % val l'))):=by
 have HR:=Aside0.mk hr
 have HR':=Aside0.mk hr'
 have HL:=Aside0.mk hl
 have HL':=Aside0.mk hl'
 have HQ:=Aside0.mk (show lim (val l / val l') = [] from by rw [Nat.div_eq_of_lt hlt];exact lim_zero)
 have HM:=Aside0.mk (show lim (val l % val l') = l from by rw [Nat.mod_eq_of_lt hlt];exact lim_val hl hp)
 have HC:=Aside0.mk (cmpN_lt hlt)
 have HP:=Aside0.mk hp
 have HP':=Aside0.mk hp'
 have hcase:=div_guard hs
 clear hr hr' hl hl' hs hlt hp hp'
 rcases hcase with ⟨e1,e2⟩ | e1
 all_goals
  go_enter Tryz.func136,Tryz.ntmps136
  go_wp2_with fail
  refine (small_at _ _ _ _ HR.out HL.out).mono ?_
  rintro e w1 ⟨rfl,hd⟩
  have HD:=Aside0.mk hd.below
  clear hd
  go_wp2_with fail
  refine (small_at _ _ _ _ (Kd.C_below HR'.out HD.out) HL'.out).mono ?_
  rintro e w2 ⟨rfl,hd⟩
  have HDB:=Aside0.mk (HD.out.trans ((hd.below).mono HD.out.size))
  clear hd HD
  go_wp2_with fail
  refine (cmp_calls _ _ _ _ _ _ _ (Kd.C_below HR.out HDB.out) (Kd.C_below HR'.out HDB.out) HL.out HL'.out HP.out HP'.out).mono ?_
  rintro e w3 ⟨rfl,hd⟩
  have HDC:=Aside0.mk (HDB.out.trans ((hd.below).mono HDB.out.size))
  clear hd HDB
  rw [HC.out]
  go_wp2_with fail
  refine (copy_calls _ _ _ _ (Kd.C_below HR.out HDC.out) (by omega)).mono ?_
  rintro e w4 ⟨v,rfl,ho,hb⟩
  have HO:=Aside0.mk (Kd.R_lower ho HDC.out.size)
  have HB:=Aside0.mk (HDC.out.trans (hb.mono HDC.out.size))
  clear ho hb
  go_wp2
  go_ret2
  refine ⟨_,_,rfl,?_,?_,HB.out⟩
  ·rw [HQ.out];exact Kd.R_nil _ _ _ _ _
  ·rw [HM.out];exact Kd.R_mono HO.out (fun k _ h=>by simp [Value.ownBlock] at h)
set_option maxHeartbeats 800000 in
set_option maxRecDepth 100000 in
theorem div_one (A A':Option Addr) (c c':Nat) (l:List Int) (d:Int) (w:World) (hr:(Kd.int .u32).C w A l.length l) (hr':(Kd.int .u32).C w A' [d].length [d]) (hl:Limbs l) (hl':Limbs [d]) (hp:Plain l) (hp':Plain [d]) (hs:2 < l.length) (hn:l.length ≤ 1099511627776) :
  Calls Tryz.prog 136 #[.slice A l.length c,.slice A' 1 c'] w (DivPost w.heap.size w (lim (val l / val [d])) (lim (val l % val [d]))):=by
 have HR:=Aside0.mk hr
 have HR':=Aside0.mk hr'
 have HL:=Aside0.mk hl
 have HL':=Aside0.mk hl'
 have hd0:0 < d ∧ d < 4294967296:=by
  have h1:=hp' (by simp)
  simp at h1
  have:=hl'.head
  omega
 have hgt:val [d] < val l:=val_lt_of_length hl' hl hp (by simp;omega)
 have HC:=Aside0.mk (cmpN_gt hgt)
 have HV:=Aside0.mk (show val [d] = d.toNat from val_one d)
 have HP:=Aside0.mk hp
 have HP':=Aside0.mk hp'
 have HD0:=Aside0.mk hd0
 have e1:decide (l.length ≤ 2) = false:=decide_eq_false (by omega)
 clear hr hr' hl hl' hs hp hp' hgt hd0
 go_enter Tryz.func136,Tryz.ntmps136
 go_wp2_with fail
 refine (small_at _ _ _ _ HR.out HL.out).mono ?_
 rintro e w1 ⟨rfl,hd⟩
 have HD:=Aside0.mk hd.below
 clear hd
 go_wp2_with fail
 refine (small_at _ _ [d] _ (Kd.C_below HR'.out HD.out) HL'.out).mono ?_
 rintro e w2 ⟨rfl,hd⟩
 have HDB:=Aside0.mk (HD.out.trans ((hd.below).mono HD.out.size))
 clear hd HD
 go_wp2_with fail
 refine (cmp_calls _ _ _ _ l [d] _ (Kd.C_below HR.out HDB.out) (Kd.C_below HR'.out HDB.out) HL.out HL'.out HP.out HP'.out).mono ?_
 rintro e w3 ⟨rfl,hd⟩
 have HDC:=Aside0.mk (HDB.out.trans ((hd.below).mono HDB.out.size))
 clear hd HDB
 rw [HC.out]
 go_wp2_with fail
 refine (copy_calls _ _ _ _ (Kd.C_below HR.out HDC.out) (by omega)).mono ?_
 rintro e w4 ⟨v,rfl,ho,hb⟩
 obtain ⟨Aq,cq,rfl⟩:=Kd.R_slice ho
 have HO:=Aside0.mk (Kd.R_bound (Kd.R_lower ho HDC.out.size))
 have HB:=Aside0.mk (HDC.out.trans (hb.mono HDC.out.size))
 obtain ⟨ad,eA,hx⟩:=Kd.at_int HR'.out 0 (by omega) (by simp)
 subst eA
 rw [show rd [d] 0 = d from rfl,show ((0:Int)).toNat = 0 from rfl,Addr.add_zero'] at hx
 replace hx:=(HB.out.cell (World.block_lt_of_cell? w _ hx)).trans hx
 have hxb:ad.block < w4.heap.size:=World.block_lt_of_cell? w4 _ hx
 clear ho hb
 go_wp2_with fail
 have hbx:=Blk.new w4 117 #[.slice Aq l.length cq]
 refine (shrink_calls w4.heap.size w.heap.size _ l d w _ hbx (Kd.R_alloc (Kd.R_mono HO.out (fun k hk=>by have:=hk.2.2.1;omega)) _) (below_alloc HB.out _) (by simp;have:=HB.out.size;omega) HB.out.size HD0.out HL.out).mono ?_
 rintro e w5 ⟨v',rfl,hbx',ho',hb'⟩
 obtain ⟨qv,hqv⟩:∃ qv,qv = lim (val l / d.toNat):=⟨_,rfl⟩
 rw [← hqv] at ho'
 have HQV:=Aside0.mk hqv
 clear hqv
 obtain ⟨Ar,cr,rfl⟩:=Kd.R_slice ho'
 have HO5:=Aside0.mk ho'
 have HB5:=Aside0.mk hb'
 have hcell:w5.cell? ⟨w4.heap.size,0,none⟩ = some (.slice Ar qv.length cr):=hbx'.cell 0
 have hrem:val l % d.toNat < d.toNat:=Nat.mod_lt _ (by have:=HD0.out;omega)
 have hr0:0 ≤ ((val l % d.toNat:Nat):Int) ∧ ((val l % d.toNat:Nat):Int) < 4294967296:=by have:=HD0.out;omega
 obtain ⟨rm,hrm⟩:∃ rm,rm = ((val l % d.toNat:Nat):Int):=⟨_,rfl⟩
 rw [← hrm] at hr0 ⊢
 have HRM:=Aside0.mk hrm
 clear ho' hb' hbx hbx' hrem hrm
 go_wp2
 have hwr:IntKind.u64.wrap rm = rm:=by rw [IntKind.wrap_u64];omega
 go_region_with (go_at_call 111;refine (small_calls _ hr0.1 (by omega) _).mono ?_;rintro e wr ⟨vr,rfl,hor,hbr⟩;have HOR:=Aside0.mk hor;have HBR:=Aside0.mk hbr;have hcell2:=(hbr.cell (World.block_lt_of_cell? _ _ hcell)).trans hcell;clear hor hbr)
 all_goals go_wp2
 all_goals go_ret2
 all_goals
  have hdr:=below_drew HB5.out
  have ap:=rows_apart (Kd.R_drew HO5.out) HBR.out HOR.out hdr.size
  have hq:lim (val l / val [d]) = qv:=by rw [HQV.out,HV.out]
  have hm:lim (val l % val [d]) = small64 rm:=by rw [small64_eq hr0.1 (by omega),HRM.out,HV.out,Int.toNat_natCast]
  rw [hq,hm]
  exact ⟨_,_,rfl,ap.1,ap.2,hdr.trans (HBR.out.mono hdr.size)⟩
end Go.Proofs.YtijldkknhphgcaaGreat.Hand
end
