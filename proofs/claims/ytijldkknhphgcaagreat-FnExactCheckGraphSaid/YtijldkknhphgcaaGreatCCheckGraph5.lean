/- Texts of one proof, one behind the other: each tells what it proves. -/
import Derived.Test.YtijldkknhphgcaaGreatCCheckGraph4
import Derived.Test.YtijldkknhphgcaaGreatCCheckGraph2
import Derived.Lib.SmallJoins
import Derived.Deep.Slices
import Derived.Shelf.Small.Bits
import Derived.Shelf.Small.Wraps
import Derived.Ground.Names2Prog
import Derived.Shelf.Slices.SearchI
import Derived.Test.YtijldkknhphgcaaGreatProg

section
/- Kinds for the laws, rationals as triples, and arguments opened by their kinds. The conditions stand with each part. -/
set_option linter.unusedVariables false
set_option linter.unusedSimpArgs false
namespace Go.Proofs.YtijldkknhphgcaaGreat.Hand
open Go.RowKit Go.Proofs.YtijldkknhphgcaaGreatW.PrintWords Go.Proofs.YtijldkknhphgcaaGreatW.PrintLast Go.Proofs.YtijldkknhphgcaaGreatW.PrintMore
def natK:Kd (List Int):=Kd.slice 134 (Kd.int .u32)
structure Rt where
 neg:Bool
 num:List Int
 den:List Int
def ratK:Kd Rt:=Kd.iso (Kd.pair Kd.bool (spair natK natK)) (fun r=>(r.neg,r.num,r.den))
section
variable {w w':World} {base n c:Nat} {ok:Nat → Prop} {A:Option Addr} {l:List Int} {v:Value} {cs:List Value} {r:Rt}
theorem natK_of (hc:l.length ≤ c) (h:(Kd.int .u32).C w A l.length l):natK.K w l [.slice A l.length c]:=⟨A,c,rfl,hc,h⟩
theorem natK_made (h:(Kd.int .u32).R 134 w base ok v l):natK.M w base ok l [v]:=⟨v,rfl,h⟩
theorem natK_row (h:natK.M w base ok l [v]):(Kd.int .u32).R 134 w base ok v l:=by
 obtain ⟨u,e,h⟩:=h
 injection e with e _
 rw [e]
 exact h
theorem natK_read (h:natK.K w l [.slice A n c]):(Kd.int .u32).C w A l.length l:=by
 obtain ⟨A',c',e,hc,h⟩:=h
 injection e with e _
 injection e with e1 e2 e3
 rw [e1]
 exact h
theorem ratK_form (h:ratK.K w r cs):∃ A c A' c',cs = [.bool r.neg,.slice A r.num.length c,.slice A' r.den.length c'] ∧ r.num.length ≤ c ∧ (Kd.int .u32).C w A r.num.length r.num ∧ r.den.length ≤ c' ∧ (Kd.int .u32).C w A' r.den.length r.den:=by
 obtain ⟨c0,c1,rfl,h0,c2,c3,rfl,⟨A,c,rfl,hc,hC⟩,⟨A',c',rfl,hc',hC'⟩⟩:=h
 have e0:c0 = [.bool r.neg]:=h0
 subst e0
 exact ⟨A,c,A',c',rfl,hc,hC,hc',hC'⟩
theorem ratK_of {s:Bool} {A':Option Addr} {c':Nat} {l':List Int} (hc:l.length ≤ c) (h:(Kd.int .u32).C w A l.length l) (hc':l'.length ≤ c') (h':(Kd.int .u32).C w A' l'.length l'):ratK.K w ⟨s,l,l'⟩ [.bool s,.slice A l.length c,.slice A' l'.length c'] :=
 ⟨[.bool s],[.slice A l.length c,.slice A' l'.length c'],rfl,rfl,[.slice A l.length c],[.slice A' l'.length c'],rfl,⟨A,c,rfl,hc,h⟩,⟨A',c',rfl,hc',h'⟩⟩
theorem ratK_made {s:Bool} {l':List Int} {v':Value} {ok':Nat → Prop} (h:(Kd.int .u32).R 134 w base ok v l) (h':(Kd.int .u32).R 134 w base ok' v' l') (hn:∀ k,ok' k → ok k ∧ some k ≠ v.ownBlock):ratK.M w base ok ⟨s,l,l'⟩ [.bool s,v,v'] :=
 ⟨[.bool s],[v,v'],rfl,rfl,[v],[v'],fun k=>some k = v.ownBlock,rfl,⟨v,rfl,Kd.R_mono (Kd.R_tight2 rfl h) (fun k hk=>⟨hk.2,hk.1⟩)⟩,⟨v',rfl,Kd.R_mono h' (fun k hk=>hn k hk)⟩⟩
theorem ratK_rows {s:Bool} {v':Value} (h:ratK.M w base ok r [.bool s,v,v']):∃ P:Nat → Prop,s = r.neg ∧ (Kd.int .u32).R 134 w base (fun k=>ok k ∧ P k) v r.num ∧ (Kd.int .u32).R 134 w base (fun k=>ok k ∧ ¬ P k) v' r.den:=by
 obtain ⟨c0,c1,e,h0,c2,c3,P,e1,⟨u,rfl,hu⟩,⟨u',rfl,hu'⟩⟩:=h
 have e0:c0 = [.bool r.neg]:=h0
 subst e0 e1
 simp only [List.cons_append,List.nil_append,List.cons.injEq,and_true,Value.bool.injEq] at e
 obtain ⟨rfl,rfl,rfl⟩:=e
 exact ⟨P,rfl,hu,hu'⟩
end
structure Iv (a b:Nat) (P:Nat → Prop) (k:Nat):Prop where mk :: (lo:a ≤ k) (hi:k < b) (p:P k)
end Go.Proofs.YtijldkknhphgcaaGreat.Hand
set_option linter.unusedVariables false
set_option linter.unusedSimpArgs false
namespace Go.Proofs.YtijldkknhphgcaaGreat.Hand
open Go.RowKit Go.Proofs.YtijldkknhphgcaaGreatW.PrintWords
def sgn (s:Bool) (n:Nat):Int:=if s then -(n:Int) else (n:Int)
def repr (q:Rat):Rt:=⟨decide (q.num < 0),lim q.num.natAbs,lim q.den⟩
def plainB (l:List Int):Bool:=decide (l.length = 0) || (rd l ((l.length:Int) - 1) != 0)
def okR (r:Rt):Bool:=plainB r.num && plainB r.den && decide (r.den.length ≠ 0) && decide (Nat.gcd (val r.num) (val r.den) = 1) && (decide (r.num.length ≠ 0) || !r.neg)
theorem plainB_iff {l:List Int}:plainB l = true ↔ Plain l:=by
 unfold plainB Plain
 rcases Nat.eq_zero_or_pos l.length with h | h
 ·rw [List.length_eq_zero_iff] at h
  subst h
  simp
 ·obtain ⟨m,hm⟩:∃ m,l.length = m + 1:=⟨l.length - 1,by omega⟩
  have hne:l ≠ []:=by intro e;subst e;simp at h
  have e1:(l.length:Int) - 1 = (m:Int):=by omega
  rw [e1,rd_lt (by omega:m < l.length)]
  have e2:l.getLast hne = l[m]:=by
   rw [List.getLast_eq_getElem]
   simp only [hm,Nat.add_sub_cancel]
  constructor
  ·intro hp _
   rw [e2]
   simp at hp
   exact hp.resolve_left hne
  ·intro hp
   have:=hp hne
   rw [e2] at this
   simp
   exact .inr this
theorem sgn_natAbs (z:Int):sgn (decide (z < 0)) z.natAbs = z:=by unfold sgn;by_cases h:z < 0 <;> simp [h] <;> omega
theorem natAbs_sgn (s:Bool) (n:Nat):(sgn s n).natAbs = n:=by cases s <;> simp [sgn]
theorem sgn_neg_iff {s:Bool} {n:Nat} (h:0 < n):decide (sgn s n < 0) = s:=by cases s <;> simp [sgn] <;> omega
theorem sgn_zero (s:Bool):sgn s 0 = 0:=by cases s <;> rfl
theorem repr_zero:repr 0 = ⟨false,[],[1]⟩:=by
 have h1:lim 0 = []:=lim_zero
 have h2:lim 1 = [1]:=by rw [lim_pos (by omega)];simp [lim_zero]
 unfold repr
 simp [h1,h2]
theorem repr_num_nil {q:Rat}:(repr q).num = [] ↔ q = 0:=by
 unfold repr
 simp only [lim_nil_iff,Int.natAbs_eq_zero]
 exact Rat.num_eq_zero
theorem repr_num_len {q:Rat}:(repr q).num.length = 0 ↔ q = 0:=by rw [List.length_eq_zero_iff];exact repr_num_nil
theorem repr_limbs (q:Rat):Limbs (repr q).num ∧ Limbs (repr q).den:=⟨limbs_lim _,limbs_lim _⟩
theorem repr_plain (q:Rat):Plain (repr q).num ∧ Plain (repr q).den:=⟨plain_lim _,plain_lim _⟩
theorem val_num (q:Rat):val (repr q).num = q.num.natAbs:=val_lim _
theorem val_den (q:Rat):val (repr q).den = q.den:=val_lim _
theorem repr_of_okR {r:Rt} (hn:Limbs r.num) (hd:Limbs r.den) (h:okR r = true):∃ q,r = repr q:=by
 obtain ⟨s,n,d⟩:=r
 unfold okR at h
 simp only [Bool.and_eq_true,decide_eq_true_eq,Bool.or_eq_true,Bool.not_eq_true'] at h hn hd
 obtain ⟨⟨⟨⟨h1,h2⟩,h3⟩,h4⟩,h5⟩:=h
 have p1:=plainB_iff.1 h1
 have p2:=plainB_iff.1 h2
 have hd0:val d ≠ 0:=by
  have:=val_pos_of_plain hd p2 (fun e=>h3 (by rw [e];rfl))
  omega
 refine ⟨⟨sgn s (val n),val d,hd0,by rw [natAbs_sgn];exact h4⟩,?_⟩
 unfold repr
 simp only [natAbs_sgn]
 rw [lim_val hn p1,lim_val hd p2]
 rcases Nat.eq_zero_or_pos (val n) with h0 | h0
 ·have hn0:n = []:=by
   have:=lim_val hn p1
   rw [h0,lim_zero] at this
   exact this.symm
  subst hn0
  have:s = false:=by simpa using h5
  subst this
  simp [val,sgn]
 ·rw [sgn_neg_iff h0]
theorem repr_norm (s:Bool) {n d:Nat} (hn:n ≠ 0) (hd:d ≠ 0):repr (mkRat (sgn s n) d) = ⟨s,lim (n / Nat.gcd n d),lim (d / Nat.gcd n d)⟩:=by
 have h1:(mkRat (sgn s n) d).num = sgn s (n / Nat.gcd n d):=by
  rw [Rat.num_mkRat,if_neg hd,natAbs_sgn,Nat.gcd_comm]
  cases s
  ·simp [sgn]
  ·have hdv:(Nat.gcd n d:Int) ∣ (n:Int):=Int.ofNat_dvd.2 (Nat.gcd_dvd_left n d)
   simp only [sgn,if_true]
   rw [Int.neg_ediv_of_dvd hdv]
   simp
 have h2:(mkRat (sgn s n) d).den = d / Nat.gcd n d:=by rw [Rat.den_mkRat,if_neg hd,natAbs_sgn,Nat.gcd_comm]
 have h3:0 < n / Nat.gcd n d:=Nat.div_pos (Nat.le_of_dvd (by omega) (Nat.gcd_dvd_left n d)) (Nat.gcd_pos_of_pos_left _ (by omega))
 unfold repr
 rw [h1,h2,natAbs_sgn,sgn_neg_iff h3]
theorem rat_eq (q:Rat):mkRat (sgn (repr q).neg (val (repr q).num)) (val (repr q).den) = q:=by
 rw [val_num,val_den]
 show mkRat (sgn (decide (q.num < 0)) q.num.natAbs) q.den = q
 rw [sgn_natAbs,Rat.mkRat_self]
theorem den_ne (q:Rat):val (repr q).den ≠ 0:=by rw [val_den];exact q.den_nz
theorem sgn_mulN (s:Bool) (m n:Nat):sgn s m * (n:Int) = sgn s (m * n):=by cases s <;> simp [sgn,Int.neg_mul]
theorem rat_add (a b:Rat):mkRat (sgn (repr a).neg (val (repr a).num * val (repr b).den) + sgn (repr b).neg (val (repr b).num * val (repr a).den)) (val (repr a).den * val (repr b).den) = a + b:=by
 rw [← sgn_mulN,← sgn_mulN,← Rat.mkRat_add_mkRat _ _ (den_ne a) (den_ne b),rat_eq,rat_eq]
theorem sgn_add_same (s:Bool) (x y:Nat):sgn s x + sgn s y = sgn s (x + y):=by cases s <;> simp [sgn] <;> omega
theorem sgn_add_ge {s t:Bool} (h:s ≠ t) {x y:Nat} (hle:y ≤ x):sgn s x + sgn t y = sgn s (x - y):=by
 cases s <;> cases t <;> simp [sgn] at h ⊢ <;> omega
theorem sgn_add_lt {s t:Bool} (h:s ≠ t) {x y:Nat} (hlt:x ≤ y):sgn s x + sgn t y = sgn t (y - x):=by
 cases s <;> cases t <;> simp [sgn] at h ⊢ <;> omega
theorem repr_neg (q:Rat):repr (-q) = ⟨decide (q ≠ 0) && !(repr q).neg,(repr q).num,(repr q).den⟩:=by
 have h0:q ≠ 0 ↔ q.num ≠ 0:=not_congr Rat.num_eq_zero.symm
 unfold repr
 simp only [Rat.neg_num,Rat.neg_den,Int.natAbs_neg]
 congr 1
 rw [Bool.eq_iff_iff]
 simp only [Bool.and_eq_true,decide_eq_true_eq,Bool.not_eq_true',decide_eq_false_iff_not,h0]
 omega
end Go.Proofs.YtijldkknhphgcaaGreat.Hand
set_option linter.unusedVariables false
set_option linter.unusedSimpArgs false
namespace Go.Proofs.YtijldkknhphgcaaGreat.Hand
open Go.ChangeShapes Go.WideShapes Go.Joins Go.RowKit Go.Proofs.YtijldkknhphgcaaGreatW.PrintWords Go.Proofs.YtijldkknhphgcaaGreatW.PrintLast Go.Proofs.YtijldkknhphgcaaGreatW.PrintMore
def Opens {α:Type} (d:Kd α) (t:TypeId) (good:α → Prop):Prop :=
 ∀ {H:Type} (enc:TypeId × Value → H) (W:World) (fuel:Nat) (cs:List Value) (x:DataW H × List MemPlace),DataW.trod enc Tryz.prog W 0 (fun _=>true) true fuel t cs = some x → ∃ y,d.K W y cs ∧ good y
theorem opens_bool {t:TypeId} (ht:Tryz.prog.underlying t = some .bool):Opens Kd.bool t (fun _=>True):=by
 intro H enc W fuel cs x h
 obtain ⟨b,rfl,_⟩:=DataW.trod_bool ht h
 exact ⟨b,rfl,trivial⟩
theorem opens_int {t:TypeId} {k:IntKind} (ht:Tryz.prog.underlying t = some (.int k)):Opens (Kd.int k) t (fun n=>(Lit.int k n).wf = true):=by
 intro H enc W fuel cs x h
 obtain ⟨n,rfl,_,hw⟩:=DataW.trod_int ht h
 exact ⟨n,rfl,hw⟩
theorem opens_mono {α:Type} {d:Kd α} {t:TypeId} {good good':α → Prop} (h:Opens d t good) (hg:∀ y,good y → good' y):Opens d t good':=by
 intro H enc W fuel cs x hx
 obtain ⟨y,h1,h2⟩:=h enc W fuel cs x hx
 exact ⟨y,h1,hg y h2⟩
theorem opens_slice {α:Type} {d:Kd α} {t e:TypeId} {good:α → Prop} (ht:Tryz.prog.underlying t = some (.slice e)) (hc:Tryz.prog.cellsOf e = d.sz) (h:Opens d e good):Opens (Kd.slice e d) t (fun xs=>∀ x ∈ xs,good x):=by
 intro H enc W fuel cs x hx
 rcases Go.Deep.open_slice ht hx with ⟨rfl,_⟩ | ⟨a,len,cap,m,n,D,Pl,rfl,_,hl,hm,hmm,_,hel⟩
 ·exact ⟨[],⟨none,0,rfl,Nat.le_refl _,Kd.C_nil d W⟩,fun x hx=>by simp at hx⟩
 ·simp only [if_true] at hmm
  subst hmm
  have key:∀ k,k ≤ len → ∃ xs:List α,xs.length = k ∧ (∀ x ∈ xs,good x) ∧ ∀ j p,xs[j]? = some p → ∃ c,c.length = d.sz ∧ d.K W p c ∧ ∀ i u,c[i]? = some u → W.cell? (a.add (j * d.sz + i)) = some u:=by
   intro k
   induction k with
   | zero=>exact fun _=>⟨[],rfl,fun x hx=>by simp at hx,fun j p h=>by simp at h⟩
   | succ k ih =>
    intro hk
    obtain ⟨xs,h1,h2,h3⟩:=ih (by omega)
    obtain ⟨cs',hcs,htr⟩:=hel k (by omega)
    rw [hc] at hcs
    obtain ⟨_,hlen,hcell⟩:=World.cells?_some hcs
    obtain ⟨y,hK,hg⟩:=h enc W n cs' _ htr
    refine ⟨xs ++ [y],by simp [h1],fun x hx=>?_,fun j p hj=>?_⟩
    ·rcases List.mem_append.1 hx with hx | hx
     ·exact h2 x hx
     ·rw [List.mem_singleton.1 hx];exact hg
    ·rcases Nat.lt_or_ge j k with hjk | hjk
     ·rw [List.getElem?_append_left (by omega)] at hj
      exact h3 j p hj
     ·rw [List.getElem?_append_right (by omega),h1] at hj
      have hjk':j = k:=by
       have:=(List.getElem?_eq_some_iff.1 hj).1
       simp at this
       omega
      subst hjk'
      have hp:y = p:=by simpa using hj
      subst hp
      refine ⟨cs',hlen,hK,fun i u hu=>?_⟩
      have hi:i < d.sz:=by have:=(List.getElem?_eq_some_iff.1 hu).1;omega
      have h4:=hcell i hi
      rw [Go.Deep.add_add] at h4
      rw [h4]
      exact hu
  obtain ⟨xs,h1,h2,h3⟩:=key len (Nat.le_refl _)
  subst h1
  refine ⟨xs,⟨some a,_,rfl,hl,rfl,?_,fun _=>⟨a,rfl,h3⟩⟩,h2⟩
  unfold maxLen at hm
  omega
theorem limbs_of_good {l:List Int} (h:∀ x ∈ l,(Lit.int .u32 x).wf = true):Limbs l:=fun x hx=>by
 have:=h x hx
 simp [Lit.wf,show IntKind.u32.min = 0 from rfl,show IntKind.u32.max = 4294967295 from rfl] at this
 omega
set_option maxRecDepth 100000 in
theorem opens_nat:Opens natK 67 Limbs:=opens_mono (opens_slice Tryz.underlying67 (by kernel_rfl) (opens_int Tryz.underlying134)) (fun y h=>limbs_of_good h)
def LimbsR (r:Rt):Prop:=Limbs r.num ∧ Limbs r.den
set_option maxRecDepth 100000 in
theorem opens_rat:Opens ratK 87 LimbsR:=by
 intro H enc W fuel cs x h
 obtain ⟨y0,y1,y2,n,hx,hl,h0,h1,h2⟩:=Go.Deep.trod_struct3 Tryz.underlying87 h
 rw [show Tryz.prog.cellsOf 87 = 3 by kernel_rfl] at hl
 obtain ⟨c0,c1,c2,rfl⟩:∃ a b c,cs = [a,b,c]:=by
  match cs,hl with
  | [a,b,c],_=>exact ⟨a,b,c,rfl⟩
 have h0':DataW.trod enc Tryz.prog W 0 (fun _=>true) true n 4 [c0] = some y0:=h0
 have h1':DataW.trod enc Tryz.prog W 0 (fun _=>true) true n 67 [c1] = some y1:=h1
 have h2':DataW.trod enc Tryz.prog W 0 (fun _=>true) true n 67 [c2] = some y2:=h2
 obtain ⟨b,hb,_⟩:=opens_bool Tryz.underlying4 enc W n _ _ h0'
 obtain ⟨l,hK,hl⟩:=opens_nat enc W n _ _ h1'
 obtain ⟨l',hK',hl'⟩:=opens_nat enc W n _ _ h2'
 exact ⟨⟨b,l,l'⟩,⟨[c0],[c1,c2],rfl,hb,[c1],[c2],rfl,hK,hK'⟩,hl,hl'⟩
end Go.Proofs.YtijldkknhphgcaaGreat.Hand
end

section
/-
 DERIVED: THE SHELF's CONTRACTS AT THIS DUMP, IN PLAIN WORDS (tools/lay-plain.mjs out of 'TryzShelf.lean', which tools/lay-shelf.mjs wrote): THE SAME DECLARATIONS UNDER THE SAME NAMES: 'import', 'namespace', 'open', 'def', 'theorem' AND NOTHING ELSE: no command of the shelf's: FOR A HAND-IN. Each laying: the table of numbers ('.._ren') and one theorem, a field a fact of the dump's own or the kernel's comparison; each contract: ONE APPLICATION.
-/
namespace Go.Proofs
open Go.Shelf
def Tryz.lays133_ren:Go.Shelf.Ren:=⟨fun | 133=>164 | 128=>171 | n=>n,fun | 51=>134 | 3=>3 | 4=>4 | 46=>154 | 5=>5 | 9=>9 | n=>n,fun | n=>n⟩
theorem Tryz.lays133:Go.Proofs.Lays.n133 Tryz.prog Tryz.lays133_ren:={
 mixed:=by kernel_rfl
 f128:=Tryz.func171.trans (congrArg some (by kernel_rfl))
 f133:=Tryz.func164.trans (congrArg some (by kernel_rfl))
 t3:=Tryz.underlying3
 a3:=Tryz.isAgg3
 z3:=Tryz.sizeOf3
 v3:=Tryz.zeroValue3
 t4:=Tryz.underlying4
 a4:=Tryz.isAgg4
 z4:=Tryz.sizeOf4
 v4:=Tryz.zeroValue4
 t5:=Tryz.underlying5
 a5:=Tryz.isAgg5
 z5:=Tryz.sizeOf5
 v5:=Tryz.zeroValue5
 t9:=Tryz.underlying9
 a9:=Tryz.isAgg9
 z9:=Tryz.sizeOf9
 v9:=Tryz.zeroValue9
 t46:=Tryz.underlying154
 a46:=Tryz.isAgg154
 z46:=Tryz.sizeOf154
 v46:=Tryz.zeroValue154
 t51:=Tryz.underlying134
 a51:=Tryz.isAgg134
 z51:=Tryz.sizeOf134
 v51:=Tryz.zeroValue134 }
theorem Tryz.bits_LeadingZeros32 (x:Int) (w:World) (h0:0 ≤ x) (h1:x ≤ 4294967295) :
  Calls Tryz.prog 164 #[.int .u32 x] w fun e w'=>e = .returned (.int .i64 (32 - (Lib.bitLen x.toNat:Int))) ∧ w' = w:=Any.bits_LeadingZeros32 Tryz.lays133 x w h0 h1
end Go.Proofs
end
