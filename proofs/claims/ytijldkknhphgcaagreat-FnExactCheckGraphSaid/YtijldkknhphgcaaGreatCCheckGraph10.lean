/- Texts of one proof, one behind the other: each tells what it proves. -/
import Derived.Test.YtijldkknhphgcaaGreatCCheckGraph5
import Derived.Test.YtijldkknhphgcaaGreatCCheckGraph9
import Derived.Lib.SmallJoins

section
/- Small functions over rationals: zero, one, sign, RatOk and its closure. Conditions: what is read can be read, its elements are limbs, and there are at most 2^40 of them. -/
set_option linter.unusedVariables false
set_option linter.unusedSimpArgs false
namespace Go.Proofs.YtijldkknhphgcaaGreat.Hand
open Go.RowKit Go.Proofs.YtijldkknhphgcaaGreatW.PrintWords Go.Proofs.YtijldkknhphgcaaGreatW.PrintLast Go.Proofs.YtijldkknhphgcaaGreatW.PrintMore
def RatPost (w:World) (q:Rat) (e:Ending) (w':World):Prop:=∃ A c B d,e = .returned (.agg #[.bool (repr q).neg,.slice A (repr q).num.length c,.slice B (repr q).den.length d]) ∧ ratK.M w' w.heap.size (fun _=>True) (repr q) [.bool (repr q).neg,.slice A (repr q).num.length c,.slice B (repr q).den.length d] ∧ Below w.heap.size w w'
theorem infoR:(Tryz.prog.info? 69).map (·.size) = some 3:=by kernel_rfl
theorem ret_rat {fn:Func} {p:Tmp} (h:fn.results = #[.cell p 69]) (tmps:Array Value) (w:World) (g:Nat) (a b c:Value) (hp:tmps.getD p undef = .pointer (some ⟨g,0,none⟩)) (hg:Blk w g 69 #[a,b,c]) :
  (results fn tmps).run Tryz.prog w = .ok (.agg #[a,b,c]) w:=by
 have hp':tmps[p]?.getD undef = .pointer (some ⟨g,0,none⟩):=by simpa using hp
 simp [results,h,hp',asAddr,run_loadVar_row w g 69 69 #[a,b,c] (0,0) _ hg Tryz.underlying69 rfl infoR]
theorem store3 {w:World} {g:Nat} {t:TypeId} {a b c x y z:Value} (h:Blk w g t #[a,b,c]):Blk (((w.setCell ⟨g,0,none⟩ x).setCell ⟨g,1,none⟩ y).setCell ⟨g,2,none⟩ z) g t #[x,y,z]:=((h.set_ 0 x).set_ 1 y).set_ 2 z
theorem below3 {B:Nat} {w0 w:World} {g:Nat} {x y z:Value} (h:Below B w0 w) (hg:B ≤ g):Below B w0 (((w.setCell ⟨g,0,none⟩ x).setCell ⟨g,1,none⟩ y).setCell ⟨g,2,none⟩ z):=((h.setCell hg _).setCell hg _).setCell hg _
theorem far3 {α:Type} {k:Kd α} {w:World} {base:Nat} {ok:Nat → Prop} {X:α} {cs:List Value} (h:k.M w base ok X cs) {g:Nat} (hg:∀ i,ok i → i ≠ g) {x y z:Value}:k.M (((w.setCell ⟨g,0,none⟩ x).setCell ⟨g,1,none⟩ y).setCell ⟨g,2,none⟩ z) base ok X cs:=Kd.M_far (Kd.M_far (Kd.M_far h hg _) hg _) hg _
theorem box3 {w:World} {g:Nat} {t:TypeId} {a b c:Value} (h:Blk w g t #[a,b,c]):w.cell? ⟨g,0,none⟩ = some a ∧ w.cell? ⟨g,1,none⟩ = some b ∧ w.cell? ⟨g,2,none⟩ = some c:=⟨h.cell 0,h.cell 1,h.cell 2⟩
theorem bfacts {w:World} {g:Nat} {t:TypeId} {a b c:Value} (h:Blk w g t #[a,b,c]):(w.cell? ⟨g,0,none⟩ = some a ∧ w.cell? ⟨g,1,none⟩ = some b ∧ w.cell? ⟨g,2,none⟩ = some c) ∧ w.frozen? ⟨g,0,none⟩ = false ∧ w.frozen? ⟨g,1,none⟩ = false ∧ w.frozen? ⟨g,2,none⟩ = false:=⟨box3 h,h.frozen 0,h.frozen 1,h.frozen 2⟩
theorem heldB {P:Prop} {W w1 w2:World} (h:Below W.heap.size W w1 ∧ P) (hb:Below w1.heap.size w1 w2):Below W.heap.size W w2:=h.1.trans (hb.mono h.1.size)
theorem one_calls (A:Option Addr) (c:Nat) (l:List Int) (b:Bool) (w:World) (hr:(Kd.int .u32).C w A l.length l) (hl:Limbs l) (hp:Plain l) (hb:decide (val l = 1) = b) :
  Calls Tryz.prog 108 #[.slice A l.length c] w fun e w'=>e = .returned (.bool b) ∧ Below w.heap.size w w':=by
 have hone:val l = 1 ↔ l = [1]:=by
  constructor
  ·intro h
   have:=lim_val hl hp
   rw [h,lim_pos (by omega)] at this
   simpa [lim_zero] using this.symm
  ·rintro rfl;rfl
 by_cases h1:l.length = 1
 ·obtain ⟨x,rfl⟩:∃ x,l = [x]:=by
   match l,h1 with
   | [x],_=>exact ⟨x,rfl⟩
  obtain ⟨ad,e1,hx⟩:=Kd.at_int hr 0 (by omega) (by simp)
  subst e1
  have hxe:rd [x] 0 = x:=rfl
  rw [hxe] at hx
  have hbx:(x == 1) = b:=by
   rw [← hb,Bool.eq_iff_iff,beq_iff_eq,decide_eq_true_eq,hone]
   simp
  have hl1:([x]:List Int).length = 1:=rfl
  rw [hl1]
  have hx':w.cell? ad = some (.int .u32 x):=by simpa [Addr.add] using hx
  clear hb hone hx hxe h1 hr hl hp hl1
  go_enter Tryz.func108,Tryz.ntmps108
  go_wp2
  go_ret
  exact ⟨rfl,Below.refl _ _⟩
 ·have hbf:b = false:=by
   rw [← hb,decide_eq_false_iff_not,hone]
   rintro rfl
   exact h1 rfl
  subst hbf
  have hd:((l.length:Int) == 1) = false:=by rw [beq_eq_false_iff_ne];omega
  clear hb hone h1
  go_enter Tryz.func108,Tryz.ntmps108
  go_wp2
  go_ret
  exact ⟨rfl,Below.refl _ _⟩
theorem plain_calls (A:Option Addr) (c:Nat) (l:List Int) (b:Bool) (w:World) (hr:(Kd.int .u32).C w A l.length l) (hb:plainB l = b) :
  Calls Tryz.prog 106 #[.slice A l.length c] w fun e w'=>e = .returned (.bool b) ∧ Below w.heap.size w w':=by
 have hlen:l.length ≤ 9223372036854775807:=hr.2.1
 unfold plainB at hb
 rcases Nat.eq_zero_or_pos l.length with h0 | h0
 ·have hbt:b = true:=by rw [← hb];simp [h0]
  subst hbt
  have hd:((l.length:Int) == 0) = true:=by rw [beq_iff_eq];omega
  clear hb h0
  go_enter Tryz.func106,Tryz.ntmps106
  go_wp2
  go_ret
  exact ⟨rfl,Below.refl _ _⟩
 ·obtain ⟨m,hm⟩:∃ m,l.length = m + 1:=⟨l.length - 1,by omega⟩
  have hme:(l.length:Int) - 1 = (m:Int):=by omega
  obtain ⟨ad,e1,hx⟩:=Kd.at_int hr (m:Int) (by omega) (by omega)
  subst e1
  rw [Int.toNat_natCast] at hx
  rw [hme] at hb
  obtain ⟨x,hxe⟩:∃ x,x = rd l (m:Int):=⟨_,rfl⟩
  rw [← hxe] at hx hb
  have hbx:(x != 0) = b:=by
   rw [← hb]
   have:decide (l.length = 0) = false:=decide_eq_false (by omega)
   rw [this,Bool.false_or]
  have hd:((l.length:Int) == 0) = false:=by rw [beq_eq_false_iff_ne];omega
  have q1:(m:Int) < (l.length:Int):=by omega
  have HM:=Aside0.mk hm
  clear hb h0 hxe hr hm
  go_enter Tryz.func106,Tryz.ntmps106
  go_wp2
  go_ret
  exact ⟨rfl,Below.refl _ _⟩
end Go.Proofs.YtijldkknhphgcaaGreat.Hand
end

section
/- Rationals as triples for the printed functions: which are valid, the rational of a triple, and how a contract by hand is told in the print's form. Conditions: those of each theorem. -/
set_option linter.unusedVariables false
set_option linter.unusedSimpArgs false
namespace Go.Proofs.YtijldkknhphgcaaGreat.Hand
open Go.RowKit Go.Proofs.YtijldkknhphgcaaGreatW.PrintWords Go.Proofs.YtijldkknhphgcaaGreatW.PrintLast Go.Proofs.YtijldkknhphgcaaGreatW.PrintMore
def goodR (r:Rt):Bool:=limbsB r.num && limbsB r.den
def validR (r:Rt):Bool:=goodR r && okR r
def tup (r:Rt):Bool × List Int × List Int:=(r.neg,r.num,r.den)
def qOf (r:Rt):Rat:=mkRat (sgn r.neg (val r.num)) (val r.den)
theorem qOf_repr (q:Rat):qOf (repr q) = q:=rat_eq q
theorem goodR_iff {r:Rt}:goodR r = true ↔ Limbs r.num ∧ Limbs r.den:=by unfold goodR;rw [Bool.and_eq_true,limbsB_iff,limbsB_iff]
theorem repr_of_validR {r:Rt} (h:validR r = true):r = repr (qOf r):=by
 unfold validR at h
 rw [Bool.and_eq_true,goodR_iff] at h
 obtain ⟨q,rfl⟩:=repr_of_okR h.1.1 h.1.2 h.2
 rw [qOf_repr]
end Go.Proofs.YtijldkknhphgcaaGreat.Hand
end

section
/- The functions sign and RatOk of the program. Conditions: the rational's lists can be read, their elements are limbs, and there are at most 2^40 of them. -/
set_option linter.unusedVariables false
set_option linter.unusedSimpArgs false
namespace Go.Proofs.YtijldkknhphgcaaGreat.Hand
open Go.RowKit Go.Proofs.YtijldkknhphgcaaGreatW.PrintWords Go.Proofs.YtijldkknhphgcaaGreatW.PrintLast Go.Proofs.YtijldkknhphgcaaGreatW.PrintMore
def signI (s:Bool) (n:Nat):Int:=if n = 0 then 0 else if s = true then -1 else 1
set_option maxRecDepth 100000 in
theorem sign_calls (s:Bool) (A B:Option Addr) (n c m d:Nat) (z:Int) (w:World) (hz:signI s n = z) :
  Calls Tryz.prog 42 #[.agg #[.bool s,.slice A n c,.slice B m d]] w fun e w'=>e = .returned (.int .i64 z) ∧ Below w.heap.size w w':=by
 have hu:=Tryz.underlying69
 unfold signI at hz
 rcases Nat.eq_zero_or_pos n with h0 | h0
 ·rw [if_pos h0] at hz
  have hd:((n:Int) == 0) = true:=by rw [beq_iff_eq];omega
  subst hz
  clear h0
  go_enter Tryz.func42,Tryz.ntmps42
  go_wp2
  go_ret
  exact ⟨rfl,below_alloc (Below.refl _ _) _⟩
 ·rw [if_neg (by omega)] at hz
  have hd:((n:Int) == 0) = false:=by rw [beq_eq_false_iff_ne];omega
  subst hz
  clear h0
  cases s
  all_goals
   go_enter Tryz.func42,Tryz.ntmps42
   go_wp2
   go_ret
   exact ⟨rfl,below_alloc (Below.refl _ _) _⟩
set_option maxHeartbeats 4000000 in
set_option maxRecDepth 100000 in
theorem RatOk_calls (A B:Option Addr) (c d:Nat) (r:Rt) (b:Bool) (w:World) (hr:(Kd.int .u32).C w A r.num.length r.num) (hc:r.num.length ≤ c) (hr':(Kd.int .u32).C w B r.den.length r.den) (hc':r.den.length ≤ d)
  (hl:Limbs r.num) (hl':Limbs r.den) (hn:r.num.length ≤ 1099511627776) (hn':r.den.length ≤ 1099511627776) (hb:okR r = b) :
  Calls Tryz.prog 71 #[.agg #[.bool r.neg,.slice A r.num.length c,.slice B r.den.length d]] w fun e w'=>e = .returned (.bool b) ∧ Below w.heap.size w w':=by
 have hu:=Tryz.underlying69
 obtain ⟨s,l,l'⟩:=r
 simp only at hr hc hr' hc' hl hl' hn hn' ⊢
 have HR:=Aside0.mk hr
 have HR':=Aside0.mk hr'
 unfold okR at hb
 simp only at hb
 clear hr hr'
 have HB0:=Aside0.mk (below_alloc (Below.refl w.heap.size w) (.cells #[.bool s,.slice A l.length c,.slice B l'.length d] 69))
 have HX0:=Aside0.mk (Blk.new w 69 #[.bool s,.slice A l.length c,.slice B l'.length d])
 cases h1:plainB l with
 | false =>
  rw [h1] at hb
  simp only [Bool.false_and] at hb
  subst hb
  have H1:=Aside0.mk h1
  clear h1
  go_enter Tryz.func71,Tryz.ntmps71
  go_wp2_with fail
  refine (plain_calls _ _ l false _ (Kd.C_below HR.out HB0.out) H1.out).mono ?_
  rintro e w1 ⟨rfl,hb⟩
  have HB1:=Aside0.mk (HB0.out.trans (hb.mono HB0.out.size))
  clear hb
  go_wp2
  go_ret
  exact ⟨rfl,HB1.out⟩
 | true =>
  rw [h1] at hb
  have hp:=plainB_iff.1 h1
  cases h2:plainB l' with
  | false =>
   rw [h2] at hb
   simp only [Bool.false_and,Bool.true_and] at hb
   subst hb
   have H1:=Aside0.mk h1
   have H2:=Aside0.mk h2
   clear h1 h2
   go_enter Tryz.func71,Tryz.ntmps71
   go_wp2_with fail
   refine (plain_calls _ _ l true _ (Kd.C_below HR.out HB0.out) H1.out).mono ?_
   rintro e w1 ⟨rfl,hb⟩
   have HB1:=Aside0.mk (HB0.out.trans (hb.mono HB0.out.size))
   have HX1:=Aside0.mk (HX0.out.below hb HX0.out.lt)
   obtain ⟨x0,x1,x2⟩:=box3 HX1.out
   clear hb
   go_wp2_with fail
   refine (plain_calls _ _ l' false _ (Kd.C_below HR'.out HB1.out) H2.out).mono ?_
   rintro e w2 ⟨rfl,hb⟩
   have HB2:=Aside0.mk (HB1.out.trans (hb.mono HB1.out.size))
   clear hb
   go_wp2
   go_ret
   exact ⟨rfl,HB2.out⟩
  | true =>
   rw [h2] at hb
   have hp':=plainB_iff.1 h2
   simp only [Bool.true_and] at hb
   have H1:=Aside0.mk h1
   have H2:=Aside0.mk h2
   have HP:=Aside0.mk (And.intro hp hp')
   clear h1 h2 hp hp'
   rcases Nat.eq_zero_or_pos l'.length with h0 | h0
   ·have hd:((l'.length:Int) == 0) = true:=by rw [beq_iff_eq];omega
    have hbf:b = false:=by rw [← hb];simp [h0]
    subst hbf
    clear hb h0
    go_enter Tryz.func71,Tryz.ntmps71
    go_wp2_with fail
    refine (plain_calls _ _ l true _ (Kd.C_below HR.out HB0.out) H1.out).mono ?_
    rintro e w1 ⟨rfl,hb⟩
    have HB1:=Aside0.mk (HB0.out.trans (hb.mono HB0.out.size))
    have HX1:=Aside0.mk (HX0.out.below hb HX0.out.lt)
    obtain ⟨x0,x1,x2⟩:=box3 HX1.out
    clear hb
    go_wp2_with fail
    refine (plain_calls _ _ l' true _ (Kd.C_below HR'.out HB1.out) H2.out).mono ?_
    rintro e w2 ⟨rfl,hb⟩
    have HB2:=Aside0.mk (HB1.out.trans (hb.mono HB1.out.size))
    have HX2:=Aside0.mk (HX1.out.below hb HX1.out.lt)
    clear x0 x1 x2
    obtain ⟨x0,x1,x2⟩:=box3 HX2.out
    clear hb
    go_wp2
    go_ret
    exact ⟨rfl,HB2.out⟩
   have hd:((l'.length:Int) == 0) = false:=by rw [beq_eq_false_iff_ne];omega
   rw [show decide (l'.length ≠ 0) = true from decide_eq_true (by omega),Bool.true_and] at hb
   clear h0
   cases h4:decide (Nat.gcd (val l) (val l') = 1) with
   | false =>
    rw [h4,Bool.false_and] at hb
    have H4:=Aside0.mk h4
    clear h4
    subst hb
    go_enter Tryz.func71,Tryz.ntmps71
    go_wp2_with fail
    refine (plain_calls _ _ l true _ (Kd.C_below HR.out HB0.out) H1.out).mono ?_
    rintro e w1 ⟨rfl,hb⟩
    have HB1:=Aside0.mk (HB0.out.trans (hb.mono HB0.out.size))
    have HX1:=Aside0.mk (HX0.out.below hb HX0.out.lt)
    obtain ⟨x0,x1,x2⟩:=box3 HX1.out
    clear hb
    go_wp2_with fail
    refine (plain_calls _ _ l' true _ (Kd.C_below HR'.out HB1.out) H2.out).mono ?_
    rintro e w2 ⟨rfl,hb⟩
    have HB2:=Aside0.mk (HB1.out.trans (hb.mono HB1.out.size))
    have HX2:=Aside0.mk (HX1.out.below hb HX1.out.lt)
    clear x0 x1 x2
    obtain ⟨x0,x1,x2⟩:=box3 HX2.out
    clear hb
    go_wp2_with fail
    have hg:=gcd_calls A B c d l l' w2 (Kd.C_below HR.out HB2.out) (Kd.C_below HR'.out HB2.out) hl hl' HP.out.1 HP.out.2 hn hn'
    refine hg.mono ?_
    rintro e w3 ⟨v,rfl,ho,hb⟩
    obtain ⟨A3,c3,rfl⟩:=Kd.R_slice ho
    have HG:=Aside0.mk (Kd.R_reads' ho).2.2
    have HB3:=Aside0.mk (HB2.out.trans (hb.mono HB2.out.size))
    have HX3:=Aside0.mk (HX2.out.below hb HX2.out.lt)
    clear x0 x1 x2
    obtain ⟨x0,x1,x2⟩:=box3 HX3.out
    clear hb ho hg
    go_wp2_with fail
    refine (one_calls _ _ _ false _ HG.out (limbs_lim _) (plain_lim _) (by rw [val_lim];exact H4.out)).mono ?_
    rintro e w4 ⟨rfl,hb⟩
    have HB4:=Aside0.mk (HB3.out.trans (hb.mono HB3.out.size))
    have HX4:=Aside0.mk (HX3.out.below hb HX3.out.lt)
    clear x0 x1 x2
    obtain ⟨x0,x1,x2⟩:=box3 HX4.out
    clear hb
    go_wp2
    go_ret
    exact ⟨rfl,HB4.out⟩
   | true =>
    rw [h4,Bool.true_and] at hb
    have H4:=Aside0.mk h4
    clear h4
    rcases Nat.eq_zero_or_pos l.length with h5 | h5
    ·have hd5:decide (0 < (l.length:Int)) = false:=decide_eq_false (by omega)
     have hbs:(!s) = b:=by rw [← hb];simp [h5]
     subst hbs
     have hd6:¬ 0 < l.length:=by omega
     clear hb h5
     go_enter Tryz.func71,Tryz.ntmps71
     go_wp2_with fail
     refine (plain_calls _ _ l true _ (Kd.C_below HR.out HB0.out) H1.out).mono ?_
     rintro e w1 ⟨rfl,hb⟩
     have HB1:=Aside0.mk (HB0.out.trans (hb.mono HB0.out.size))
     have HX1:=Aside0.mk (HX0.out.below hb HX0.out.lt)
     obtain ⟨x0,x1,x2⟩:=box3 HX1.out
     clear hb
     go_wp2_with fail
     refine (plain_calls _ _ l' true _ (Kd.C_below HR'.out HB1.out) H2.out).mono ?_
     rintro e w2 ⟨rfl,hb⟩
     have HB2:=Aside0.mk (HB1.out.trans (hb.mono HB1.out.size))
     have HX2:=Aside0.mk (HX1.out.below hb HX1.out.lt)
     clear x0 x1 x2
     obtain ⟨x0,x1,x2⟩:=box3 HX2.out
     clear hb
     go_wp2_with fail
     have hg:=gcd_calls A B c d l l' w2 (Kd.C_below HR.out HB2.out) (Kd.C_below HR'.out HB2.out) hl hl' HP.out.1 HP.out.2 hn hn'
     refine hg.mono ?_
     rintro e w3 ⟨v,rfl,ho,hb⟩
     obtain ⟨A3,c3,rfl⟩:=Kd.R_slice ho
     have HG:=Aside0.mk (Kd.R_reads' ho).2.2
     have HB3:=Aside0.mk (HB2.out.trans (hb.mono HB2.out.size))
     have HX3:=Aside0.mk (HX2.out.below hb HX2.out.lt)
     clear x0 x1 x2
     obtain ⟨x0,x1,x2⟩:=box3 HX3.out
     clear hb ho hg
     go_wp2_with fail
     refine (one_calls _ _ _ true _ HG.out (limbs_lim _) (plain_lim _) (by rw [val_lim];exact H4.out)).mono ?_
     rintro e w4 ⟨rfl,hb⟩
     have HB4:=Aside0.mk (HB3.out.trans (hb.mono HB3.out.size))
     have HX4:=Aside0.mk (HX3.out.below hb HX3.out.lt)
     clear x0 x1 x2
     obtain ⟨x0,x1,x2⟩:=box3 HX4.out
     clear hb
     go_wp2
     go_ret
     exact ⟨rfl,HB4.out⟩
    ·have hd5:decide (0 < (l.length:Int)) = true:=decide_eq_true (by omega)
     have hbs:b = true:=by rw [← hb];simp;left;intro e;rw [e] at h5;simp at h5
     subst hbs
     clear hb
     go_enter Tryz.func71,Tryz.ntmps71
     go_wp2_with fail
     refine (plain_calls _ _ l true _ (Kd.C_below HR.out HB0.out) H1.out).mono ?_
     rintro e w1 ⟨rfl,hb⟩
     have HB1:=Aside0.mk (HB0.out.trans (hb.mono HB0.out.size))
     have HX1:=Aside0.mk (HX0.out.below hb HX0.out.lt)
     obtain ⟨x0,x1,x2⟩:=box3 HX1.out
     clear hb
     go_wp2_with fail
     refine (plain_calls _ _ l' true _ (Kd.C_below HR'.out HB1.out) H2.out).mono ?_
     rintro e w2 ⟨rfl,hb⟩
     have HB2:=Aside0.mk (HB1.out.trans (hb.mono HB1.out.size))
     have HX2:=Aside0.mk (HX1.out.below hb HX1.out.lt)
     clear x0 x1 x2
     obtain ⟨x0,x1,x2⟩:=box3 HX2.out
     clear hb
     go_wp2_with fail
     have hg:=gcd_calls A B c d l l' w2 (Kd.C_below HR.out HB2.out) (Kd.C_below HR'.out HB2.out) hl hl' HP.out.1 HP.out.2 hn hn'
     refine hg.mono ?_
     rintro e w3 ⟨v,rfl,ho,hb⟩
     obtain ⟨A3,c3,rfl⟩:=Kd.R_slice ho
     have HG:=Aside0.mk (Kd.R_reads' ho).2.2
     have HB3:=Aside0.mk (HB2.out.trans (hb.mono HB2.out.size))
     have HX3:=Aside0.mk (HX2.out.below hb HX2.out.lt)
     clear x0 x1 x2
     obtain ⟨x0,x1,x2⟩:=box3 HX3.out
     clear hb ho hg
     go_wp2_with fail
     refine (one_calls _ _ _ true _ HG.out (limbs_lim _) (plain_lim _) (by rw [val_lim];exact H4.out)).mono ?_
     rintro e w4 ⟨rfl,hb⟩
     have HB4:=Aside0.mk (HB3.out.trans (hb.mono HB3.out.size))
     have HX4:=Aside0.mk (HX3.out.below hb HX3.out.lt)
     clear x0 x1 x2
     obtain ⟨x0,x1,x2⟩:=box3 HX4.out
     clear hb
     go_wp2
     go_ret
     exact ⟨rfl,HB4.out⟩
end Go.Proofs.YtijldkknhphgcaaGreat.Hand
end

section
/- The laws' helpers for rationals: size, copy, comparison, marking, whether a mark is held; and the document's zero. Conditions: what is read can be read and has at most 2^40 limbs; what is marked is the call's own. -/
set_option linter.unusedVariables false
set_option linter.unusedSimpArgs false
namespace Go.Proofs.YtijldkknhphgcaaGreat.Hand
open Go.RowKit Go.Proofs.YtijldkknhphgcaaGreatW.PrintWords Go.Proofs.YtijldkknhphgcaaGreatW.PrintLast Go.Proofs.YtijldkknhphgcaaGreatW.PrintMore
theorem l1Zero_calls (w:World):Calls Tryz.prog 85 #[] w (RatPost w 0):=by
 have hu:=Tryz.underlying69
 go_enter Tryz.func85,Tryz.ntmps85
 go_wp2
 refine bodyPost_ret (v:=.agg #[.bool false,.slice (some ⟨w.heap.size + 1,0,none⟩) 0 0,.slice (some ⟨w.heap.size + 1 + 1,0,none⟩) 1 1]) (by simp [results,Tryz.results85,go_sem]) rfl ?_
 unfold RatPost
 rw [repr_zero]
 refine ⟨_,0,_,1,rfl,?_,below_alloc (below_alloc (below_alloc (Below.refl _ _) _) _) _⟩
 generalize hW:w.alloc (.cells #[.bool false,.slice (some ⟨w.heap.size + 1,0,none⟩) 0 0,.slice (some ⟨w.heap.size + 1 + 1,0,none⟩) 1 1] 69) = W
 have hs:w.heap.size + 1 = W.heap.size:=by rw [← hW];simp
 have h1:=show (Kd.int .u32).R 134 ((W.alloc (.cells #[] 134)).alloc (.cells #[.int .u32 1] 134)) w.heap.size (fun k=>k = W.heap.size) (.slice (some ⟨W.heap.size,0,none⟩) 0 0) [] from Kd.R_alloc (Kd.R_of_own (ok:=fun k=>k = W.heap.size) (own_lit W w.heap.size 134 .u32 [] (by omega) (by simp)) (fun k hk=>by simpa [Value.ownBlock] using hk.symm)) (.cells #[.int .u32 1] 134)
 have h2:=show (Kd.int .u32).R 134 ((W.alloc (.cells #[] 134)).alloc (.cells #[.int .u32 1] 134)) w.heap.size (fun k=>k = (W.alloc (.cells #[] 134)).heap.size) (.slice (some ⟨(W.alloc (.cells #[] 134)).heap.size,0,none⟩) 1 1) [1] from Kd.R_of_own (ok:=fun k=>k = (W.alloc (.cells #[] 134)).heap.size) (own_lit (W.alloc (.cells #[] 134)) w.heap.size 134 .u32 [1] (by simp;omega) (by simp)) (fun k hk=>by simpa [Value.ownBlock] using hk.symm)
 rw [show (W.alloc (.cells #[] 134)).heap.size = W.heap.size + 1 from by simp] at h2
 rw [hs]
 exact ratK_made (s:=false) (Kd.R_mono h1 (fun _ _=>trivial)) h2 (fun k hk=>⟨trivial,by simp [Value.ownBlock];omega⟩)
theorem ratK_made2 {w:World} {base:Nat} {s:Bool} {l l':List Int} {v v':Value} {ok1 ok2 ok':Nat → Prop} (h:natK.M w base ok1 l [v]) (h':natK.M w base ok2 l' [v']) (h1:∀ k,ok1 k → ok' k) (h2:∀ k,ok2 k → ok' k) (hd:∀ k,ok1 k → ok2 k → False):ratK.M w base ok' ⟨s,l,l'⟩ [.bool s,v,v'] :=
 ratK_made (Kd.R_mono (natK_row h) h1) (natK_row h') (fun k hk=>⟨h2 k hk,fun e=>hd k ((natK_row h).1 k e.symm) hk⟩)
end Go.Proofs.YtijldkknhphgcaaGreat.Hand
end
