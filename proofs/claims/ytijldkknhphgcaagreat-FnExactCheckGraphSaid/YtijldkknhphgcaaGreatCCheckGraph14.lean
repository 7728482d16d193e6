/- Texts of one proof, one behind the other: each tells what it proves. -/
import Derived.Test.YtijldkknhphgcaaGreatCCheckGraph13
import Derived.Test.YtijldkknhphgcaaGreatCCheckGraph12
import Derived.Test.YtijldkknhphgcaaGreatCCheckGraph4
import Derived.Test.YtijldkknhphgcaaGreatRows
import Derived.WalkKit
import Derived.ProofKit
import Derived.OpenShut
import Derived.ShutString
import Derived.ChangeOld
import Derived.Below
import Derived.SizedLaws
import Derived.Conc.Holds
import Derived.Leaving

section
/- The sizes of rationals, of maps, of nets. No condition. -/
set_option linter.unusedVariables false
set_option linter.unusedSimpArgs false
namespace Go.Proofs.YtijldkknhphgcaaGreat.Pv
open Go.RowKit
def SzOk (n:Int):Prop:=-1 ≤ n ∧ n ≤ 1048576
theorem szN_ok {n:Nat} {left:Int} (h:LeftOk left):SzOk (szN n left):=by
 unfold szN SzOk
 have:=h.1
 have:=h.2
 split <;> omega
def thenSz (a:Int) (f:Int → Int):Int:=if a < 0 then -1 else f a
theorem thenSz_ok {a:Int} {f:Int → Int} (ha:SzOk a) (hf:∀ x,LeftOk x → SzOk (f x)):SzOk (thenSz a f):=by
 unfold thenSz
 split
 ·exact ⟨by omega,by omega⟩
 ·exact hf a ⟨by omega,ha.2⟩
def szS {α:Type} (f:α → Int → Int):List α → Int → Int
 | [],left=>left
 | x :: r,left=>thenSz (f x left) (szS f r)
theorem szS_ok {α:Type} {f:α → Int → Int} (hf:∀ x a,LeftOk a → SzOk (f x a)):∀ (l:List α) (a:Int),LeftOk a → SzOk (szS f l a)
 | [],a,h=>⟨by have:=h.1;show -1 ≤ a;omega,h.2⟩
 | x :: r,a,h=>thenSz_ok (hf x a h) (szS_ok hf r)
theorem szS_drop {α:Type} [Inhabited α] {f:α → Int → Int} {l:List α} {k:Nat} (h:k < l.length) (a:Int):szS f (l.drop k) a = thenSz (f (l.getD k default) a) (szS f (l.drop (k + 1))):=by
 rw [List.drop_eq_getElem_cons h,szS]
 simp [h]
def szR (r:RtD) (left:Int):Int:=thenSz (szN r.2.1.length left) (szN r.2.2.length)
theorem szR_ok (r:RtD) (a:Int) (h:LeftOk a):SzOk (szR r a):=thenSz_ok (szN_ok h) fun x hx=>szN_ok hx
def szRs (l:List RtD) (left:Int):Int:=thenSz (szN l.length left) (szS szR l)
theorem szRs_ok (l:List RtD) (a:Int) (h:LeftOk a):SzOk (szRs l a):=thenSz_ok (szN_ok h) fun x hx=>szS_ok szR_ok l x hx
def ShR (r:RtD):Prop:=Short r.2.1 ∧ Short r.2.2
def ShRs (l:List RtD):Prop:=l.length ≤ 9223372036854775807 ∧ ∀ r ∈ l,ShR r
def szCon {α:Type} (d:α → Bool × List D) (Sh:α → Prop) (f:α → Int → Int):Con:=⟨α × Int,fun g=>[d g.1,(false,[.v (.int .i64 g.2)])],fun g=>Sh g.1 ∧ LeftOk g.2,fun _ g=>int .i64 (f g.1 g.2),true⟩
theorem vI {a b:Int} (h:a = b):Value.int .i64 a = Value.int .i64 b:=by rw [h]
theorem szRat_valid:Valid Tryz.prog 45 (szCon (fun x:RtD=>(true,rowR x)) ShR szR):=by
 refine valid_intro (ts:=[4]) (szCon (fun x:RtD=>(true,rowR x)) ShR szR) Tryz.func45 rfl rfl rfl (by decide) (fun _=>Nat.le_of_ble_eq_true rfl) ?_
 rintro ⟨q,left⟩ ⟨(hs:ShR q),(hl:LeftOk left)⟩ nm nx
 have e:szR q left = thenSz (szN q.2.1.length left) (szN q.2.2.length):=rfl
 have o1:SzOk (szN q.2.1.length left):=szN_ok hl
 ((conv=>whnf);repeat'((first|refine zo T rfl ?_|refine zl ?_);conv=>whnf))
 refine .inl ⟨szLCon,(q.2.1,left),szUint32S_valid,⟨hs.1,hl⟩,.cons (.same _ _) (.cons (.same _ _) .nil),?_⟩
 ((conv=>whnf);repeat'((first|refine zo T rfl ?_|refine zl ?_);conv=>whnf))
 refine W_cond rfl (fun h=>?_) (fun h=>?_)
 ·have h:decide (szN q.2.1.length left < 0) = true:=h
  ((conv=>whnf);repeat'((first|refine zo T rfl ?_|refine zl ?_);conv=>whnf))
  refine W_ret ⟨.inr rfl,.one (.p _ _ _ (.cons (.v _ _ (vI ?_)) .nil))⟩
  show -1 = szR q left
  rw [e,thenSz,if_pos (of_decide_eq_true h)]
 ·have h:decide (szN q.2.1.length left < 0) = false:=h
  have h:=of_decide_eq_false h
  rw [thenSz,if_neg h] at e
  ((conv=>whnf);repeat'((first|refine zo T rfl ?_|refine zl ?_);conv=>whnf))
  refine .inl ⟨szLCon,(q.2.2,szN q.2.1.length left),szUint32S_valid,⟨hs.2,⟨by omega,o1.2⟩⟩,.cons (.same _ _) (.cons (.same _ _) .nil),?_⟩
  ((conv=>whnf);repeat'((first|refine zo T rfl ?_|refine zl ?_);conv=>whnf))
  refine W_cond rfl (fun h2=>?_) (fun h2=>?_)
  ·have h2:decide (szN q.2.2.length (szN q.2.1.length left) < 0) = true:=h2
   have h2:=of_decide_eq_true h2
   have o2:SzOk (szN q.2.2.length (szN q.2.1.length left)):=szN_ok ⟨by omega,o1.2⟩
   have:=o2.1
   ((conv=>whnf);repeat'((first|refine zo T rfl ?_|refine zl ?_);conv=>whnf))
   refine W_ret ⟨.inr rfl,.one (.p _ _ _ (.cons (.v _ _ (vI ?_)) .nil))⟩
   show -1 = szR q left
   rw [e]
   omega
  ·((conv=>whnf);repeat'((first|refine zo T rfl ?_|refine zl ?_);conv=>whnf))
   exact W_ret ⟨.inr rfl,.one (.p _ _ _ (.cons (.v _ _ (vI e.symm)) .nil))⟩
theorem szRatS_valid:Valid Tryz.prog 15 (szCon (fun l:List RtD=>(false,[ratsR l])) ShRs szRs):=by
 refine valid_intro (ts:=[4]) (szCon (fun l:List RtD=>(false,[ratsR l])) ShRs szRs) Tryz.func15 rfl rfl rfl (by decide) (fun _=>Nat.le_of_ble_eq_true rfl) ?_
 rintro ⟨l,left⟩ ⟨(hs:ShRs l),(hl:LeftOk left)⟩ nm nx
 have hlen:(l.map rowR).length = l.length:=by simp
 have hs1:=hs.1
 have hl1:=hl.1
 have hl2:=hl.2
 have e:szRs l left = thenSz (szN l.length left) (szS szR l):=rfl
 ((conv=>whnf);repeat'((first|refine zo T rfl ?_|refine zl ?_);conv=>whnf))
 refine ⟨by show _ ≤ left - ((l.map rowR).length:Int) ∧ left - ((l.map rowR).length:Int) ≤ _;omega,?_⟩
 ((conv=>whnf);repeat'((first|refine zo T rfl ?_|refine zl ?_);conv=>whnf))
 refine W_cond rfl (fun h=>?_) (fun h=>?_)
 ·have h:decide (left - ((l.map rowR).length:Int) < 0) = true:=h
  rw [hlen] at h
  have h:=of_decide_eq_true h
  ((conv=>whnf);repeat'((first|refine zo T rfl ?_|refine zl ?_);conv=>whnf))
  refine W_ret ⟨.inr rfl,.one (.p _ _ _ (.cons (.v _ _ (vI ?_)) .nil))⟩
  show -1 = szRs l left
  rw [e,szN,if_pos h]
  rfl
 ·have h:decide (left - ((l.map rowR).length:Int) < 0) = false:=h
  rw [hlen] at h
  have h:=of_decide_eq_false h
  rw [szN,if_neg h,thenSz,if_neg h] at e
  ((conv=>whnf);repeat'((first|refine zo T rfl ?_|refine zl ?_);conv=>whnf))
  refine W_loop (ι:=Nat × Int) (fun i=>i.1 ≤ l.length ∧ LeftOk i.2 ∧ szRs l left = szS szR (l.drop i.1) i.2) (fun i=>⟨[(0,.one (.p false [ratsR l])),(1,int .i64 i.2),(5,int .i64 i.1)],[],27,nx,0⟩) (fun i=>l.length - i.1) (0,left - l.length) ⟨Nat.zero_le _,⟨by show 0 ≤ left - (l.length:Int);omega,by show left - (l.length:Int) ≤ 1048576;omega⟩,e⟩ ?_ ?_
  ·refine ⟨rfl,rfl,rfl,Nat.zero_le _,trivial,⟨rfl,?_,rfl,trivial⟩,rfl⟩
   show int .i64 (left - ((l.map rowR).length:Int)) = _
   rw [hlen]
  ·rintro ⟨k,a⟩ ⟨(hk:k ≤ l.length),(ha:LeftOk a),(he:szRs l left = szS szR (l.drop k) a)⟩
   ((conv=>whnf);repeat'((first|refine zo T rfl ?_|refine zl ?_);conv=>whnf))
   refine W_cond rfl (fun h=>?_) (fun h=>?_)
   ·have h1:k < l.length:=by
     have:decide ((k:Int) < (l.map rowR).length) = true:=h
     simpa using this
    have m1:l.getD k default ∈ l:=by simp [h1]
    have hkm:(k:Int) < 1048577:=by omega
    have o1:=szR_ok (l.getD k default) a ha
    rw [szS_drop h1] at he
    ((conv=>whnf);repeat'((first|refine zo T rfl ?_|refine zl ?_);conv=>whnf))
    refine ⟨Int.natCast_nonneg k,by show (k:Int) < (l.map rowR).length;omega,_,rowMap l rowR _,?_⟩
    refine .inl ⟨szCon (fun x:RtD=>(true,rowR x)) ShR szR,(l.getD k default,a),szRat_valid,⟨hs.2 _ m1,ha⟩,.cons (.same _ _) (.cons (.same _ _) .nil),?_⟩
    ((conv=>whnf);repeat'((first|refine zo T rfl ?_|refine zl ?_);conv=>whnf))
    refine W_cond rfl (fun h3=>?_) (fun h3=>?_)
    ·have h3:decide (szR (l.getD k default) a < 0) = true:=h3
     ((conv=>whnf);repeat'((first|refine zo T rfl ?_|refine zl ?_);conv=>whnf))
     refine W_ret ⟨.inr rfl,.one (.p _ _ _ (.cons (.v _ _ (vI ?_)) .nil))⟩
     show -1 = szRs l left
     rw [he,thenSz,if_pos (of_decide_eq_true h3)]
    ·have h3:decide (szR (l.getD k default) a < 0) = false:=h3
     have h3:=of_decide_eq_false h3
     rw [thenSz,if_neg h3] at he
     ((conv=>whnf);repeat'((first|refine zo T rfl ?_|refine zl ?_);conv=>whnf))
     refine ⟨by omega,?_⟩
     exact ⟨(k + 1,szR (l.getD k default) a),⟨h1,⟨by omega,o1.2⟩,he⟩,by show l.length - (k + 1) < l.length - k;omega,by (refine St.le_mk ?_ ?_ ?_ ?_ ?_ ?_ ?_ <;> kernel_rfl)⟩
   ·have h1:k = l.length:=by
     have:decide ((k:Int) < (l.map rowR).length) = false:=h
     simp at this
     omega
    subst h1
    rw [List.drop_length,szS] at he
    ((conv=>whnf);repeat'((first|refine zo T rfl ?_|refine zl ?_);conv=>whnf))
    exact W_ret ⟨.inr rfl,.one (.p _ _ _ (.cons (.v _ _ (vI he.symm)) .nil))⟩
end Go.Proofs.YtijldkknhphgcaaGreat.Pv
end

section
/- Arguments of the laws, as the views have them: rationals, maps, nets that are read. Conditions: the types are the program's. -/
set_option linter.unusedVariables false
set_option linter.unusedSimpArgs false
namespace Go.Proofs.YtijldkknhphgcaaGreat.Pv
open Go.ChangeShapes Go.WideShapes Go.Joins Go.RowKit Go.Proofs.YtijldkknhphgcaaGreatW.PrintWords
def mW (W:World):M:=⟨W,fun k=>k < W.heap.size,TK.no⟩
theorem bl_out {e:E} {b:Bool} {v:Value} (h:RelX e (bl b) v):v = .bool b:=by
 obtain ⟨vs,⟨hl,hr⟩,hv⟩:=h
 obtain ⟨x,rfl⟩:∃ x,vs = [x]:=by
  match vs,hl with
  | [x],_=>exact ⟨x,rfl⟩
 cases hr 0 _ _ rfl rfl
 exact (Option.some.inj hv).symm
theorem kd_li {α:Type} {d:Kd α} {mk:α → List D} {good:α → Prop} {W:World} (hk:∀ x cs,d.K W x cs → good x → RelDL (mW W) (mk x) cs) (hs:0 < d.sz) {A:Option Addr} {c:Nat} {l:List α} (hC:d.C W A l.length l) (hc:l.length ≤ c) (hg:∀ x ∈ l,good x) :
  RelD (mW W) (.li none d.sz (l.map mk)) (.slice A l.length c):=by
 cases l with
 | nil=>exact .nil _ _ _ _
 | cons a r =>
  obtain ⟨ad,rfl,hcell⟩:=hC.2.2 (by simp)
  have at_:∀ (i:Nat) x,(a :: r)[i]? = some x → ∃ cs,cs.length = d.sz ∧ RelDL (mW W) (mk x) cs ∧ ∀ (j:Nat) u,cs[j]? = some u → W.cell? (ad.add (i * d.sz + j)) = some u:=by
   intro i x hx
   obtain ⟨cs,h1,h2,h3⟩:=hcell i x hx
   exact ⟨cs,h1,hk x cs h2 (hg x (List.mem_of_getElem? hx)),h3⟩
  obtain ⟨cs0,g1,g2,g3⟩:=at_ 0 a rfl
  have hu:=g3 0 cs0[0] (List.getElem?_eq_getElem (by omega))
  rw [Nat.zero_mul,Nat.zero_add] at hu
  have hblk:=World.block_lt_of_cell? W _ hu
  obtain ⟨blk,off,sp⟩:=ad
  have hsp:sp = none:=by
   cases sp with
   | none=>rfl
   | some s =>
    simp only [World.cell?,Addr.add,if_true] at hu
    split at hu <;> simp at hu
  subst hsp
  have hlen:((a :: r).map mk).length = (a :: r).length:=by simp
  rw [← hlen]
  rw [add_plain] at hu
  have hblk:blk < W.heap.size:=World.block_lt_of_cell? W _ hu
  have key:∀ i j y,cellAt ((a :: r).map mk) i j = some y → ∃ u,W.cell? ⟨blk,off + (i * d.sz + j),none⟩ = some u ∧ RelD (mW W) y u:=by
   intro i j y hy
   unfold cellAt at hy
   rw [List.getElem?_map] at hy
   cases hx:(a :: r)[i]? with
   | none=>rw [hx] at hy;cases hy
   | some x =>
    rw [hx] at hy
    have hy:(mk x)[j]? = some y:=hy
    obtain ⟨cs,h1,h2,h3⟩:=at_ i x hx
    have hj:j < cs.length:=by rw [← h2.1];exact (List.getElem?_eq_some_iff.1 hy).1
    have h4:=h3 j cs[j] (List.getElem?_eq_getElem hj)
    rw [add_plain] at h4
    exact ⟨cs[j],h4,h2.2 j y cs[j] hy (List.getElem?_eq_getElem hj)⟩
  refine .li none d.sz _ blk off c (fun i j=>(W.cell? ⟨blk,off + (i * d.sz + j),none⟩).getD undef) hblk (fun i j y hy=>?_) (fun i j y hy=>?_) (by rw [hlen];exact hc)
  ·obtain ⟨u,h1,h2⟩:=key i j y hy
   show W.cell? _ = some ((W.cell? _).getD undef)
   rw [h1]
   rfl
  ·obtain ⟨u,h1,h2⟩:=key i j y hy
   rw [h1]
   exact h2
theorem relDL1 {m:M} {d:D} {v:Value} (h:RelD m d v):RelDL m [d] [v]:=⟨rfl,fun i x u hx hu=>by
 cases i with
 | zero=>cases hx;cases hu;exact h
 | succ i=>cases hx⟩
theorem relDL_cons {m:M} {d:D} {v:Value} {ds:List D} {vs:List Value} (h:RelD m d v) (hs:RelDL m ds vs):RelDL m (d :: ds) (v :: vs):=⟨by simp [hs.1],fun i x u hx hu=>by
 cases i with
 | zero=>cases hx;cases hu;exact h
 | succ i=>exact hs.2 i x u hx hu⟩
def gR (r:Hand.Rt):RtD:=(r.neg,r.num.map Int.toNat,r.den.map Int.toNat)
def goodRt (r:Hand.Rt):Prop:=(Hand.Limbs r.num ∧ Hand.Limbs r.den) ∧ r.num.length ≤ 9223372036854775807 ∧ r.den.length ≤ 9223372036854775807
theorem lim_rel {W:World} {A:Option Addr} {c:Nat} {l:List Int} (hC:(Kd.int .u32).C W A l.length l) (hc:l.length ≤ c) (hl:Hand.Limbs l):RelD (mW W) (limR (l.map Int.toNat)) (.slice A l.length c):=by
 have h:=kd_li (d:=Kd.int .u32) (mk:=fun x=>[.v (.int .u32 x)]) (good:=fun _=>True) (fun x cs hx _=>by
  have hx:cs = [.int .u32 x]:=hx
  subst hx
  exact relDL1 (.v _ rfl)) (Nat.zero_lt_one) hC hc (fun _ _=>trivial)
 have e:(l.map fun x=>[D.v (.int .u32 x)]) = (l.map Int.toNat).map fun (x:Nat)=>[D.v (.int .u32 (x:Int))]:=by
  rw [List.map_map]
  refine List.map_congr_left fun x hx=>?_
  have:=hl x hx
  show [D.v (.int .u32 x)] = [D.v (.int .u32 (x.toNat:Int))]
  rw [Int.toNat_of_nonneg (by omega)]
 rw [e] at h
 exact h
theorem rat_rel {W:World} {r:Hand.Rt} {cs:List Value} (h:Hand.ratK.K W r cs) (hg:goodRt r):RelDL (mW W) (rowR (gR r)) cs:=by
 obtain ⟨A,c,A',c',rfl,h1,h2,h3,h4⟩:=Hand.ratK_form h
 exact relDL_cons (.v _ rfl) (relDL_cons (lim_rel h2 h1 hg.1.1) (relDL1 (lim_rel h4 h3 hg.1.2)))
def ratsOk (l:List Hand.Rt):Prop:=l.length ≤ 9223372036854775807 ∧ ∀ r ∈ l,goodRt r
theorem rats_rel {W:World} {A:Option Addr} {c:Nat} {l:List Hand.Rt} (hC:Hand.ratK.C W A l.length l) (hc:l.length ≤ c) (hl:ratsOk l):RelD (mW W) (ratsR (l.map gR)) (.slice A l.length c):=by
 have h:=kd_li (d:=Hand.ratK) (mk:=fun r=>rowR (gR r)) (good:=goodRt) (fun x cs hx hg=>rat_rel hx hg) (by decide) hC hc hl.2
 have e:(l.map gR).map rowR = l.map fun r=>rowR (gR r):=by rw [List.map_map];rfl
 unfold ratsR
 rw [e]
 exact h
theorem opens_ratG:Hand.Opens Hand.ratK 87 goodRt:=by
 intro H enc W fuel cs x hx
 obtain ⟨r,hK,hl⟩:=Hand.opens_rat enc W fuel cs x hx
 obtain ⟨A,c,A',c',rfl,h1,h2,h3,h4⟩:=Hand.ratK_form hK
 exact ⟨r,hK,hl,h2.2.1,h4.2.1⟩
def ratsK:Kd (List Hand.Rt):=Kd.slice 87 Hand.ratK
theorem opens_rats:Hand.Opens ratsK 22 ratsOk:=by
 intro H enc W fuel cs x hx
 obtain ⟨l,hK,hl⟩:=Hand.opens_slice Tryz.underlying22 (by kernel_rfl) opens_ratG enc W fuel cs x hx
 have hK':=hK
 obtain ⟨A,c,e,h1,h2⟩:=hK'
 exact ⟨l,hK,h2.2.1,hl⟩
def RawR (r:RtD):Prop:=(∀ x ∈ r.2.1,x < 4294967296) ∧ ∀ x ∈ r.2.2,x < 4294967296
theorem raw_R {r:Hand.Rt} (h:goodRt r):RawR (gR r):=by
 have key:∀ {l:List Int},Hand.Limbs l → ∀ x ∈ l.map Int.toNat,x < 4294967296:=by
  intro l hl x hx
  obtain ⟨y,hy,rfl⟩:=List.mem_map.1 hx
  have:=hl y hy
  omega
 exact ⟨key h.1.1,key h.1.2⟩
theorem raw_Rs {l:List Hand.Rt} (h:ratsOk l):(∀ r ∈ l.map gR,RawR r) ∧ ShRs (l.map gR):=by
 refine ⟨fun r hr=>?_,by simpa using h.1,fun r hr=>?_⟩
 ·obtain ⟨y,hy,rfl⟩:=List.mem_map.1 hr
  exact raw_R (h.2 y hy)
 ·obtain ⟨y,hy,rfl⟩:=List.mem_map.1 hr
  have:=(h.2 y hy).2
  exact ⟨by simpa [Short,gR] using this.1,by simpa [Short,gR] using this.2⟩
end Go.Proofs.YtijldkknhphgcaaGreat.Pv
end

section
/- Where the size is not negative, every list is short. No condition. -/
set_option linter.unusedVariables false
namespace Go.Proofs.YtijldkknhphgcaaGreat.Pv
theorem szN_pos {n:Nat} {a:Int} (ha:LeftOk a) (h:0 ≤ szN n a):n ≤ 1048576:=by
 have:=ha.2
 unfold szN at h
 split at h <;> omega
theorem thenSz_pos {a:Int} {f:Int → Int} (h:0 ≤ thenSz a f):0 ≤ a ∧ 0 ≤ f a:=by
 unfold thenSz at h
 split at h
 ·omega
 ·exact ⟨by omega,h⟩
theorem szS_pos {α:Type} {f:α → Int → Int} {G:α → Prop} (hf:∀ x a,LeftOk a → SzOk (f x a)) (hg:∀ x a,LeftOk a → 0 ≤ f x a → G x):∀ (l:List α) (a:Int),LeftOk a → 0 ≤ szS f l a → ∀ x ∈ l,G x
 | [],a,_,_,x,hx=>by cases hx
 | y :: r,a,ha,h,x,hx=>by
  obtain ⟨h1,h2⟩:=thenSz_pos (f:=szS f r) h
  rcases List.mem_cons.1 hx with rfl | hx
  ·exact hg _ a ha h1
  ·exact szS_pos hf hg r _ ⟨h1,(hf y a ha).2⟩ h2 x hx
def ShortR (r:RtD):Prop:=r.2.1.length ≤ 1048576 ∧ r.2.2.length ≤ 1048576
def ShortRs (l:List RtD):Prop:=l.length ≤ 1048576 ∧ ∀ r ∈ l,ShortR r
theorem szR_pos (r:RtD) (a:Int) (ha:LeftOk a) (h:0 ≤ szR r a):ShortR r:=by
 obtain ⟨h1,h2⟩:=thenSz_pos h
 exact ⟨szN_pos ha h1,szN_pos ⟨h1,(szN_ok ha).2⟩ h2⟩
theorem szRs_pos (l:List RtD) (a:Int) (ha:LeftOk a) (h:0 ≤ szRs l a):ShortRs l:=by
 obtain ⟨h1,h2⟩:=thenSz_pos h
 exact ⟨szN_pos ha h1,szS_pos szR_ok szR_pos l _ ⟨h1,(szN_ok ha).2⟩ h2⟩
end Go.Proofs.YtijldkknhphgcaaGreat.Pv
end

section
/- The sizes of graphs. No condition. -/
set_option linter.unusedVariables false
set_option linter.unusedSimpArgs false
namespace Go.Proofs.YtijldkknhphgcaaGreat.Pv
open Go.RowKit
def szNd (n:Nod) (left:Int):Int:=szRs n.v left
theorem szNd_ok (n:Nod) (a:Int) (h:LeftOk a):SzOk (szNd n a):=szRs_ok _ _ h
def szNs (l:List Nod) (left:Int):Int:=thenSz (szN l.length left) (szS szNd l)
theorem szNs_ok (l:List Nod) (a:Int) (h:LeftOk a):SzOk (szNs l a):=thenSz_ok (szN_ok h) fun x hx=>szS_ok szNd_ok l x hx
def szGr (g:Gr) (left:Int):Int:=thenSz (szRs g.lo left) fun a=>thenSz (szRs g.hi a) (szNs g.nodes)
def ShN (n:Nod):Prop:=ShRs n.v
def ShNs (l:List Nod):Prop:=l.length ≤ 9223372036854775807 ∧ ∀ r ∈ l,ShN r
def ShG (g:Gr):Prop:=ShRs g.lo ∧ ShRs g.hi ∧ ShNs g.nodes
theorem szNode_valid:Valid Tryz.prog 64 (szCon (fun l:Nod=>(true,rowN l)) ShN szNd):=by
 refine valid_intro (ts:=[4]) (szCon (fun l:Nod=>(true,rowN l)) ShN szNd) Tryz.func64 rfl rfl rfl (by decide) (fun _=>Nat.le_of_ble_eq_true rfl) ?_
 rintro ⟨l,left⟩ ⟨(hs:ShN l),(hl:LeftOk left)⟩ nm nx
 have o1:=szNd_ok l left hl
 ((conv=>whnf);repeat'((first|refine zo T rfl ?_|refine zl ?_);conv=>whnf))
 refine .inl ⟨szCon (fun l:List RtD=>(false,[ratsR l])) ShRs szRs,(l.v,left),szRatS_valid,⟨hs,hl⟩,.cons (.same _ _) (.cons (.same _ _) .nil),?_⟩
 ((conv=>whnf);repeat'((first|refine zo T rfl ?_|refine zl ?_);conv=>whnf))
 refine W_cond rfl (fun h=>?_) (fun h=>?_)
 ·have h:decide (szNd l left < 0) = true:=h
  have h:=of_decide_eq_true h
  have:=o1.1
  ((conv=>whnf);repeat'((first|refine zo T rfl ?_|refine zl ?_);conv=>whnf))
  refine W_ret ⟨.inr rfl,.one (.p _ _ _ (.cons (.v _ _ (vI ?_)) .nil))⟩
  show -1 = szNd l left
  omega
 ·((conv=>whnf);repeat'((first|refine zo T rfl ?_|refine zl ?_);conv=>whnf))
  exact W_ret ⟨.inr rfl,.one (.p _ _ _ (.cons (.v _ _ (vI rfl)) .nil))⟩
theorem szNodeS_valid:Valid Tryz.prog 31 (szCon (fun l:List Nod=>(false,[nodsD l])) ShNs szNs):=by
 refine valid_intro (ts:=[4]) (szCon (fun l:List Nod=>(false,[nodsD l])) ShNs szNs) Tryz.func31 rfl rfl rfl (by decide) (fun _=>Nat.le_of_ble_eq_true rfl) ?_
 rintro ⟨l,left⟩ ⟨(hs:ShNs l),(hl:LeftOk left)⟩ nm nx
 have hlen:(l.map rowN).length = l.length:=by simp
 have hs1:=hs.1
 have hl1:=hl.1
 have hl2:=hl.2
 have e:szNs l left = thenSz (szN l.length left) (szS szNd l):=rfl
 ((conv=>whnf);repeat'((first|refine zo T rfl ?_|refine zl ?_);conv=>whnf))
 refine ⟨by show _ ≤ left - ((l.map rowN).length:Int) ∧ left - ((l.map rowN).length:Int) ≤ _;omega,?_⟩
 ((conv=>whnf);repeat'((first|refine zo T rfl ?_|refine zl ?_);conv=>whnf))
 refine W_cond rfl (fun h=>?_) (fun h=>?_)
 ·have h:decide (left - ((l.map rowN).length:Int) < 0) = true:=h
  rw [hlen] at h
  have h:=of_decide_eq_true h
  ((conv=>whnf);repeat'((first|refine zo T rfl ?_|refine zl ?_);conv=>whnf))
  refine W_ret ⟨.inr rfl,.one (.p _ _ _ (.cons (.v _ _ (vI ?_)) .nil))⟩
  show -1 = szNs l left
  rw [e,szN,if_pos h]
  rfl
 ·have h:decide (left - ((l.map rowN).length:Int) < 0) = false:=h
  rw [hlen] at h
  have h:=of_decide_eq_false h
  rw [szN,if_neg h,thenSz,if_neg h] at e
  ((conv=>whnf);repeat'((first|refine zo T rfl ?_|refine zl ?_);conv=>whnf))
  refine W_loop (ι:=Nat × Int) (fun i=>i.1 ≤ l.length ∧ LeftOk i.2 ∧ szNs l left = szS szNd (l.drop i.1) i.2) (fun i=>⟨[(0,.one (.p false [nodsD l])),(1,int .i64 i.2),(5,int .i64 i.1)],[],27,nx,0⟩) (fun i=>l.length - i.1) (0,left - l.length) ⟨Nat.zero_le _,⟨by show 0 ≤ left - (l.length:Int);omega,by show left - (l.length:Int) ≤ 1048576;omega⟩,e⟩ ?_ ?_
  ·refine ⟨rfl,rfl,rfl,Nat.zero_le _,trivial,⟨rfl,?_,rfl,trivial⟩,rfl⟩
   show int .i64 (left - ((l.map rowN).length:Int)) = _
   rw [hlen]
  ·rintro ⟨k,a⟩ ⟨(hk:k ≤ l.length),(ha:LeftOk a),(he:szNs l left = szS szNd (l.drop k) a)⟩
   ((conv=>whnf);repeat'((first|refine zo T rfl ?_|refine zl ?_);conv=>whnf))
   refine W_cond rfl (fun h=>?_) (fun h=>?_)
   ·have h1:k < l.length:=by
     have:decide ((k:Int) < (l.map rowN).length) = true:=h
     simpa using this
    have m1:l.getD k default ∈ l:=by simp [h1]
    have hkm:(k:Int) < 1048577:=by omega
    have o1:=szNd_ok (l.getD k default) a ha
    rw [szS_drop h1] at he
    ((conv=>whnf);repeat'((first|refine zo T rfl ?_|refine zl ?_);conv=>whnf))
    refine ⟨Int.natCast_nonneg k,by show (k:Int) < (l.map rowN).length;omega,_,rowMap l rowN _,?_⟩
    refine .inl ⟨szCon (fun x:Nod=>(true,rowN x)) ShN szNd,(l.getD k default,a),szNode_valid,⟨hs.2 _ m1,ha⟩,.cons (.same _ _) (.cons (.same _ _) .nil),?_⟩
    ((conv=>whnf);repeat'((first|refine zo T rfl ?_|refine zl ?_);conv=>whnf))
    refine W_cond rfl (fun h3=>?_) (fun h3=>?_)
    ·have h3:decide (szNd (l.getD k default) a < 0) = true:=h3
     ((conv=>whnf);repeat'((first|refine zo T rfl ?_|refine zl ?_);conv=>whnf))
     refine W_ret ⟨.inr rfl,.one (.p _ _ _ (.cons (.v _ _ (vI ?_)) .nil))⟩
     show -1 = szNs l left
     rw [he,thenSz,if_pos (of_decide_eq_true h3)]
    ·have h3:decide (szNd (l.getD k default) a < 0) = false:=h3
     have h3:=of_decide_eq_false h3
     rw [thenSz,if_neg h3] at he
     ((conv=>whnf);repeat'((first|refine zo T rfl ?_|refine zl ?_);conv=>whnf))
     refine ⟨by omega,?_⟩
     exact ⟨(k + 1,szNd (l.getD k default) a),⟨h1,⟨by omega,o1.2⟩,he⟩,by show l.length - (k + 1) < l.length - k;omega,by (refine St.le_mk ?_ ?_ ?_ ?_ ?_ ?_ ?_ <;> kernel_rfl)⟩
   ·have h1:k = l.length:=by
     have:decide ((k:Int) < (l.map rowN).length) = false:=h
     simp at this
     omega
    subst h1
    rw [List.drop_length,szS] at he
    ((conv=>whnf);repeat'((first|refine zo T rfl ?_|refine zl ?_);conv=>whnf))
    exact W_ret ⟨.inr rfl,.one (.p _ _ _ (.cons (.v _ _ (vI he.symm)) .nil))⟩
theorem szGraph_valid:Valid Tryz.prog 6 (szCon (fun x:Gr=>(true,rowG x)) ShG szGr):=by
 refine valid_intro (ts:=[4]) (szCon (fun x:Gr=>(true,rowG x)) ShG szGr) Tryz.func6 rfl rfl rfl (by decide) (fun _=>Nat.le_of_ble_eq_true rfl) ?_
 rintro ⟨q,left⟩ ⟨(hs:ShG q),(hl:LeftOk left)⟩ nm nx
 have e:szGr q left = thenSz (szRs q.lo left) fun a=>thenSz (szRs q.hi a) (szNs q.nodes):=rfl
 obtain ⟨x,hx⟩:∃ x,x = szRs q.lo left:=⟨_,rfl⟩
 have o1:SzOk x:=hx ▸ szRs_ok _ _ hl
 rw [← hx] at e
 ((conv=>whnf);repeat'((first|refine zo T rfl ?_|refine zl ?_);conv=>whnf))
 refine .inl ⟨szCon (fun l:List RtD=>(false,[ratsR l])) ShRs szRs,(q.lo,left),szRatS_valid,⟨hs.1,hl⟩,.cons (.same _ _) (.cons (.same _ _) .nil),?_⟩
 ((conv=>whnf);repeat'((first|refine zo T rfl ?_|refine zl ?_);conv=>whnf))
 refine W_cond rfl (fun h=>?_) (fun h=>?_)
 ·have h:decide (szRs q.lo left < 0) = true:=h
  rw [← hx] at h
  ((conv=>whnf);repeat'((first|refine zo T rfl ?_|refine zl ?_);conv=>whnf))
  refine W_ret ⟨.inr rfl,.one (.p _ _ _ (.cons (.v _ _ (vI ?_)) .nil))⟩
  show -1 = szGr q left
  rw [e,thenSz,if_pos (of_decide_eq_true h)]
 ·have h:decide (szRs q.lo left < 0) = false:=h
  rw [← hx] at h
  have h:=of_decide_eq_false h
  have hl1:LeftOk x:=⟨by omega,o1.2⟩
  rw [thenSz,if_neg h] at e
  obtain ⟨y,hy⟩:∃ y,y = szRs q.hi x:=⟨_,rfl⟩
  have o2:SzOk y:=hy ▸ szRs_ok _ _ hl1
  rw [← hy] at e
  ((conv=>whnf);repeat'((first|refine zo T rfl ?_|refine zl ?_);conv=>whnf))
  refine .inl ⟨szCon (fun l:List RtD=>(false,[ratsR l])) ShRs szRs,(q.hi,szRs q.lo left),szRatS_valid,⟨hs.2.1,hx ▸ hl1⟩,.cons (.same _ _) (.cons (.same _ _) .nil),?_⟩
  ((conv=>whnf);repeat'((first|refine zo T rfl ?_|refine zl ?_);conv=>whnf))
  refine W_cond rfl (fun h2=>?_) (fun h2=>?_)
  ·have h2:decide (szRs q.hi (szRs q.lo left) < 0) = true:=h2
   rw [← hx,← hy] at h2
   ((conv=>whnf);repeat'((first|refine zo T rfl ?_|refine zl ?_);conv=>whnf))
   refine W_ret ⟨.inr rfl,.one (.p _ _ _ (.cons (.v _ _ (vI ?_)) .nil))⟩
   show -1 = szGr q left
   rw [e,thenSz,if_pos (of_decide_eq_true h2)]
  ·have h2:decide (szRs q.hi (szRs q.lo left) < 0) = false:=h2
   rw [← hx,← hy] at h2
   have h2:=of_decide_eq_false h2
   have hl2:LeftOk y:=⟨by omega,o2.2⟩
   rw [thenSz,if_neg h2] at e
   have o3:=szNs_ok q.nodes y hl2
   ((conv=>whnf);repeat'((first|refine zo T rfl ?_|refine zl ?_);conv=>whnf))
   refine .inl ⟨szCon (fun l:List Nod=>(false,[nodsD l])) ShNs szNs,(q.nodes,szRs q.hi (szRs q.lo left)),szNodeS_valid,⟨hs.2.2,by rw [← hx,← hy];exact hl2⟩,.cons (.same _ _) (.cons (.same _ _) .nil),?_⟩
   ((conv=>whnf);repeat'((first|refine zo T rfl ?_|refine zl ?_);conv=>whnf))
   refine W_cond rfl (fun h3=>?_) (fun h3=>?_)
   ·have h3:decide (szNs q.nodes (szRs q.hi (szRs q.lo left)) < 0) = true:=h3
    rw [← hx,← hy] at h3
    have h3:=of_decide_eq_true h3
    have:=o3.1
    ((conv=>whnf);repeat'((first|refine zo T rfl ?_|refine zl ?_);conv=>whnf))
    refine W_ret ⟨.inr rfl,.one (.p _ _ _ (.cons (.v _ _ (vI ?_)) .nil))⟩
    show -1 = szGr q left
    rw [e]
    omega
   ·((conv=>whnf);repeat'((first|refine zo T rfl ?_|refine zl ?_);conv=>whnf))
    refine W_ret ⟨.inr rfl,.one (.p _ _ _ (.cons (.v _ _ (vI ?_)) .nil))⟩
    show szNs q.nodes (szRs q.hi (szRs q.lo left)) = szGr q left
    rw [e,hy,hx]
def ShortNs (l:List Nod):Prop:=l.length ≤ 1048576 ∧ ∀ m ∈ l,ShortRs m.v
theorem szNs_pos (l:List Nod) (a:Int) (ha:LeftOk a) (h:0 ≤ szNs l a):ShortNs l:=by
 obtain ⟨h1,h2⟩:=thenSz_pos h
 exact ⟨szN_pos ha h1,szS_pos szNd_ok (fun n a ha h=>szRs_pos n.v a ha h) l _ ⟨h1,(szN_ok ha).2⟩ h2⟩
theorem szGr_pos (g:Gr) (a:Int) (ha:LeftOk a) (h:0 ≤ szGr g a):ShortRs g.lo ∧ ShortRs g.hi ∧ ShortNs g.nodes:=by
 obtain ⟨h1,h2⟩:=thenSz_pos h
 obtain ⟨h3,h4⟩:=thenSz_pos h2
 have l1:LeftOk (szRs g.lo a):=⟨h1,(szRs_ok _ _ ha).2⟩
 exact ⟨szRs_pos _ _ ha h1,szRs_pos _ _ l1 h3,szNs_pos _ _ ⟨h3,(szRs_ok _ _ l1).2⟩ h4⟩
end Go.Proofs.YtijldkknhphgcaaGreat.Pv
end

section
/- Arguments of the laws, as the views have them: nodes, graphs. Conditions: the types are the program's. -/
set_option linter.unusedVariables false
set_option linter.unusedSimpArgs false
namespace Go.Proofs.YtijldkknhphgcaaGreat.Pv
open Go.ChangeShapes Go.WideShapes Go.Joins Go.RowKit Go.Proofs.YtijldkknhphgcaaGreatW.PrintWords
theorem trod_struct6 {H:Type} {enc:TypeId × Value → H} {P:Program} {w:World} {base:Nat} {spare:Nat → Bool} {held:Bool} {t:TypeId} {f0 f1 f2 f3 f4 f5:Field} {fuel:Nat} {cs:List Value} {x:DataW H × List MemPlace}
  (ht:P.underlying t = some (.struct #[f0,f1,f2,f3,f4,f5])) (h:DataW.trod enc P w base spare held fuel t cs = some x) :
  cs.length = P.cellsOf t ∧ ∃ n,∀ (i:Nat) f,(#[f0,f1,f2,f3,f4,f5]:Array Field)[i]? = some f → ∃ y,DataW.trod enc P w base spare held n f.type ((cs.drop f.offset).take (P.cellsOf f.type)) = some y:=by
 obtain ⟨xs,n,_,rfl,hl,hlen,hf⟩:=DataW.trod_struct ht h
 refine ⟨hl,n,fun i f hi=>?_⟩
 have h1:=hf i f hi
 have hlt:i < xs.length:=by
  rw [hlen]
  exact (Array.getElem?_eq_some_iff.1 hi).1
 rw [List.getElem?_eq_getElem hlt] at h1
 exact ⟨_,h1⟩
def nodK:Kd (Int × Int × Int × Int × Int × List Hand.Rt):=Kd.pair (Kd.int .i64) (Kd.pair (Kd.int .i64) (Kd.pair (Kd.int .i64) (Kd.pair (Kd.int .i64) (Kd.pair (Kd.int .i64) ratsK))))
def gN (x:Int × Int × Int × Int × Int × List Hand.Rt):Nod:=⟨x.1,x.2.1,x.2.2.1,x.2.2.2.1,x.2.2.2.2.1,x.2.2.2.2.2.map gR⟩
def goodNd (x:Int × Int × Int × Int × Int × List Hand.Rt):Prop:=ratsOk x.2.2.2.2.2
theorem nod_rel {W:World} {x:Int × Int × Int × Int × Int × List Hand.Rt} {cs:List Value} (h:nodK.K W x cs) (hg:goodNd x):RelDL (mW W) (rowN (gN x)) cs:=by
 obtain ⟨c0,d0,rfl,h0,c1,d1,rfl,h1,c2,d2,rfl,h2,c3,d3,rfl,h3,c4,d4,rfl,h4,A,c,rfl,h5,h6⟩:=h
 have h0:c0 = [.int .i64 x.1]:=h0
 have h1:c1 = [.int .i64 x.2.1]:=h1
 have h2:c2 = [.int .i64 x.2.2.1]:=h2
 have h3:c3 = [.int .i64 x.2.2.2.1]:=h3
 have h4:c4 = [.int .i64 x.2.2.2.2.1]:=h4
 subst h0 h1 h2 h3 h4
 exact relDL_cons (.v _ rfl) (relDL_cons (.v _ rfl) (relDL_cons (.v _ rfl) (relDL_cons (.v _ rfl) (relDL_cons (.v _ rfl) (relDL1 (rats_rel h6 h5 hg))))))
set_option maxRecDepth 100000 in
theorem opens_nod:Hand.Opens nodK 111 goodNd:=by
 intro H enc W fuel cs x h
 obtain ⟨hl,n,hf⟩:=trod_struct6 Tryz.underlying111 h
 rw [show Tryz.prog.cellsOf 111 = 6 by kernel_rfl] at hl
 obtain ⟨c0,c1,c2,c3,c4,c5,rfl⟩:∃ a b c d e f,cs = [a,b,c,d,e,f]:=by
  match cs,hl with
  | [a,b,c,d,e,f],_=>exact ⟨a,b,c,d,e,f,rfl⟩
 obtain ⟨y0,h0⟩:=hf 0 _ rfl
 obtain ⟨y1,h1⟩:=hf 1 _ rfl
 obtain ⟨y2,h2⟩:=hf 2 _ rfl
 obtain ⟨y3,h3⟩:=hf 3 _ rfl
 obtain ⟨y4,h4⟩:=hf 4 _ rfl
 obtain ⟨y5,h5⟩:=hf 5 _ rfl
 have h0':DataW.trod enc Tryz.prog W 0 (fun _=>true) true n 3 [c0] = some y0:=h0
 have h1':DataW.trod enc Tryz.prog W 0 (fun _=>true) true n 3 [c1] = some y1:=h1
 have h2':DataW.trod enc Tryz.prog W 0 (fun _=>true) true n 3 [c2] = some y2:=h2
 have h3':DataW.trod enc Tryz.prog W 0 (fun _=>true) true n 3 [c3] = some y3:=h3
 have h4':DataW.trod enc Tryz.prog W 0 (fun _=>true) true n 3 [c4] = some y4:=h4
 have h5':DataW.trod enc Tryz.prog W 0 (fun _=>true) true n 22 [c5] = some y5:=h5
 obtain ⟨a,ha,_⟩:=Hand.opens_int Tryz.underlying3 enc W n _ _ h0'
 obtain ⟨b,hb,_⟩:=Hand.opens_int Tryz.underlying3 enc W n _ _ h1'
 obtain ⟨c,hc,_⟩:=Hand.opens_int Tryz.underlying3 enc W n _ _ h2'
 obtain ⟨d,hd,_⟩:=Hand.opens_int Tryz.underlying3 enc W n _ _ h3'
 obtain ⟨e,he,_⟩:=Hand.opens_int Tryz.underlying3 enc W n _ _ h4'
 obtain ⟨l,hK,gl⟩:=opens_rats enc W n _ _ h5'
 exact ⟨(a,b,c,d,e,l),⟨[c0],[c1,c2,c3,c4,c5],rfl,ha,[c1],[c2,c3,c4,c5],rfl,hb,[c2],[c3,c4,c5],rfl,hc,[c3],[c4,c5],rfl,hd,[c4],[c5],rfl,he,hK⟩,gl⟩
theorem opens_nods:Hand.Opens (Kd.slice 111 nodK) 23 (fun l=>∀ x ∈ l,goodNd x):=Hand.opens_slice Tryz.underlying23 (by kernel_rfl) opens_nod
def RawG (g:Gr):Prop:=(∀ r ∈ g.lo,RawR r) ∧ (∀ r ∈ g.hi,RawR r) ∧ ∀ n ∈ g.nodes,∀ r ∈ n.v,RawR r
set_option maxRecDepth 100000 in
theorem arg_graph {H:Type} {enc:TypeId × Value → H} {W:World} {r:Reach} {b0:Nat} {v:Value} {d:DataW H} {p:List MemPlace} (hv:Value.okWide Tryz.prog W r b0 25 v) (h:DataW.Trod enc Tryz.prog W 0 (fun _=>true) true 25 v d p) :
  ∃ g:Gr,(∃ us,RelDL (mW W) (rowG g) us ∧ mkV true us = some v) ∧ ShG g ∧ RawG g:=by
 obtain ⟨cs,rfl,hsz⟩:=okWide_struct Tryz.underlying25 hv
 obtain ⟨fuel,hf⟩:=h
 obtain ⟨hl,n,hf⟩:=trod_struct6 Tryz.underlying25 hf
 rw [show Tryz.prog.cellsOf 25 = 6 by kernel_rfl] at hsz
 obtain ⟨c0,c1,c2,c3,c4,c5,rfl⟩:∃ a b c d e f,cs = #[a,b,c,d,e,f]:=by
  obtain ⟨k⟩:=cs
  match k,hsz with
  | [a,b,c,d,e,f],_=>exact ⟨a,b,c,d,e,f,rfl⟩
 obtain ⟨y0,h0⟩:=hf 0 _ rfl
 obtain ⟨y1,h1⟩:=hf 1 _ rfl
 obtain ⟨y2,h2⟩:=hf 2 _ rfl
 obtain ⟨y3,h3⟩:=hf 3 _ rfl
 obtain ⟨y4,h4⟩:=hf 4 _ rfl
 obtain ⟨y5,h5⟩:=hf 5 _ rfl
 have h0':DataW.trod enc Tryz.prog W 0 (fun _=>true) true n 3 [c0] = some y0:=h0
 have h1':DataW.trod enc Tryz.prog W 0 (fun _=>true) true n 3 [c1] = some y1:=h1
 have h2':DataW.trod enc Tryz.prog W 0 (fun _=>true) true n 22 [c2] = some y2:=h2
 have h3':DataW.trod enc Tryz.prog W 0 (fun _=>true) true n 22 [c3] = some y3:=h3
 have h4':DataW.trod enc Tryz.prog W 0 (fun _=>true) true n 23 [c4] = some y4:=h4
 have h5':DataW.trod enc Tryz.prog W 0 (fun _=>true) true n 3 [c5] = some y5:=h5
 obtain ⟨a,ha,_⟩:=Hand.opens_int Tryz.underlying3 enc W n _ _ h0'
 obtain ⟨b,hb,_⟩:=Hand.opens_int Tryz.underlying3 enc W n _ _ h1'
 obtain ⟨lo,⟨A,c,e2,q2,k2⟩,g2⟩:=opens_rats enc W n _ _ h2'
 obtain ⟨hi,⟨B,d,e3,q3,k3⟩,g3⟩:=opens_rats enc W n _ _ h3'
 obtain ⟨ns,⟨C,f,e4,q4,k4⟩,g4⟩:=opens_nods enc W n _ _ h4'
 obtain ⟨o,ho,_⟩:=Hand.opens_int Tryz.underlying3 enc W n _ _ h5'
 have ha:[c0] = [.int .i64 a]:=ha
 have hb:[c1] = [.int .i64 b]:=hb
 have ho:[c5] = [.int .i64 o]:=ho
 simp only [List.cons.injEq,and_true] at ha hb ho e2 e3 e4
 subst ha hb ho e2 e3 e4
 have hN:=kd_li (d:=nodK) (mk:=fun x=>rowN (gN x)) (good:=goodNd) (fun x cs hx hg=>nod_rel hx hg) (by decide) k4 q4 g4
 have eN:(ns.map gN).map rowN = ns.map fun x=>rowN (gN x):=by rw [List.map_map];rfl
 refine ⟨⟨a,b,lo.map gR,hi.map gR,ns.map gN,o⟩,⟨[.int .i64 a,.int .i64 b,.slice A lo.length c,.slice B hi.length d,.slice C ns.length f,.int .i64 o],?_,rfl⟩,⟨(raw_Rs g2).2,(raw_Rs g3).2,by simpa using k4.2.1,fun m hm=>?_⟩,(raw_Rs g2).1,(raw_Rs g3).1,fun m hm=>?_⟩
 ·refine relDL_cons (.v _ rfl) (relDL_cons (.v _ rfl) (relDL_cons (rats_rel k2 q2 g2) (relDL_cons (rats_rel k3 q3 g3) (relDL_cons ?_ (relDL1 (.v _ rfl))))))
  show RelD (mW W) (.li none 6 ((ns.map gN).map rowN)) _
  rw [eN]
  exact hN
 ·obtain ⟨x,hx,rfl⟩:=List.mem_map.1 hm
  exact (raw_Rs (g4 x hx)).2
 ·obtain ⟨x,hx,rfl⟩:=List.mem_map.1 hm
  exact (raw_Rs (g4 x hx)).1
end Go.Proofs.YtijldkknhphgcaaGreat.Pv
end

section
/- The law FnExactCheckGraph over the views. No condition. -/
set_option linter.unusedVariables false
set_option linter.unusedSimpArgs false
namespace Go.Proofs.YtijldkknhphgcaaGreat.Pv
open Go.RowKit
theorem look_chk {g:Gr} {s:St} (h:ChkEnd g s):XLe true s.H (resX s [2,3,4]) (chkX (chkG g)):=by
 obtain ⟨l,c,i,e,h3,h4,h2⟩:=h
 show XLe true s.H (.tup [match look s.tm 2 with | .one v=>v | .tup _=>.un,match look s.tm 3 with | .one v=>v | .tup _=>.un,match look s.tm 4 with | .one v=>v | .tup _=>.un]) _
 rw [h3,h4]
 rcases h2 with ⟨rfl,h2⟩ | ⟨b,h2,hb⟩
 ·rw [h2,← e]
  exact .tup (.cons (.p _ _ _ (.cons (.nil _) .nil)) (.cons (.p _ _ _ (.cons (.v _ _ rfl) .nil)) (.cons (.p _ _ _ (.cons (.v _ _ rfl) .nil)) .nil)))
 ·rw [h2]
  exact ret_chk hb e
theorem check_valid:Valid Tryz.prog 9 (chkCon rokF cmpF):=by
 refine valid_intro (ts:=[2,3,4]) (c:=Tryz.f9.body.get!) (chkCon rokF cmpF) Tryz.func9 rfl rfl rfl (by decide) (fun _=>Nat.le_of_ble_eq_true rfl) ?_
 rintro (g:Gr) (hg:GOk g) nm nx
 rw [startF_eq]
 exact W_mono (check_W g hg nx) fun e s h=>⟨h.1,look_chk h.2⟩
def chkM:ConM:=⟨Gr,GOk,fun g=>[.one (.p true (rowG g))],fun g=>[.one (.p true (rowG g))],fun g=>.tup [.o false [.ow (1,0) (intsD (chkG g).1)],.p false [.v (.int .i64 (chkG g).2.1)],.p false [.v (.int .i64 (chkG g).2.2)]]⟩
theorem check_M:ValidM Tryz.prog 9 chkM:=by
 refine validM_intro (ts:=[2,3,4]) (c:=Tryz.f9.body.get!) chkM Tryz.func9 rfl rfl rfl (by decide) (fun _=>Nat.le_of_ble_eq_true rfl) ?_
 rintro (g:Gr) (hg:GOk g)
 rw [startM_eq]
 refine W_mono (check_W g hg 2) fun e s h=>⟨h.1,nmO,fun _=>some (1,0),nmO_ok,?_,.inl ⟨rfl,rfl⟩,trivial⟩
 obtain ⟨l,c,i,e,h3,h4,h2⟩:=h.2
 show XM nmO (fun _=>some (1,0)) s.H (.tup [match look s.tm 2 with | .one v=>v | .tup _=>.un,match look s.tm 3 with | .one v=>v | .tup _=>.un,match look s.tm 4 with | .one v=>v | .tup _=>.un]) (.tup [.o false [.ow (1,0) (intsD (chkG g).1)],.p false [.v (.int .i64 (chkG g).2.1)],.p false [.v (.int .i64 (chkG g).2.2)]])
 rw [h3,h4,← e]
 rcases h2 with ⟨rfl,h2⟩ | ⟨b,h2,hb⟩
 ·rw [h2]
  exact .tup _ _ _ _ rfl rfl ⟨.nil _,.v _ _ rfl,.v _ _ rfl,trivial⟩
 ·rw [h2]
  refine .tup _ _ _ _ rfl rfl ⟨.sl b _ 1 l.length _ _ (l.map iRow) hb (.inr ⟨_,rfl,rfl⟩) (by simp) (by decide) rfl (tree_flat fun r hr x hx=>?_),.v _ _ rfl,.v _ _ rfl,trivial⟩
  obtain ⟨y,_,rfl⟩:=List.mem_map.1 hr
  simp at hx
  exact ⟨_,hx⟩
def eqICon:Con:=⟨List Int,fun l=>[(false,[intsD l]),(false,[intsD l])],fun l=>l.length ≤ 1048576,fun _ _=>bl true,true⟩
theorem eqI_valid:Valid Tryz.prog 10 eqICon:=by
 refine valid_intro (ts:=[4]) eqICon Tryz.func10 rfl rfl rfl (by decide) (fun _=>Nat.le_of_ble_eq_true rfl) ?_
 rintro (l:List Int) (hl:l.length ≤ 1048576) nm nx
 have hll:(l.map iRow).length = l.length:=List.length_map ..
 ((conv=>whnf);repeat'((first|refine zo T rfl ?_|refine zl ?_);conv=>whnf))
 refine W_cond rfl (fun h=>?_) (fun _=>?_)
 ·exact absurd rfl (bne_iff_ne.1 (show (((l.map iRow).length:Int) != ((l.map iRow).length:Int)) = true from h))
 ((conv=>whnf);repeat'((first|refine zo T rfl ?_|refine zl ?_);conv=>whnf))
 refine W_loop (ι:=Nat) (fun k=>k ≤ l.length) (fun k=>⟨[(0,.one (.p false [intsD l])),(1,.one (.p false [intsD l])),(5,int .i64 k)],[],26,nx,0⟩) (fun k=>l.length - k) 0 (Nat.zero_le _) (by (refine St.le_mk ?_ ?_ ?_ ?_ ?_ ?_ ?_ <;> kernel_rfl)) ?_
 intro k hk
 ((conv=>whnf);repeat'((first|refine zo T rfl ?_|refine zl ?_);conv=>whnf))
 refine W_cond rfl (fun h=>?_) (fun h=>?_)
 ·have h1:k < l.length:=by
   have h:=of_decide_eq_true (show decide ((k:Int) < ((l.map iRow).length:Int)) = true from h)
   omega
  ((conv=>whnf);repeat'((first|refine zo T rfl ?_|refine zl ?_);conv=>whnf))
  refine W_draw T 9 rfl (by kernel_rfl) ?_
  refine ⟨Int.natCast_nonneg k,by show (k:Int) < (l.map iRow).length;omega,_,rowMap l iRow _,?_⟩
  refine ⟨Int.natCast_nonneg k,by show (k:Int) < (l.map iRow).length;omega,_,rowMap l iRow _,?_⟩
  ((conv=>whnf);repeat'((first|refine zo T rfl ?_|refine zl ?_);conv=>whnf))
  refine W_cond rfl (fun h3=>?_) (fun h3=>?_)
  ·exact absurd rfl (bne_iff_ne.1 (show (l.getD (k:Int).toNat default != l.getD (k:Int).toNat default) = true from h3))
  ((conv=>whnf);repeat'((first|refine zo T rfl ?_|refine zl ?_);conv=>whnf))
  refine ⟨by show _ ≤ (k:Int) + 1 ∧ (k:Int) + 1 ≤ _;omega,?_⟩
  ((conv=>whnf);repeat'((first|refine zo T rfl ?_|refine zl ?_);conv=>whnf))
  exact ⟨k + 1,by omega,by omega,by (refine St.le_mk ?_ ?_ ?_ ?_ ?_ ?_ ?_ <;> kernel_rfl)⟩
 ·((conv=>whnf);repeat'((first|refine zo T rfl ?_|refine zl ?_);conv=>whnf))
  exact W_ret ⟨.inr rfl,.one (.p _ _ _ (.cons (.v _ _ rfl) .nil))⟩
theorem chkN_len {rok:RtD → Bool}:∀ (l:List Nod) (dims:List Int),(chkN rok l dims).1.length ≤ dims.length + l.length
 | [],dims=>by simp [chkN]
 | n :: r,dims=>by
  unfold chkN
  split
  ·have:=chkN_len (rok:=rok) r (dims ++ [dimOf n dims])
   simp only [List.length_append,List.length_cons,List.length_nil] at this ⊢
   omega
  ·simp
theorem boxN_len {cmp:RtD → RtD → Int} {rest:Chk}:∀ (l m:List RtD) (j:Nat),(boxN cmp rest l m j).1.length ≤ rest.1.length
 | [],_,_=>by unfold boxN;exact Nat.le_refl _
 | _ :: _,[],_=>by unfold boxN;exact Nat.le_refl _
 | a :: l,b :: m,j=>by
  unfold boxN
  split
  ·exact Nat.zero_le _
  ·exact boxN_len l m (j + 1)
theorem chk_len {g:Gr} (hg:GOk g):(chkG g).1.length ≤ 1048576:=by
 unfold chkG chkF
 split
 ·rename_i h
  have h1:=boxN_len (cmp:=cmpF) (rest:=outF g (chkN rokF g.nodes [g.inp])) g.lo g.hi 0
  have h2:=chkN_len (rok:=rokF) g.nodes [g.inp]
  have h3:(outF g (chkN rokF g.nodes [g.inp])).1.length ≤ (chkN rokF g.nodes [g.inp]).1.length:=by
   unfold outF
   split
   ·split
    ·exact Nat.le_refl _
    ·exact Nat.zero_le _
   ·exact Nat.le_refl _
  have h4:=h.2.2.1
  simp only [List.length_cons,List.length_nil] at h2
  omega
 ·exact Nat.zero_le _
theorem cntRs_b {l:List RtD} (h:LsOk l):cntRs l ≤ 1048576 * 2097153:=by
 refine Nat.le_trans (cntRs_le (b:=2097153) fun r hr=>?_) (Nat.mul_le_mul_right _ h.1)
 have h1:r.2.1.length ≤ 1048576:=(h.2 r hr).1.2
 have h2:r.2.2.length ≤ 1048576:=(h.2 r hr).2.2
 unfold cntR
 omega
theorem cntG_b {g:Gr} (h:GOk g):1 + cntG g ≤ 4611686018427387904:=by
 have h1:=cntRs_b h.1
 have h2:=cntRs_b h.2.1
 have h3:cntNs g.nodes ≤ 1048576 * (5 + 1048576 * 2097153):=by
  refine Nat.le_trans (cntNs_le (b:=5 + 1048576 * 2097153) fun n hn=>?_) (Nat.mul_le_mul_right _ h.2.2.1)
  have:=cntRs_b (h.2.2.2 n hn)
  unfold cntN
  omega
 unfold cntG
 omega
theorem gr_ok {g:Gr} (h:RawG g) (hs:ShortRs g.lo ∧ ShortRs g.hi ∧ ShortNs g.nodes):GOk g:=by
 have key:∀ {l:List RtD},(∀ r ∈ l,RawR r) → ShortRs l → LsOk l:=fun h1 h2=>⟨h2.1,fun r hr=>⟨⟨(h1 r hr).1,(h2.2 r hr).1⟩,(h1 r hr).2,(h2.2 r hr).2⟩⟩
 exact ⟨key h.1 hs.1,key h.2.1 hs.2.1,hs.2.2.1,fun n hn=>key (h.2.2 n hn) (hs.2.2.2 n hn)⟩
def lawGCon:Con:=⟨Gr,fun g=>[(true,rowG g)],fun g=>ShG g ∧ RawG g,fun _ _=>bl true,true⟩
set_option maxHeartbeats 8000000 in
set_option maxRecDepth 100000 in
theorem law_check:Valid Tryz.prog 3 lawGCon:=by
 refine valid_intro0 (ts:=[2]) lawGCon Tryz.func3 rfl rfl rfl (by decide) (fun _=>Nat.le_of_ble_eq_true rfl) ?_
 rintro (g:Gr) (hp:ShG g ∧ RawG g) nm
 ((conv=>whnf);repeat'((first|refine zo T rfl ?_|refine zl ?_);conv=>whnf))
 refine .inl ⟨_,(g,1048576),szGraph_valid,⟨hp.1,by show (0:Int) ≤ 1048576;decide,by show (1048576:Int) ≤ 1048576;decide⟩,.cons (.same _ _) (.cons (.same _ _) .nil),?_⟩
 ((conv=>whnf);repeat'((first|refine zo T rfl ?_|refine zl ?_);conv=>whnf))
 refine W_cond rfl (fun h=>?_) (fun h=>?_)
 ·((conv=>whnf);repeat'((first|refine zo T rfl ?_|refine zl ?_);conv=>whnf))
  exact W_ret ⟨.inr rfl,.one (.p _ _ _ (.cons (.v _ _ rfl) .nil))⟩
 have h:decide (szGr g 1048576 < 0) = false:=h
 have hs:0 ≤ szGr g 1048576:=by simp at h;omega
 have hg:=gr_ok hp.2 (szGr_pos g 1048576 ⟨by omega,by omega⟩ hs)
 have hcl:=chk_len hg
 have hcg:=cntG_b hg
 have q1:((chkG g).2.1 != (chkG g).2.1) = false:=by simp
 have q2:((chkG g).2.2 != (chkG g).2.2) = false:=by simp
 have q3:decide (((1 + cntG g:Nat):Int) < 0) = false:=by
  rw [decide_eq_false_iff_not]
  omega
 ((conv=>whnf);repeat'((first|refine zo T rfl ?_|refine zl ?_);conv=>whnf))
 refine .inl ⟨grCon,g,toGraph_valid,hg,.cons (.same _ _) .nil,?_⟩
 ((conv=>whnf);repeat'((first|refine zo T rfl ?_|refine zl ?_);conv=>whnf))
 refine .inl ⟨chkCon rokF cmpF,g,specCheck_valid,hg,.cons (.same _ _) .nil,?_⟩
 ((conv=>whnf);repeat'((first|refine zo T rfl ?_|refine zl ?_);conv=>whnf))
 refine .inr (.inr (.inr ⟨_,rfl,call_new grM g toGraphM hg (.cons (.own _ _ rfl) .nil) rfl ?_⟩))
 ((conv=>whnf);repeat'((first|refine zo T rfl ?_|refine zl ?_);conv=>whnf))
 refine .inr (.inr (.inr ⟨_,rfl,call_new chkM g check_M hg (.cons (.data _ (true,rowG g) rfl (.tree _ _ _ rfl rfl)) .nil) rfl ?_⟩))
 ((conv=>whnf);repeat'((first|refine zo T rfl ?_|refine zl ?_);conv=>whnf))
 refine .inl ⟨eqICon,(chkG g).1,eqI_valid,hcl,.cons (.tree _ _ _ rfl rfl) (.cons (.same _ _) .nil),?_⟩
 (repeat'((first|refine zo T rfl ?_|refine zl ?_|refine zp q1 ?_|refine zq q1 ?_|refine zp q2 ?_|refine zq q2 ?_|refine zp rfl ?_|refine zq rfl ?_);conv=>whnf))
 refine W_cond rfl (fun h=>?_) (fun _=>?_)
 ·exact absurd (show ((chkG g).2.2 != (chkG g).2.2) = true from by rw [q1] at h;exact h) (by rw [q2];exact fun h=>by cases h)
 ((conv=>whnf);repeat'((first|refine zo T rfl ?_|refine zl ?_);conv=>whnf))
 refine W_draw T 5 rfl (by kernel_rfl) ?_
 ((conv=>whnf);repeat'((first|refine zo T rfl ?_|refine zl ?_);conv=>whnf))
 refine ⟨grCon,g,toGraph_valid,hg,.cons (.same _ _) .nil,?_⟩
 ((conv=>whnf);repeat'((first|refine zo T rfl ?_|refine zl ?_);conv=>whnf))
 refine ⟨eqGCon,(g,g),eqGraph_valid,⟨hg,hg⟩,.cons (.tree _ _ _ rfl rfl) (.cons (.same _ _) .nil),?_⟩
 ((conv=>whnf);repeat'((first|refine zo T rfl ?_|refine zl ?_);conv=>whnf))
 refine W_cond rfl (fun h=>?_) (fun _=>?_)
 ·have h:(!decide (g = g)) = true:=h
  simp at h
 ((conv=>whnf);repeat'((first|refine zo T rfl ?_|refine zl ?_);conv=>whnf))
 refine .inr (.inr (.inr ⟨_,rfl,call_tree markGM (g,1) [(0,2),(0,3),(0,4)] markG_M ⟨hg,hcg⟩ (by simp) rfl rfl (.cons (.own _ _ rfl) (.cons (.own _ _ rfl) .nil)) rfl rfl ?_⟩))
 (repeat'((first|refine zo T rfl ?_|refine zl ?_|refine zp q3 ?_|refine zq q3 ?_|refine zp q1 ?_|refine zq q1 ?_|refine zp rfl ?_|refine zq rfl ?_);conv=>whnf))
 refine .inl ⟨eqICon,(chkG g).1,eqI_valid,hcl,.cons (.tree _ _ _ rfl rfl) (.cons (.same _ _) .nil),?_⟩
 have q4:cond (decide (((1 + cntG g:Nat):Int) < 0)) true (!true) = false:=by rw [q3];rfl
 have q5:cond (cond (decide (((1 + cntG g:Nat):Int) < 0)) true (!true)) true ((chkG g).2.1 != (chkG g).2.1) = false:=by rw [q4];exact q1
 have q6:cond (cond (cond (decide (((1 + cntG g:Nat):Int) < 0)) true (!true)) true ((chkG g).2.1 != (chkG g).2.1)) true ((chkG g).2.2 != (chkG g).2.2) = false:=by rw [q5];exact q2
 (repeat'((first|refine zo T rfl ?_|refine zl ?_|refine zp q4 ?_|refine zq q4 ?_|refine zp q5 ?_|refine zq q5 ?_|refine zp rfl ?_|refine zq rfl ?_);conv=>whnf))
 refine W_cond rfl (fun h=>?_) (fun _=>?_)
 ·exact absurd (q6.symm.trans h) (fun h=>by cases h)
 ((conv=>whnf);repeat'((first|refine zo T rfl ?_|refine zl ?_);conv=>whnf))
 refine .inr (.inr (.inr ⟨_,rfl,call_tree markIM ((chkG g).1,1) [(1,0)] markI_M ⟨hcl,by show 1 ≤ 4611686018427387904;decide⟩ (by simp) rfl rfl (.cons (.own _ _ rfl) (.cons (.own _ _ rfl) .nil)) rfl rfl ?_⟩))
 ((conv=>whnf);repeat'((first|refine zo T rfl ?_|refine zl ?_);conv=>whnf))
 refine .inl ⟨heldICon,(1,(chkG g).1.length),heldI_valid,⟨by show 1 ≤ 4611686018427387904;decide,hcl⟩,.cons (.tree _ _ _ rfl rfl) (.cons (.same _ _) .nil),?_⟩
 ((conv=>whnf);repeat'((first|refine zo T rfl ?_|refine zl ?_);conv=>whnf))
 refine W_cond rfl (fun h=>?_) (fun _=>?_)
 ·have h:=of_decide_eq_true (show decide (((1 + (chkG g).1.length:Nat):Int) < 0) = true from h)
  omega
 ((conv=>whnf);repeat'((first|refine zo T rfl ?_|refine zl ?_);conv=>whnf))
 refine W_cond rfl (fun h=>?_) (fun _=>?_)
 ·exact absurd rfl (bne_iff_ne.1 (show (((1 + (chkG g).1.length:Nat):Int) != ((1 + (chkG g).1.length:Nat):Int)) = true from h))
 ((conv=>whnf);repeat'((first|refine zo T rfl ?_|refine zl ?_);conv=>whnf))
 refine .inl ⟨grCon,g,toGraph_valid,hg,.cons (.same _ _) .nil,?_⟩
 ((conv=>whnf);repeat'((first|refine zo T rfl ?_|refine zl ?_);conv=>whnf))
 refine .inl ⟨chkCon rokF cmpF,g,check_valid,hg,.cons (.same _ _) .nil,?_⟩
 ((conv=>whnf);repeat'((first|refine zo T rfl ?_|refine zl ?_);conv=>whnf))
 refine .inl ⟨eqICon,(chkG g).1,eqI_valid,hcl,.cons (.same _ _) (.cons (.same _ _) .nil),?_⟩
 (repeat'((first|refine zo T rfl ?_|refine zl ?_|refine zp q1 ?_|refine zq q1 ?_|refine zp q2 ?_|refine zq q2 ?_|refine zp rfl ?_|refine zq rfl ?_);conv=>whnf))
 refine W_cond rfl (fun h=>?_) (fun _=>?_)
 ·exact absurd (show ((chkG g).2.2 != (chkG g).2.2) = true from by rw [q1] at h;exact h) (by rw [q2];exact fun h=>by cases h)
 ((conv=>whnf);repeat'((first|refine zo T rfl ?_|refine zl ?_);conv=>whnf))
 exact W_ret ⟨.inr rfl,.one (.p _ _ _ (.cons (.v _ _ rfl) .nil))⟩
end Go.Proofs.YtijldkknhphgcaaGreat.Pv
end

section
/- The law FnExactCheckGraph as a row: whatever the input, it returns true and the input reads as it did. Conditions: those of the statement. -/
/- The law FnExactCheckGraph as a row: whatever the input, it returns true and the input reads as it did. Conditions: those of the statement. -/
namespace Go.Proofs.YtijldkknhphgcaaGreat.fnExactCheckGraph
open Go.ChangeShapes Go.WideShapes Go.ChangeAt Go.RowKit
open Go.ChangeMaps (open_string shut_string)
set_option linter.unusedVariables false
theorem own:ownKnob Tryz.prog.godebug = none:=by kernel_rfl
theorem laidOut:laidOutB Tryz.prog = true:=by kernel_rfl
theorem leaving_of_handed {a:Assume} {C:Checked} {os:Os} {f:FuncId} {r:Reach} {Pre:World → Array Value → Prop} {Post:World → Array Value → Value → World → Prop} (h:ReturnsInHanded a C os f r Pre Post):Go.ReturnsInLeavingWide a C os f r Pre Post:=fun enter=>by
 obtain ⟨h1,h2,h3,h4,h5⟩:=h enter
 refine ⟨h1,h2,h3,h4,fun w tape i hf=>?_⟩
 obtain ⟨n,v,w',g1,g2,g3,g4,⟨j,last,g5,g6,g7⟩,g8⟩:=h5 w tape i hf
 exact ⟨n,v,w',g1,g2,g3,g4,⟨j,last,g5,g6,g7.2.1,onlyLeaving_of_quiet g7.1,g7.2.2⟩,g8⟩
set_option maxRecDepth 100000 in
theorem lifted (os:Os) (started:os.Started) (H:Type) (enc:TypeId × Value → H) :
  ReturnsInHanded {} Tryz.checked os 3 .any (Rows.fnExactCheckGraphSpec.pre6 enc Tryz.prog Tryz.f3 Rows.fnExactCheckGraphRow.domain false) (Rows.fnExactCheckGraphSpec.post enc Tryz.prog Tryz.f3 false true false false):=by
 refine returnsInHanded_of_change_sized (C:=Tryz.checked) own started (by kernel_rfl) Tryz.func3
  (ChangeSpec.witness6 (enc:=enc) (C:=Tryz.checked) false ⟨#[],#[.agg #[.int .i64 0,.int .i64 0,.slice none 0 0,.slice none 0 0,.slice none 0 0,.int .i64 0]],[]⟩ 8 (by kernel_rfl) (by kernel_rfl) (by kernel_rfl) (by kernel_rfl)) ?_
 intro W base args ds gs before hval0 hW hcnd hsz0 _
 have hval:∀ (j:Nat) t v,Tryz.f3.params[j]? = some t → args[j]? = some v → Value.okWide Tryz.prog W .any base t v:=hval0
 have hW':=hW
 obtain ⟨p,q,hA0,hV,rfl,hfz,hnd⟩:=hW
 have hA:DataW.TrodAll enc Tryz.prog W 0 (fun _=>true) true Tryz.f3.params.toList args.toList ds p:=hA0
 rw [Tryz.params3] at hA hval
 obtain ⟨v0,vs0,d0,ds0,p0,q0,hargs,rfl,rfl,h0,r0⟩:=trodAll_cons hA
 obtain ⟨rfl,rfl,rfl⟩:=trodAll_nil r0
 obtain rfl:args = #[v0]:=by cases args;simp_all
 obtain ⟨rfl,rfl⟩:=trodVars_none hV
 have k0:=h0
 have lt0:∀ x ∈ p0,x.block < W.heap.size:=by obtain ⟨m,hm⟩:=k0;exact DataW.trod_lt m _ _ _ hm
 obtain ⟨g,⟨us,hrel,hmk⟩,hg⟩:=Pv.arg_graph (hval 0 25 v0 rfl rfl) h0
 clear hA0 hval0 hsz0
 refine (Pv.law_check.2 g hg 0 W (fun k=>k < W.heap.size) Pv.TK.no [v0] (fun _ h=>h) (fun z hz=>by cases hz) ⟨rfl,fun i x u hx hu=>?_⟩).mono fun e W' ⟨v,tk,he,bel,hr⟩=>?_
 ·cases i with
  | zero=>cases hx;cases hu;exact ⟨us,hrel,hmk⟩
  | succ i=>cases hx
 subst he
 obtain rfl:v = .bool true:=Pv.bl_out hr
 exact ⟨_,rfl,_,_,_,[],_,[],hW',trodAll_mk1 (shut_bool Tryz.underlying4 _),(trodAll_cons_mk (Below.trod laidOut (by kernel_rfl) (of_decide_eq_true (by kernel_rfl)) k0 bel lt0) trodAll_mk0),rfl,bel.frame _,fun h=>by cases h⟩
end Go.Proofs.YtijldkknhphgcaaGreat.fnExactCheckGraph
namespace Go.Proofs.YtijldkknhphgcaaGreat
open Go Go.RowKit
theorem fnExactCheckGraph_holds:Rows.FnExactCheckGraphSaid :=
 OpenClaim.holds_of_wide_leaving 3 Tryz.f3 rfl rfl rfl rfl rfl rfl rfl ⟨rfl,rfl,rfl,rfl,rfl⟩ rfl rfl rfl rfl rfl (by kernel_rfl) Tryz.func3 (by kernel_rfl)
  (of_decide_eq_true (by kernel_rfl)) (by unfold Func.isWrapper;first | (rw [if_pos (by decide +kernel)];kernel_rfl) | (rw [if_neg (by decide +kernel)];exact ⟨rfl,rfl⟩))
  (fun os started H enc _=>fnExactCheckGraph.leaving_of_handed (fnExactCheckGraph.lifted os started H enc))
#print axioms fnExactCheckGraph_holds
end Go.Proofs.YtijldkknhphgcaaGreat
end
